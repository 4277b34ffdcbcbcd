/- The reading held against the model: its soundness. -/
import Derived.Test.YtfpioigggjnffaaGreatDoorEvA
import Derived.Calls
import Derived.Laws.AppendOwn
import Derived.Laws.Closers25b
import Derived.Laws.StructEq
import Derived.Laws.MakeOwn
import Derived.Laws.BytesString
set_option linter.unnecessarySimpa false
set_option linter.unusedSimpArgs false
set_option linter.unusedVariables false
set_option autoImplicit false
namespace Go.Ev
def one:Value→Prop
 | .agg _=>False
 | .tuple _=>False
 |_=>True
def flatD:D→Prop
 | .agg _=>False
 |_=>True
inductive DR (w:World) (Im:Nat→Nat→Prop):D→Value→Prop
 |bool (b:Bool):DR w Im (.bool b) (.bool b)
 |int (k:IntKind) (n:Int):DR w Im (.int k n) (.int k n)
 |str (s:ByteArray):DR w Im (.str s.data.toList) (.string s)
 |empty (a:Option Addr) (c:Nat):DR w Im (.list []) (.slice a 0 c)
 |list (xs:List D) (b o sz c:Nat) (u:Nat→Nat→Value) (hc:xs.length≤c)
   (h1: ∀(i:Nat) x,xs[i]? =some x→(cellsD x).length=sz)
   (h2: ∀(i:Nat) x (j:Nat) y,xs[i]? =some x→(cellsD x)[j]? =some y→flatD y∧Im b (o+i*sz+j)∧w.cell? ⟨b,o+i*sz+j,none⟩=some (u i j))
   (h3: ∀(i:Nat) x (j:Nat) y,xs[i]? =some x→(cellsD x)[j]? =some y→DR w Im y (u i j)):
   DR w Im (.list xs) (.slice (some ⟨b,o,none⟩) xs.length c)
 |agg (cs:List D) (arr:Array Value) (h1:arr.size=cs.length) (h2: ∀(j:Nat) y,cs[j]? =some y→flatD y)
   (h3: ∀(j:Nat) y u,cs[j]? =some y→arr[j]? =some u→DR w Im y u):DR w Im (.agg cs) (.agg arr)
inductive Loc where
 |none
 |blk (b:Nat)
 |row (a:Option (Nat×Nat)) (cap sz:Nat) (own:Bool)
def RowAt (l:Loc) (o len n:Nat) (u:Value):Prop:=
 ∃a cap sz own ad,l= .row a cap sz own∧u= .slice ad len (cap-o)∧o+len≤n∧o≤cap∧(cap-o=0∨∃b off,a=some (b,off)∧ad=some ⟨b,off+o*sz,Option.none⟩)
def EptrAt (l:Loc) (i j:Nat) (u:Value):Prop:=
 ∃b off cap sz own,l= .row (some (b,off)) cap sz own∧u= .pointer (some ⟨b,off+i*sz+j,Option.none⟩)
def isRowL:Loc→Prop
 | .row _ _ _ _=>True
 |_=>False
def isSlice:Value→Prop
 | .slice _ _ _=>True
 |_=>False
def isPtr:Value→Prop
 | .pointer (some _)=>True
 |_=>False
inductive VR (w:World) (Im:Nat→Nat→Prop) (loc:Nat→Loc) (st:Nat→Option (Nat×Nat)):V→Value→Prop
 |d (x:D) (u:Value) (h:DR w Im x u):VR w Im loc st (.d x) u
 |ptr (r off b:Nat) (h:loc r= .blk b):VR w Im loc st (.ptr r off) (.pointer (some ⟨b,off,none⟩))
 |eptr (r s i j:Nat) (u:Value) (h0:isPtr u) (hl:isRowL (loc r)) (h: ∃cur n,st r=some (cur,n)∧s≤cur∧(s=cur→EptrAt (loc r) i j u)):VR w Im loc st (.eptr r s i j) u
 |row (r s o len:Nat) (u:Value) (h0:isSlice u) (hl:isRowL (loc r)) (h: ∃cur n,st r=some (cur,n)∧s≤cur∧(s=cur→RowAt (loc r) o len n u)):VR w Im loc st (.row r s o len) u
 |cp (cs:List D) (j b o:Nat) (u:Nat→Value)
   (h2: ∀(k:Nat) y,cs[k]? =some y→flatD y∧Im b (o+k)∧w.cell? ⟨b,o+k,none⟩=some (u k))
   (h3: ∀(k:Nat) y,cs[k]? =some y→DR w Im y (u k)):VR w Im loc st (.cp cs j) (.pointer (some ⟨b,o+j,none⟩))
 |agg (cs:List V) (arr:Array Value) (h1:arr.size=cs.length) (h2: ∀(j:Nat) u,arr[j]? =some u→one u)
   (h3: ∀(j:Nat) v u,cs[j]? =some v→arr[j]? =some u→VR w Im loc st v u):VR w Im loc st (.agg cs) (.agg arr)
 |tup (vs:List V) (arr:Array Value) (h1:arr.size=vs.length)
   (h3: ∀(j:Nat) v u,vs[j]? =some v→arr[j]? =some u→VR w Im loc st v u):VR w Im loc st (.tup vs) (.tuple arr)
 |fn (f:Fn) (a b:List V) (a' b':Array Value) (h1:a'.size=a.length) (h2:b'.size=b.length)
   (h3: ∀(j:Nat) v u,a[j]? =some v→a'[j]? =some u→VR w Im loc st v u)
   (h4: ∀(j:Nat) v u,b[j]? =some v→b'[j]? =some u→VR w Im loc st v u):VR w Im loc st (.fn f a b) (.func f a' b')
 |nilp:VR w Im loc st .nilp (.pointer none)
 |nilfn:VR w Im loc st .nilfn .nilFunc
 |nilsl:VR w Im loc st .nilsl (.slice none 0 0)
 |undef:VR w Im loc st .undef Go.undef
 |dead (u:Value):VR w Im loc st .dead u
def VRs (w:World) (Im:Nat→Nat→Prop) (loc:Nat→Loc) (st:Nat→Option (Nat×Nat)) (vs:List V) (us:List Value):Prop:=
 us.length=vs.length∧∀(j:Nat) v u,vs[j]? =some v→us[j]? =some u→VR w Im loc st v u
def rowN:Option Obj→Option (Nat×Nat)
 |some (.row _ xs st _ _)=>some (st,xs.length)
 |_=>none
def stm (h:Map Obj) (r:Nat):Option (Nat×Nat):=rowN (getM h r)
def noFz (f:Nat×Nat) (n:Nat):Prop:=∀o,o<n→¬(f.1≤o∧o<f.2)
def RowRd (w:World) (Im:Nat→Nat→Prop) (b o sz:Nat) (xs:List D) (u:Nat→Nat→Value):Prop:=
 ∀(i:Nat) x (j:Nat) y,xs[i]? =some x→(cellsD x)[j]? =some y→flatD y∧w.cell? ⟨b,o+i*sz+j,none⟩=some (u i j)∧DR w Im y (u i j)
def CellsAt (w:World) (Im:Nat→Nat→Prop) (loc:Nat→Loc) (st:Nat→Option (Nat×Nat)) (b:Nat) (cs:List V):Prop:=
 ∃arr t f,w.heap[b]? =some (.cells arr t f)∧arr.size=cs.length∧noFz f arr.size∧(∀(j:Nat) u,arr[j]? =some u→one u)∧
  (∀(j:Nat) v u,cs[j]? =some v→arr[j]? =some u→VR w Im loc st v u)∧∀o,¬Im b o
def LentAt (Im:Nat→Nat→Prop) (a:Option (Nat×Nat)) (cap sz:Nat) (xs:List D) (fz:Bool):Prop:=
 cap=xs.length∧(fz=true∨xs=[])∧∀b o,a=some (b,o)→∀(i:Nat) x (j:Nat) y,xs[i]? =some x→(cellsD x)[j]? =some y→Im b (o+i*sz+j)
def OwnAt (w:World) (Im:Nat→Nat→Prop) (a:Option (Nat×Nat)) (cap sz:Nat) (xs:List D) (fz:Bool):Prop:=
 ∃b o arr t f,a=some (b,o)∧w.heap[b]? =some (.cells arr t f)∧noFz f arr.size∧(∀(j:Nat) u,arr[j]? =some u→one u)∧o+cap*sz≤arr.size∧
  (∀q,Im b q→q<o∨(fz=true∧q<o+xs.length*sz))∧sz≠0
def RowObj (w:World) (Im:Nat→Nat→Prop) (l:Loc) (sz:Nat) (xs:List D) (fz:Bool):Prop:=
 (∀(i:Nat) x,xs[i]? =some x→(cellsD x).length=sz)∧∃a cap own,l= .row a cap sz own∧xs.length≤cap∧(a=none→xs=[])∧
   (∀b o,a=some (b,o)→∃u,RowRd w Im b o sz xs u)∧(own=false→LentAt Im a cap sz xs fz)∧(own=true→OwnAt w Im a cap sz xs fz)
def ObjR (w:World) (Im:Nat→Nat→Prop) (loc:Nat→Loc) (st:Nat→Option (Nat×Nat)) (r:Nat):Obj→Prop
 | .cells cs=> ∃b,loc r= .blk b∧CellsAt w Im loc st b cs
 | .row sz xs _ fz _=>RowObj w Im (loc r) sz xs fz
def owns:Loc→Nat→Prop
 | .blk b,k=>b=k
 | .row (some (b,_)) _ _ true,k=>b=k
 |_,_=>False
structure Mem (w:World) (Im:Nat→Nat→Prop) (loc:Nat→Loc) (h:Map Obj):Prop where
 obj: ∀r o,getM h r=some o→ObjR w Im loc (stm h) r o
 no: ∀r,getM h r=none→loc r= .none
 inj: ∀r r' b,owns (loc r) b→owns (loc r') b→r=r'
 im: ∀b o,Im b o→b<w.heap.size
structure Grow (w:World) (Im:Nat→Nat→Prop) (loc:Nat→Loc) (st:Nat→Option (Nat×Nat)) (w':World) (Im':Nat→Nat→Prop) (loc':Nat→Loc) (st':Nat→Option (Nat×Nat)):Prop where
 im: ∀b o,Im b o→Im' b o
 cell: ∀b o,Im b o→w'.cell? ⟨b,o,none⟩=w.cell? ⟨b,o,none⟩
 blk: ∀r b,loc r= .blk b→loc' r= .blk b
 row: ∀r cur n,isRowL (loc r)→st r=some (cur,n)→isRowL (loc' r)∧∃cur' n',st' r=some (cur',n')∧cur≤cur'∧(cur'=cur→loc' r=loc r∧n≤n')
theorem Grow.refl (w:World) (Im:Nat→Nat→Prop) (loc:Nat→Loc) (st:Nat→Option (Nat×Nat)):Grow w Im loc st w Im loc st:=
 ⟨fun _ _ h=>h,fun _ _ _=>rfl,fun _ _ h=>h,fun _ cur n hl h=>⟨hl,cur,n,h,Nat.le_refl _,fun _=>⟨rfl,Nat.le_refl _⟩⟩⟩
theorem Grow.trans {w w1 w2:World} {Im Im1 Im2:Nat→Nat→Prop} {loc loc1 loc2:Nat→Loc} {st st1 st2:Nat→Option (Nat×Nat)} (h:Grow w Im loc st w1 Im1 loc1 st1) (k:Grow w1 Im1 loc1 st1 w2 Im2 loc2 st2):Grow w Im loc st w2 Im2 loc2 st2:=by
 refine⟨fun b o i=>k.im _ _ (h.im _ _ i),fun b o i=>(k.cell _ _ (h.im _ _ i)).trans (h.cell _ _ i),fun r b e=>k.blk _ _ (h.blk _ _ e),fun r cur n hl e=> ?_⟩
 obtain⟨hl1,c1,n1,e1,le1,g1⟩:=h.row r cur n hl e
 obtain⟨hl2,c2,n2,e2,le2,g2⟩:=k.row r c1 n1 hl1 e1
 refine⟨hl2,c2,n2,e2,Nat.le_trans le1 le2,fun e=> ?_⟩
 have ea:c1=cur:=by omega
 have eb:c2=c1:=by omega
 exact⟨(g2 eb).1.trans (g1 ea).1,Nat.le_trans (g1 ea).2 (g2 eb).2⟩
theorem DR.grow {w w':World} {Im Im':Nat→Nat→Prop} (hi: ∀b o,Im b o→Im' b o) (hc: ∀b o,Im b o→w'.cell? ⟨b,o,none⟩=w.cell? ⟨b,o,none⟩) {x:D} {u:Value} (h:DR w Im x u):DR w' Im' x u:=by
 induction h with
 |bool b=>exact .bool b
 |int k n=>exact .int k n
 |str s=>exact .str s
 |empty a c=>exact .empty a c
 |list xs b o sz c u hl h1 h2 h3 ih=>exact .list xs b o sz c u hl h1 (fun i x j y hx hy=>⟨(h2 i x j y hx hy).1,hi _ _ (h2 i x j y hx hy).2.1,(hc _ _ (h2 i x j y hx hy).2.1).trans (h2 i x j y hx hy).2.2⟩) ih
 |agg cs arr h1 h2 h3 ih=>exact .agg cs arr h1 h2 ih
theorem VR.grow {w w':World} {Im Im':Nat→Nat→Prop} {loc loc':Nat→Loc} {st st':Nat→Option (Nat×Nat)} (g:Grow w Im loc st w' Im' loc' st') {v:V} {u:Value} (h:VR w Im loc st v u):VR w' Im' loc' st' v u:=by
 induction h with
 |d x u h=>exact .d x u (h.grow g.im g.cell)
 |ptr r off b h=>exact .ptr r off b (g.blk _ _ h)
 |eptr r s i j u h0 hl h=>
  obtain⟨cur,n,e,le,hr⟩:=h
  obtain⟨hl',c',n',e',le',g'⟩:=g.row r cur n hl e
  refine .eptr r s i j u h0 hl' ⟨c',n',e',Nat.le_trans le le',fun es=> ?_⟩
  rw[(g' (by omega)).1]
  exact hr (by omega)
 |row r s o len u h0 hl h=>
  obtain⟨cur,n,e,le,hr⟩:=h
  obtain⟨hl',c',n',e',le',g'⟩:=g.row r cur n hl e
  refine .row r s o len u h0 hl' ⟨c',n',e',Nat.le_trans le le',fun es=> ?_⟩
  obtain⟨a,cap,sz,own,ad,h1,h2,h3,h4,h5⟩:=hr (by omega)
  exact⟨a,cap,sz,own,ad,(g' (by omega)).1.trans h1,h2,Nat.le_trans h3 (g' (by omega)).2,h4,h5⟩
 |cp cs j b o u h2 h3=>exact .cp cs j b o u (fun k y hk=>⟨(h2 k y hk).1,g.im _ _ (h2 k y hk).2.1,(g.cell _ _ (h2 k y hk).2.1).trans (h2 k y hk).2.2⟩) (fun k y hk=>(h3 k y hk).grow g.im g.cell)
 |agg cs arr h1 h2 h3 ih=>exact .agg cs arr h1 h2 ih
 |tup vs arr h1 h3 ih=>exact .tup vs arr h1 ih
 |fn f a b a' b' h1 h2 h3 h4 ih1 ih2=>exact .fn f a b a' b' h1 h2 ih1 ih2
 |nilp=>exact .nilp
 |nilfn=>exact .nilfn
 |nilsl=>exact .nilsl
 |undef=>exact .undef
 |dead u=>exact .dead u
theorem VRs.grow {w w':World} {Im Im':Nat→Nat→Prop} {loc loc':Nat→Loc} {st st':Nat→Option (Nat×Nat)} (g:Grow w Im loc st w' Im' loc' st') {vs:List V} {us:List Value} (h:VRs w Im loc st vs us):VRs w' Im' loc' st' vs us:=
 ⟨h.1,fun j v u hv hu=>(h.2 j v u hv hu).grow g⟩
theorem getM_setM {α:Type} (m:Map α) (r k:Nat) (a:α):getM (setM m r a) k=if r=k then some a else getM m k:=by
 induction m with
 |nil=>
  by_cases h:r=k
  ·simp[setM,getM,h]
  ·have:(r==k)=false:=by simpa using h
   simp[setM,getM,h,this]
 |cons p m ih=>
  obtain⟨q,b⟩:=p
  have hb: ∀x y:Nat,x≠y→(x==y)=false:=fun x y h=>by simpa using h
  by_cases h1:r=q
  ·subst h1
   by_cases h2:r=k
   ·simp[setM,getM,h2]
   ·simp[setM,getM,h2,hb _ _ h2]
  ·by_cases h3:r<q
   ·by_cases h2:r=k
    ·subst h2
     simp[setM,getM,h3,hb _ _ h1]
    ·simp[setM,getM,h3,h2,hb _ _ h1,hb _ _ h2]
   ·by_cases h2:r=k
    ·subst h2
     simp[setM,getM,h3,hb _ _ h1,hb _ _ (Ne.symm h1),ih]
    ·by_cases h4:q=k
     ·subst h4
      simp[setM,getM,h3,hb _ _ h1,h2]
     ·simp[setM,getM,h3,hb _ _ h1,hb _ _ h4,ih,h2]
theorem getM_setT {α:Type} (m:Map α) (r k:Nat) (a:α):getM (setT m r a) k=if r=k then some a else getM m k:=by
 induction m with
 |nil=>
  by_cases h:r=k
  ·simp[setT,getM,h]
  ·have:(r==k)=false:=by simpa using h
   simp[setT,getM,h,this]
 |cons p m ih=>
  obtain⟨q,b⟩:=p
  have hb: ∀x y:Nat,x≠y→(x==y)=false:=fun x y h=>by simpa using h
  by_cases h1:r=q
  ·subst h1
   by_cases h2:r=k
   ·simp[setT,getM,h2]
   ·simp[setT,getM,h2,hb _ _ h2]
  ·by_cases h3:q<r
   ·by_cases h2:r=k
    ·subst h2
     simp[setT,getM,h3,hb _ _ h1]
    ·simp[setT,getM,h3,h2,hb _ _ h1,hb _ _ h2]
   ·by_cases h2:r=k
    ·subst h2
     simp[setT,getM,h3,hb _ _ h1,hb _ _ (Ne.symm h1),ih]
    ·by_cases h4:q=k
     ·subst h4
      simp[setT,getM,h3,hb _ _ h1,h2]
     ·simp[setT,getM,h3,hb _ _ h1,hb _ _ h4,ih,h2]
theorem getM_set {α:Type} (m:Map α) (r:Nat) (a:α):getM (setM m r a) r=some a:=by rw[getM_setM];simp
theorem getM_ne {α:Type} (m:Map α) {r k:Nat} (a:α) (h:r≠k):getM (setM m r a) k=getM m k:=by rw[getM_setM];simp[h]
theorem getM_neT {α:Type} (m:Map α) {r k:Nat} (a:α) (h:r≠k):getM (setT m r a) k=getM m k:=by rw[getM_setT];simp[h]
end Go.Ev
set_option autoImplicit false
namespace Go.Ev
theorem one_oneCell {u:Value} (h:one u):u.oneCell'=true:=by cases u<;>simp_all [one,Value.oneCell']
theorem one_cells {u:Value} (h:one u):u.cells= #[u]:=by cases u<;>simp_all [one,Value.cells]
theorem DR.one {w:World} {Im:Nat→Nat→Prop} {x:D} {u:Value} (h:DR w Im x u) (hf:flatD x):Ev.one u:=by
 cases h<;>first|trivial|exact hf.elim
theorem takeN_spec {α:Type}: ∀(xs:List α) (n:Nat) (ys:List α),takeN xs n=some ys→ys.length=n∧∀j,j<n→ys[j]? =xs[j]? ∧(xs[j]?).isSome
 |xs,0,ys,h=>by
  obtain rfl:[]=ys:=by cases xs<;>exact Option.some.inj h
  exact⟨rfl,fun j hj=>absurd hj (by omega)⟩
 |[],n+1,ys,h=>by simp[takeN] at h
 |x::xs,n+1,ys,h=>by
  simp only[takeN,Option.map_eq_some_iff] at h
  obtain⟨zs,h1,rfl⟩:=h
  obtain⟨h2,h3⟩:=takeN_spec xs n zs h1
  refine⟨by simp[h2],fun j hj=> ?_⟩
  cases j with
  |zero=>simp
  |succ j=>simpa using h3 j (by omega)
theorem lenIs_iff {α:Type}: ∀(xs:List α) (n:Nat),lenIs xs n=true↔xs.length=n
 |[],0=>by simp[lenIs]
 |[],n+1=>by simp[lenIs]
 |_::xs,0=>by simp[lenIs]
 |_::xs,n+1=>by simp[lenIs,lenIs_iff xs n]
theorem okLen_some {α:Type} {n:Nat} {cs ds:List α} (h:okLen n cs=some ds):ds=cs∧cs.length=n:=by
 unfold okLen at h
 by_cases hl:lenIs cs n=true
 ·rw[hl] at h
  exact⟨(Option.some.inj h).symm,(lenIs_iff _ _).1 hl⟩
 ·simp only[Bool.not_eq_true] at hl
  rw[hl] at h
  cases h
section
variable {w:World} {Im:Nat→Nat→Prop} {loc:Nat→Loc} {st:Nat→Option (Nat×Nat)}
theorem cellsOkD_some {n:Nat} {x:D} {cs:List D} (h:cellsOkD n x=some cs):cs=cellsD x∧(cellsD x).length=n:=by
 cases x<;>exact okLen_some h
theorem DR.cells {x:D} {u:Value} (h:DR w Im x u):u.cells.size=(cellsD x).length∧∀(j:Nat) y z,(cellsD x)[j]? =some y→u.cells[j]? =some z→flatD y∧Ev.one z∧DR w Im y z:=by
 cases h with
 |agg cs arr h1 h2 h3=>exact⟨h1,fun j y z hy hz=>⟨h2 j y hy,(h3 j y z hy hz).one (h2 j y hy),h3 j y z hy hz⟩⟩
 |bool b=>exact⟨rfl,fun j y z hy hz=>by cases j<;>simp[cellsD,Value.cells] at hy hz;subst hy hz;exact⟨trivial,trivial, .bool b⟩⟩
 |int k n=>exact⟨rfl,fun j y z hy hz=>by cases j<;>simp[cellsD,Value.cells] at hy hz;subst hy hz;exact⟨trivial,trivial, .int k n⟩⟩
 |str s=>exact⟨rfl,fun j y z hy hz=>by cases j<;>simp[cellsD,Value.cells] at hy hz;subst hy hz;exact⟨trivial,trivial, .str s⟩⟩
 |empty a c=>exact⟨rfl,fun j y z hy hz=>by cases j<;>simp[cellsD,Value.cells] at hy hz;subst hy hz;exact⟨trivial,trivial, .empty a c⟩⟩
 |list xs b o sz c u hl h1 h2 h3=>exact⟨rfl,fun j y z hy hz=>by cases j<;>simp[cellsD,Value.cells] at hy hz;subst hy hz;exact⟨trivial,trivial, .list xs b o sz c u hl h1 h2 h3⟩⟩
theorem VR.cells {n:Nat} {v:V} {u:Value} {cs:List V} (h:VR w Im loc st v u) (hc:cellsOk n v=some cs):
 u.cells.size=n∧cs.length=n∧∀(j:Nat) x y,cs[j]? =some x→u.cells[j]? =some y→Ev.one y∧VR w Im loc st x y:=by
 have single: ∀{v:V} {u:Value},VR w Im loc st v u→Ev.one u→okLen n [v]=some cs→u.cells.size=n∧cs.length=n∧∀(j:Nat) x y,cs[j]? =some x→u.cells[j]? =some y→Ev.one y∧VR w Im loc st x y:=by
  intro v u hv h1 ho
  obtain⟨rfl,hl⟩:=okLen_some ho
  rw[one_cells h1]
  refine⟨by simpa using hl,hl,fun j x y hx hy=> ?_⟩
  cases j with
  |zero=>simp at hx hy;subst hx hy;exact⟨h1,hv⟩
  |succ j=>simp at hx
 cases h with
 |d x u h=>
  cases x with
  |agg ds=>
   obtain⟨rfl,hl⟩:=okLen_some hc
   obtain⟨h1,h2⟩:=h.cells
   refine⟨by simpa[cellsD] using h1.trans (by simpa[cellsD] using hl),hl,fun j x y hx hy=> ?_⟩
   simp only[List.getElem?_map,Option.map_eq_some_iff] at hx
   obtain⟨z,hz,rfl⟩:=hx
   obtain⟨_,h4,h5⟩:=h2 j z y hz hy
   exact⟨h4, .d _ _ h5⟩
  |bool b=>exact single (.d _ _ h) (h.one trivial) hc
  |int k a=>exact single (.d _ _ h) (h.one trivial) hc
  |str s=>exact single (.d _ _ h) (h.one trivial) hc
  |list xs=>exact single (.d _ _ h) (h.one trivial) hc
 |ptr r off b h=>exact single (.ptr r off b h) trivial hc
 |eptr r s i j u h0 hl h=>exact single (.eptr r s i j u h0 hl h) (by cases u<;>simp_all [isPtr,Ev.one]) hc
 |row r s o len u h0 hl h=>exact single (.row r s o len u h0 hl h) (by cases u<;>simp_all [isSlice,Ev.one]) hc
 |cp ds j b o u h2 h3=>exact single (.cp ds j b o u h2 h3) trivial hc
 |agg ds arr h1 h2 h3=>
  obtain⟨rfl,hl⟩:=okLen_some hc
  exact⟨h1.trans hl,hl,fun j x y hx hy=>⟨h2 j y hy,h3 j x y hx hy⟩⟩
 |tup vs arr h1 h3=>cases hc
 |fn f a b a' b' h1 h2 h3 h4=>exact single (.fn f a b a' b' h1 h2 h3 h4) trivial hc
 |nilp=>exact single .nilp trivial hc
 |nilfn=>exact single .nilfn trivial hc
 |nilsl=>exact single .nilsl trivial hc
 |undef=>cases hc
 |dead u=>cases hc
theorem allD_spec: ∀(cs:List V) (xs:List D),allD cs=some xs→cs=xs.map .d
 |[],xs,h=>by simp[allD] at h;simp[h]
 |v::vs,xs,h=>by
  simp only[allD] at h
  cases v with
  |d x=>
   cases hs:allD vs with
   |none=>simp[hs,allD.allD1] at h
   |some ys=>
    simp only[hs,allD.allD1,Option.some.injEq] at h
    subst h
    simp[allD_spec vs ys hs]
  |_=>simp[allD.allD1] at h
theorem VR.d_inv {x:D} {u:Value} (h:VR w Im loc st (.d x) u):DR w Im x u:=by cases h with|d _ _ h=>exact h
theorem VR.mkAgg {cs:List V} {arr:Array Value} (h1:arr.size=cs.length) (h2: ∀(j:Nat) u,arr[j]? =some u→Ev.one u)
 (h3: ∀(j:Nat) v u,cs[j]? =some v→arr[j]? =some u→VR w Im loc st v u):VR w Im loc st (mkAgg cs) (.agg arr):=by
 unfold Ev.mkAgg
 cases hc:allD cs with
 |none=>exact .agg cs arr h1 h2 h3
 |some xs=>
  have e:=allD_spec cs xs hc
  subst e
  refine .d _ _ (.agg xs arr (by simpa using h1) (fun j y hy=> ?_) (fun j y u hy hu=> ?_))
  ·have hj:j<arr.size:=by rw[h1];simpa using (List.getElem?_eq_some_iff.1 hy).1
   have hr:=h3 j (.d y) arr[j] (by simp[hy]) (by simp[hj])
   have ho:=h2 j arr[j] (by simp[hj])
   have hd:=hr.d_inv
   revert ho hd
   generalize arr[j]=u
   intro ho hd
   cases hd<;>first|trivial|exact ho.elim
  ·exact(h3 j (.d y) u (by simp[hy]) hu).d_inv
end
theorem tiOf_some {P:Program} {t:TypeId} {T:TI} (h:tiOf P t=some T): ∃i d z,P.info? t=some i∧P.underlying t=some d∧i.zero=some z∧
 T.size=i.size∧T.agg=aggB d∧T.bytes=i.bytes∧T.zero=z.cells.toList.map ofValue∧
 T.kind=kindD P d∧z.cells.toList.all isOne=true∧z.cells.size=i.size:=by
 unfold tiOf at h
 split at h
 ·rename_i i d hi hd
  split at h
  ·cases h
  ·rename_i z hz
   cases ho:(z.cells.toList.all isOne&&z.cells.size==i.size) with
   |false=>simp only[ho,cond_false,reduceCtorEq] at h
   |true=>
    simp only[ho,cond_true,Option.some.injEq] at h
    subst h
    simp only[Bool.and_eq_true,beq_iff_eq] at ho
    exact⟨i,d,z,hi,hd,hz,rfl,rfl,rfl,rfl,rfl,ho.1,ho.2⟩
 ·cases h
section
variable {P:Program} {w:World}
theorem run_typeInfo' {t:TypeId} {i:TypeInfo} (h:P.info? t=some i):(typeInfo t).run P w= .ok i w:=by simp[typeInfo,h]
theorem run_sizeOf' {t:TypeId} {i:TypeInfo} (h:P.info? t=some i):(sizeOf t).run P w= .ok i.size w:=by simp[sizeOf,run_typeInfo' h]
theorem run_isAgg {t:TypeId} {d:TypeDesc} (h:P.underlying t=some d):(isAgg t).run P w= .ok (aggB d) w:=by
 simp only[isAgg,Sem.run_bind,run_underlying h,Result.andThen_ok]
 cases d<;>rfl
theorem add_at (b o n:Nat):(⟨b,o,none⟩:Addr).add n=⟨b,o+n,none⟩:=Addr.add_lit b o n
theorem run_loadVar' {t:TypeId} {i:TypeInfo} {d:TypeDesc} (hi:P.info? t=some i) (hd:P.underlying t=some d) (b o:Nat):
 (aggB d=true→∀us:List Value,us.length=i.size→(∀(j:Nat) u,us[j]? =some u→w.cell? ⟨b,o+j,none⟩=some u)→(loadVar t ⟨b,o,none⟩).run P w= .ok (.agg us.toArray) w)∧
 (aggB d=false→∀u,w.cell? ⟨b,o,none⟩=some u→(loadVar t ⟨b,o,none⟩).run P w= .ok u w):=by
 refine⟨fun ha us hl hc=> ?_,fun ha u hc=> ?_⟩
 ·have hr:=run_loadCells_list (P:=P) w ⟨b,o,none⟩ us (fun j v hv=>by rw[add_at];exact hc j v hv)
  simp only[loadVar,Sem.run_bind,run_isAgg hd,Result.andThen_ok,ha,if_true,run_sizeOf' hi,←hl,hr,Sem.run_pure]
 ·simp only[loadVar,Sem.run_bind,run_isAgg hd,Result.andThen_ok,ha,Bool.false_eq_true,if_false]
  simp[run_load,hc]
end
end Go.Ev
set_option autoImplicit false
namespace Go.Ev
theorem cell_heap {w:World} {b o:Nat} {arr:Array Value} {t:TypeId} {f:Nat×Nat} (h:w.heap[b]? =some (.cells arr t f)):w.cell? ⟨b,o,none⟩=arr[o]? :=by
 simp[World.cell?,h]
theorem frozen_heap {w:World} {b o:Nat} {arr:Array Value} {t:TypeId} {f:Nat×Nat} (h:w.heap[b]? =some (.cells arr t f)) (hf:noFz f arr.size) (ho:o<arr.size):w.frozen? ⟨b,o,none⟩=false:=by
 have:=hf o ho
 obtain⟨lo,hi⟩:=f
 simp only[World.frozen?,h]
 simpa using this
section
variable {P:Program} {w:World} {Im:Nat→Nat→Prop} {loc:Nat→Loc} {h:Map Obj} {st:Nat→Option (Nat×Nat)}
theorem partD_run {t:TypeId} {T:TI} (ht:tiOf P t=some T) {cs:List D} {b o off:Nat} {f:Nat→Value} {v:V}
 (hc: ∀(k:Nat) y,cs[k]? =some y→flatD y∧w.cell? ⟨b,o+k,none⟩=some (f k)∧DR w Im y (f k)) (hp:partD T cs off=some v):
 ∃u,(loadVar t ⟨b,o+off,none⟩).run P w= .ok u w∧VR w Im loc st v u:=by
 obtain⟨i,d,z,hi,hd,hz,e1,e2,e3,e4,e5,e6,e7⟩:=tiOf_some ht
 obtain⟨r1,r2⟩:=run_loadVar' (P:=P) (w:=w) hi hd b (o+off)
 unfold partD at hp
 cases ha:T.agg with
 |true=>
  rw[ha] at hp
  simp only[cond_true] at hp
  cases hk:takeN (cs.drop off) T.size with
  |none=>simp[hk,aggD] at hp
  |some ys=>
   simp only[hk,aggD,Option.some.injEq] at hp
   subst hp
   obtain⟨l1,l2⟩:=takeN_spec _ _ _ hk
   have hy: ∀(j:Nat) y,ys[j]? =some y→cs[off+j]? =some y:=fun j y hj=>by
    have:=(l2 j (by rw[←l1];exact(List.getElem?_eq_some_iff.1 hj).1)).1
    rw[hj,List.getElem?_drop] at this
    exact this.symm
   refine⟨_,r1 (e2 ▸ ha) ((List.range T.size).map fun j=>f (off+j)) (by simp[e1]) (fun j u hu=> ?_), .d _ _ (.agg ys _ (by simp[l1]) (fun j y hj=>(hc _ _ (hy j y hj)).1) (fun j y u hj hu=> ?_))⟩
   ·simp only[List.getElem?_map,Option.map_eq_some_iff] at hu
    obtain⟨k,hk,rfl⟩:=hu
    obtain⟨hk1,hk2⟩:=List.getElem?_eq_some_iff.1 hk
    simp at hk1 hk2
    subst hk2
    obtain⟨x,hx⟩:=Option.isSome_iff_exists.1 (l2 j hk1).2
    rw[List.getElem?_drop] at hx
    rw[Nat.add_assoc]
    exact(hc _ _ hx).2.1
   ·have hj':j<T.size:=by rw[←l1];exact(List.getElem?_eq_some_iff.1 hj).1
    simp[hj'] at hu
    subst hu
    exact(hc _ _ (hy j y hj)).2.2
 |false=>
  rw[ha] at hp
  simp only[cond_false] at hp
  cases hk:cs[off]? with
  |none=>simp[hk,oneD] at hp
  |some x=>
   simp only[hk,oneD,Option.some.injEq] at hp
   subst hp
   exact⟨_,r2 (e2 ▸ ha) _ (hc off x hk).2.1, .d _ _ (hc off x hk).2.2⟩
theorem partV_arr {T:TI} {cs:List V} {arr:Array Value} {off:Nat} {v:V} (h1:arr.size=cs.length) (h2: ∀(j:Nat) u,arr[j]? =some u→Ev.one u)
 (h3: ∀(j:Nat) v u,cs[j]? =some v→arr[j]? =some u→VR w Im loc st v u) (hp:partV T cs off=some v):
 (T.agg=true→∃us:List Value,us.length=T.size∧(∀(j:Nat) u,us[j]? =some u→arr[off+j]? =some u)∧(T.size=0∨off+T.size≤arr.size)∧VR w Im loc st v (.agg us.toArray))∧
 (T.agg=false→∃u,arr[off]? =some u∧VR w Im loc st v u):=by
 unfold partV at hp
 refine⟨fun ha=> ?_,fun ha=> ?_⟩
 ·rw[ha] at hp
  simp only[cond_true] at hp
  cases hk:takeN (cs.drop off) T.size with
  |none=>simp[hk,aggV] at hp
  |some ys=>
   simp only[hk,aggV,Option.some.injEq] at hp
   subst hp
   obtain⟨l1,l2⟩:=takeN_spec _ _ _ hk
   have hin: ∀j,j<T.size→off+j<arr.size:=fun j hj=>by
    obtain⟨x,hx⟩:=Option.isSome_iff_exists.1 (l2 j hj).2
    rw[List.getElem?_drop] at hx
    rw[h1]
    exact(List.getElem?_eq_some_iff.1 hx).1
   have hus: ∀(j:Nat) u,((List.range T.size).map fun j=>arr.getD (off+j) Go.undef)[j]? =some u→arr[off+j]? =some u:=fun j u hu=>by
    simp only[List.getElem?_map,Option.map_eq_some_iff] at hu
    obtain⟨k,hk,rfl⟩:=hu
    obtain⟨hk1,hk2⟩:=List.getElem?_eq_some_iff.1 hk
    simp at hk1 hk2
    subst hk2
    have:=hin j hk1
    simp[this]
   refine⟨(List.range T.size).map fun j=>arr.getD (off+j) Go.undef,by simp,hus, ?_,VR.mkAgg (by simp[l1]) (fun j u hu=>h2 _ _ (hus j u (by simpa using hu))) (fun j x u hx hu=>h3 (off+j) x u ?_ (hus j u (by simpa using hu)))⟩
   ·cases hs:T.size with
    |zero=>exact .inl rfl
    |succ n=>exact .inr (by have:=hin n (by omega);omega)
   ·have:=(l2 j (by rw[←l1];exact(List.getElem?_eq_some_iff.1 hx).1)).1
    rw[hx,List.getElem?_drop] at this
    exact this.symm
 ·rw[ha] at hp
  simp only[cond_false] at hp
  have hj:off<arr.size:=by rw[h1];exact(List.getElem?_eq_some_iff.1 hp).1
  exact⟨arr[off],by simp[hj],h3 off v _ hp (by simp[hj])⟩
theorem ldV_spec (hM:Mem w Im loc h) {hs:Map Obj} (hsub: ∀r o,getM hs r=some o→getM h r=some o) {t:TypeId} {T:TI} (ht:tiOf P t=some T) {a v:V} {ua:Value}
 (ha:VR w Im loc (stm h) a ua) (hl:ldV hs (some T) a=some v): ∃u,(Instr.loadAt t ua).run P w= .ok u w∧VR w Im loc (stm h) v u:=by
 cases ha with
 |ptr r off b hb=>
  simp only[ldV] at hl
  cases hr:getM hs r with
  |none=>simp[hr,ldO] at hl
  |some o=>
   cases o with
   |row=>simp[hr,ldO] at hl
   |cells cs=>
    simp only[hr,ldO] at hl
    obtain⟨b',hb',arr,ty,f,q1,q2,q3,q4,q5,q6⟩:=hM.obj r _ (hsub _ _ hr)
    obtain rfl:b=b':=by rw[hb] at hb';exact(Loc.blk.inj hb')
    obtain⟨i,d,z,hi,hd,hz,e1,e2,e3,e4,e5,e6,e7⟩:=tiOf_some ht
    obtain⟨r1,r2⟩:=run_loadVar' (P:=P) (w:=w) hi hd b off
    obtain⟨p1,p2⟩:=partV_arr q2 q4 q5 hl
    simp only[Instr.loadAt,Instr.sureAddr,Sem.run_bind,Sem.run_pure,Result.andThen_ok]
    cases hg:T.agg with
    |true=>
     obtain⟨us,u1,u2,_,u3⟩:=p1 hg
     exact⟨_,r1 (e2 ▸ hg) us (u1.trans e1) (fun j u hu=>(cell_heap q1).trans (u2 j u hu)),u3⟩
    |false=>
     obtain⟨u,u1,u2⟩:=p2 hg
     exact⟨u,r2 (e2 ▸ hg) u ((cell_heap q1).trans u1),u2⟩
 |eptr r s i j u h0 hl' hh=>
  simp only[ldV] at hl
  cases hr:getM hs r with
  |none=>simp[hr,ldE] at hl
  |some o=>
   cases o with
   |cells=>simp[hr,ldE] at hl
   |row sz xs s' fz chg=>
    simp only[hr,ldE] at hl
    split at hl
    ·rename_i es
     subst es
     obtain⟨cur,n,e1,e2,e3⟩:=hh
     have hg:=hsub _ _ hr
     simp only[stm,hg,rowN,Option.some.injEq,Prod.mk.injEq] at e1
     obtain⟨b,o,cap,sz',own,e4,rfl⟩:=e3 e1.1
     obtain⟨w1,a',cap',own',w2,w3,w4,w5,w6,w7⟩:=hM.obj r _ hg
     rw[e4] at w2
     obtain⟨rfl,rfl,rfl,rfl⟩:=Loc.row.inj w2
     obtain⟨f,hf⟩:=w5 b o rfl
     simp only[Instr.loadAt,Instr.sureAddr,Sem.run_bind,Sem.run_pure,Result.andThen_ok]
     cases hx:xs[i]? with
     |none=>simp[hx,ldX] at hl
     |some x=>
      simp only[hx,ldX] at hl
      cases hk:cellsOkD sz' x with
      |none=>simp[hk,ldX.ldX1] at hl
      |some cs=>
       simp only[hk,ldX.ldX1] at hl
       obtain⟨rfl,_⟩:=cellsOkD_some hk
       exact partD_run ht (b:=b) (o:=o+i*sz') (off:=j) (f:=fun k=>f i k) (fun k y hy=>hf i x k y hx hy) hl
    ·cases hl
 |cp cs j b o u h2 h3=>
  simp only[ldV] at hl
  simp only[Instr.loadAt,Instr.sureAddr,Sem.run_bind,Sem.run_pure,Result.andThen_ok]
  exact partD_run ht (f:=u) (fun k y hy=>⟨(h2 k y hy).1,(h2 k y hy).2.2,h3 k y hy⟩) hl
 |_=>simp[ldV] at hl
end
end Go.Ev
set_option autoImplicit false
namespace Go.Ev
section
variable {P:Program} {w:World} {Im:Nat→Nat→Prop} {loc:Nat→Loc} {h:Map Obj} {st:Nat→Option (Nat×Nat)}
theorem VR.int_inv {k:IntKind} {n:Int} {u:Value} (h:VR w Im loc st (.d (.int k n)) u):u= .int k n:=by
 cases h with|d _ _ h=>cases h;rfl
theorem VR.bool_inv {b:Bool} {u:Value} (h:VR w Im loc st (.d (.bool b)) u):u= .bool b:=by
 cases h with|d _ _ h=>cases h;rfl
theorem VR.str_inv {s:List UInt8} {u:Value} (h:VR w Im loc st (.d (.str s)) u): ∃b:ByteArray,u= .string b∧b.data.toList=s:=by
 cases h with|d _ _ h=>cases h;exact⟨_,rfl,rfl⟩
theorem VR.list_inv {xs:List D} {u:Value} (h:VR w Im loc st (.d (.list xs)) u): ∃a c,u= .slice a xs.length c∧xs.length≤c:=by
 cases h with
 |d _ _ h=>
  cases h with
  |empty a c=>exact⟨a,c,rfl,Nat.zero_le _⟩
  |list xs b o sz c u hl=>exact⟨_,c,rfl,hl⟩
theorem kind_und {t:TypeId} {k:TK} (h:kindOf (tiOf P t)=k) (hk:k≠ .other): ∃d,P.underlying t=some d∧kindD P d=k:=by
 cases ht:tiOf P t with
 |none=>simp[ht,kindOf] at h;exact absurd h.symm hk
 |some T=>
  obtain⟨i,d,z,hi,hd,hz,e1,e2,e3,e4,e5,e6,e7⟩:=tiOf_some ht
  exact⟨d,hd,by simpa[ht,kindOf,e5] using h⟩
theorem kindD_slice {d:TypeDesc} {e:Nat} (h:kindD P d= .slice e):d= .slice e:=by cases d<;>simp only[kindD,reduceCtorEq,TK.slice.injEq] at h<;>first|(subst h;rfl)|(rename_i gs;cases ha:gs.toList.all (fun f=>(P.info? f.type).isSome)<;>simp only[ha,cond_true,cond_false,reduceCtorEq] at h)
theorem kindD_ptr {d:TypeDesc} {e:Nat} (h:kindD P d= .ptr e):d= .pointer e:=by cases d<;>simp only[kindD,reduceCtorEq,TK.ptr.injEq] at h<;>first|(subst h;rfl)|(rename_i gs;cases ha:gs.toList.all (fun f=>(P.info? f.type).isSome)<;>simp only[ha,cond_true,cond_false,reduceCtorEq] at h)
theorem kindD_int {d:TypeDesc} {e:IntKind} (h:kindD P d= .int e):d= .int e:=by cases d<;>simp only[kindD,reduceCtorEq,TK.int.injEq] at h<;>first|(subst h;rfl)|(rename_i gs;cases ha:gs.toList.all (fun f=>(P.info? f.type).isSome)<;>simp only[ha,cond_true,cond_false,reduceCtorEq] at h)
theorem kindD_bool {d:TypeDesc} (h:kindD P d= .bool):d= .bool:=by cases d<;>simp only[kindD,reduceCtorEq] at h<;>first|rfl|(rename_i gs;cases ha:gs.toList.all (fun f=>(P.info? f.type).isSome)<;>simp only[ha,cond_true,cond_false,reduceCtorEq] at h)
theorem kindD_str {d:TypeDesc} (h:kindD P d= .str):d= .string:=by cases d<;>simp only[kindD,reduceCtorEq] at h<;>first|rfl|(rename_i gs;cases ha:gs.toList.all (fun f=>(P.info? f.type).isSome)<;>simp only[ha,cond_true,cond_false,reduceCtorEq] at h)
theorem kindD_func {d:TypeDesc} (h:kindD P d= .func): ∃a b c,d= .func a b c:=by cases d<;>simp only[kindD,reduceCtorEq] at h<;>first|exact⟨_,_,_,rfl⟩|(rename_i gs;cases ha:gs.toList.all (fun f=>(P.info? f.type).isSome)<;>simp only[ha,cond_true,cond_false,reduceCtorEq] at h)
theorem kindD_arr {d:TypeDesc} {n e:Nat} (h:kindD P d= .arr n e):d= .array n e:=by cases d<;>simp only[kindD,reduceCtorEq,TK.arr.injEq] at h<;>first|(obtain⟨rfl,rfl⟩:=h;rfl)|(rename_i gs;cases ha:gs.toList.all (fun f=>(P.info? f.type).isSome)<;>simp only[ha,cond_true,cond_false,reduceCtorEq] at h)
theorem kindD_struct {d:TypeDesc} {fs:List (Nat×Nat)} (h:kindD P d= .struct fs): ∃fs',d= .struct fs'∧fs=fs'.toList.map (fun f=>(f.offset,sizeAt P f.type))∧∀f∈fs'.toList,(P.info? f.type).isSome=true:=by
 cases d<;>simp only[kindD,reduceCtorEq] at h
 rename_i gs
 cases ha:gs.toList.all (fun f=>(P.info? f.type).isSome) with
 |false=>simp only[ha,cond_false,reduceCtorEq] at h
 |true=>
  simp only[ha,cond_true,TK.struct.injEq] at h
  exact⟨gs,rfl,h.symm,fun f hf=>List.all_eq_true.1 ha f hf⟩
def runB (P:Program) (w:World) (op:BinOp) (t:TypeId) (x y:Operand) (a b:Value):Result Value:=
 ((eqGuard op t x y a b>>=fun _=>binOp op t a b):Sem Value).run P w
theorem runB_guard {op:BinOp} {t:TypeId} {x y:Operand} {a b:Value} (h:eqGuard op t x y a b=pure ()):runB P w op t x y a b=(binOp op t a b).run P w:=by
 unfold runB;rw[h];simp
theorem nilOp_run {op:BinOp} {t:TypeId} {x y:Operand} {a b:Value} {r:Bool} {v:V} (hg:eqGuard op t x y a b=pure ())
 (h1:binOp .eql t a b=(do pure (.bool (←Op.equal t a b)))) (h2:binOp .neq t a b=(do pure (.bool (!(←Op.equal t a b)))))
 (he': ∀n,(Op.equalIn (n+1) t a b).run P w= .ok r w) (h:nilOp r op=some v): ∃u,runB P w op t x y a b= .ok u w∧VR w Im loc st v u:=by
 have he:(Op.equal t a b).run P w= .ok r w:=he' 9999
 rw[runB_guard hg]
 cases op<;>simp only[nilOp,Option.some.injEq,reduceCtorEq] at h
 ·subst h
  exact⟨.bool r,by rw[h1];simp[he], .d _ _ (.bool _)⟩
 ·subst h
  exact⟨.bool (!r),by rw[h2];simp[he], .d _ _ (.bool _)⟩
theorem intOp_run {op:BinOp} {t:TypeId} {x y:Operand} {k:IntKind} {a b:Int} {v:V} (h:intOp k a b op=some v):
 ∃u,runB P w op t x y (.int k a) (.int k b)= .ok u w∧VR w Im loc st v u:=by
 rw[runB_guard (eqGuard_at_int op t x y _ k a)]
 cases op<;>simp only[intOp,Option.some.injEq,reduceCtorEq,Option.ite_none_left_eq_some] at h
 case add=>subst h;exact⟨_,by rw[binOp_add];simp[Op.intArith], .d _ _ (.int _ _)⟩
 case sub=>subst h;exact⟨_,by rw[binOp_sub];simp[Op.intArith], .d _ _ (.int _ _)⟩
 case mul=>subst h;exact⟨_,by rw[binOp_mul];simp[Op.intArith], .d _ _ (.int _ _)⟩
 case quo=>obtain⟨h0,rfl⟩:=h;exact⟨_,by rw[binOp_quo];simp[Op.intDiv,h0], .d _ _ (.int _ _)⟩
 case rem=>obtain⟨h0,rfl⟩:=h;exact⟨_,by rw[binOp_rem];simp[Op.intDiv,h0], .d _ _ (.int _ _)⟩
 case and=>subst h;exact⟨_,by rw[binOp_and];simp[Op.intBits,bits2], .d _ _ (.int _ _)⟩
 case or=>subst h;exact⟨_,by rw[binOp_or];simp[Op.intBits,bits2], .d _ _ (.int _ _)⟩
 case xor=>subst h;exact⟨_,by rw[binOp_xor];simp[Op.intBits,bits2], .d _ _ (.int _ _)⟩
 case andNot=>subst h;exact⟨_,by rw[binOp_andNot];simp[Op.intBits,bits2], .d _ _ (.int _ _)⟩
 case eql=>subst h;exact⟨.bool (a==b),by rw[binOp_eql];simp,by rw[show(a==b)=decide (a=b) from rfl];exact .d _ _ (.bool _)⟩
 case neq=>subst h;exact⟨.bool (a !=b),by rw[binOp_neq];simp,by rw[show(a !=b)= !decide (a=b) from rfl];exact .d _ _ (.bool _)⟩
 case lss=>subst h;exact⟨.bool (decide (a<b)),by rw[binOp_lss];simp, .d _ _ (.bool _)⟩
 case leq=>subst h;exact⟨.bool (decide (a≤b)),by rw[binOp_leq];simp, .d _ _ (.bool _)⟩
 case gtr=>subst h;exact⟨.bool (decide (a>b)),by rw[binOp_gtr];simp, .d _ _ (.bool _)⟩
 case geq=>subst h;exact⟨.bool (decide (a≥b)),by rw[binOp_geq];simp, .d _ _ (.bool _)⟩
theorem shOp_run {op:BinOp} {t:TypeId} {x y:Operand} {j k:IntKind} {a b:Int} {v:V} (h:shOp j a b op=some v):
 ∃u,runB P w op t x y (.int j a) (.int k b)= .ok u w∧VR w Im loc st v u:=by
 rw[runB_guard (eqGuard_at_int op t x y _ j a)]
 cases op<;>simp only[shOp,Option.some.injEq,reduceCtorEq,Option.ite_none_left_eq_some] at h
 ·obtain⟨h0,rfl⟩:=h;exact⟨_,by rw[binOp_shl];simp[Op.shift,h0];rfl, .d _ _ (.int _ _)⟩
 ·obtain⟨h0,rfl⟩:=h;exact⟨_,by rw[binOp_shr];simp[Op.shift,h0];rfl, .d _ _ (.int _ _)⟩
theorem bytes_toList (a:ByteArray):a.toList=a.data.toList:=by
 exact ByteArray.toList_eq a
theorem strOp_run {op:BinOp} {t:TypeId} {x y:Operand} {a b:ByteArray} {v:V} (h:strOp a.data.toList b.data.toList op=some v):
 ∃u,runB P w op t x y (.string a) (.string b)= .ok u w∧VR w Im loc st v u:=by
 rw[runB_guard (eqGuard_at_string op t x y _ a)]
 have hb:binOp op t (.string a) (.string b)=Op.stringOp op a b:=by cases op<;>rfl
 rw[hb]
 cases op<;>simp only[strOp,Option.some.injEq,reduceCtorEq,Option.ite_none_right_eq_some] at h
 case eql=>subst h;exact⟨.bool (decide (a.data.toList=b.data.toList)),by simp[Op.stringOp,bytes_toList];exact Bool.eq_iff_iff.2 (by simp), .d _ _ (.bool _)⟩
 case neq=>subst h;exact⟨.bool (!decide (a.data.toList=b.data.toList)),by simp[Op.stringOp,bytes_toList];exact Bool.eq_iff_iff.2 (by simp), .d _ _ (.bool _)⟩
 case add=>
  obtain⟨h0,rfl⟩:=h
  have hs: ¬((a.size:Int)+b.size>9223372036854775807):=by
   have e1:a.size=a.data.toList.length:=rfl
   have e2:b.size=b.data.toList.length:=rfl
   rw[e1,e2]
   omega
  refine⟨.string (a++b),by simp[Op.stringOp,IntKind.max_i64,hs], ?_⟩
  have:a.data.toList++b.data.toList=(a++b).data.toList:=by simp
  rw[this]
  exact .d _ _ (.str _)
theorem binV_run {op:BinOp} {t:TypeId} {x y:Operand} {a b v:V} {ua ub:Value} (ha:VR w Im loc st a ua) (hb:VR w Im loc st b ub)
 (h:binV op (kindOf (tiOf P t)) a b=some v): ∃u,runB P w op t x y ua ub= .ok u w∧VR w Im loc st v u:=by
 generalize hk:kindOf (tiOf P t)=k at h
 unfold binV at h
 split at h
 ·obtain rfl:=ha.int_inv
  obtain rfl:=hb.int_inv
  cases hs:isShift op with
  |true=>rw[hs] at h;exact shOp_run h
  |false=>
   rw[hs] at h
   simp only[cond_false] at h
   rename_i j _ k' _
   by_cases he:j=k'
   ·subst he
    simp[sameKind] at h
    exact intOp_run h
   ·simp[sameKind,he] at h
 ·obtain rfl:=ha.bool_inv
  obtain rfl:=hb.bool_inv
  obtain⟨d,hd,hd'⟩:=kind_und hk (by simp)
  obtain rfl:=kindD_bool hd'
  rename_i p q
  have he:nilOp (p==q) op=some v:=by cases op<;>first|exact h|cases h
  exact nilOp_run (eqGuard_at_bool op t x y _ p) (by simp[binOp]) (by simp[binOp]) (fun n=>by simp[Op.equalIn,run_underlying hd]) he
 ·obtain⟨s1,rfl,e1⟩:=ha.str_inv
  obtain⟨s2,rfl,e2⟩:=hb.str_inv
  subst e1 e2
  exact strOp_run h
 all_goals try (
  obtain⟨d,hd,hd'⟩:=kind_und hk (by simp)
  obtain rfl:=kindD_ptr hd')
 ·cases ha;cases hb
  exact nilOp_run (eqGuard_at_pointer _ _ _ _ _ _) (by simp[binOp]) (by simp[binOp]) (fun n=>by simp[Op.equalIn,run_underlying hd]) h
 ·cases ha;cases hb
  exact nilOp_run (eqGuard_at_pointer _ _ _ _ _ _) (by simp[binOp]) (by simp[binOp]) (fun n=>by simp[Op.equalIn,run_underlying hd]) h
 ·cases hb
  have h0:isPtr ua:=by cases ha;assumption
  clear ha
  match ua,h0 with
  | .pointer (some ad),_=>exact nilOp_run (eqGuard_at_pointer _ _ _ _ _ _) (by simp[binOp]) (by simp[binOp]) (fun n=>by simp[Op.equalIn,run_underlying hd]) h
 ·cases ha;cases hb
  exact nilOp_run (eqGuard_at_pointer _ _ _ _ _ _) (by simp[binOp]) (by simp[binOp]) (fun n=>by simp[Op.equalIn,run_underlying hd]) h
 ·cases ha;cases hb
  exact nilOp_run (eqGuard_at_pointer _ _ _ _ _ _) (by simp[binOp]) (by simp[binOp]) (fun n=>by simp[Op.equalIn,run_underlying hd]) h
 ·cases ha;cases hb
  exact nilOp_run (eqGuard_at_pointer _ _ _ _ _ _) (by simp[binOp]) (by simp[binOp]) (fun n=>by simp[Op.equalIn,run_underlying hd]) h
 ·obtain⟨d,hd,hd'⟩:=kind_und hk (by simp)
  obtain rfl:=kindD_slice hd'
  cases ha;cases hb
  exact nilOp_run (eqGuard_at_slice _ _ _ _ _ _ _ _) (by simp[binOp]) (by simp[binOp]) (fun n=>by simp[Op.equalIn,run_underlying hd]) h
 ·rename_i e xs
  obtain⟨d,hd,hd'⟩:=kind_und hk (by simp)
  obtain rfl:=kindD_slice hd'
  cases hb
  cases xs with
  |nil=>cases h
  |cons x xs=>
   cases ha with
   |d _ _ hh=>
    cases hh with
    |list xs b o sz c u hl=>exact nilOp_run (eqGuard_at_slice _ _ _ _ _ _ _ _) (by simp[binOp]) (by simp[binOp]) (fun n=>by simp[Op.equalIn,run_underlying hd]) h
 ·obtain⟨d,hd,hd'⟩:=kind_und hk (by simp)
  obtain⟨_,_,_,rfl⟩:=kindD_func hd'
  cases ha;cases hb
  exact nilOp_run (eqGuard_at_nilFunc _ _ _ _ _) (by simp[binOp]) (by simp[binOp]) (fun n=>by simp[Op.equalIn,run_underlying hd]) h
 ·obtain⟨d,hd,hd'⟩:=kind_und hk (by simp)
  obtain⟨_,_,_,rfl⟩:=kindD_func hd'
  cases ha;cases hb
  exact nilOp_run (eqGuard_at_func _ _ _ _ _ _ _ _) (by simp[binOp]) (by simp[binOp]) (fun n=>by simp[Op.equalIn,run_underlying hd]) h
 ·cases h
theorem eqC1_some {x y:D} {s:Option Bool} {r:Bool} (h:eqC1 x y s=some r): ∃k a b q,x= .int k a∧y= .int k b∧s=some q∧r=(decide (a=b)&&q):=by
 unfold eqC1 at h
 split at h
 ·rename_i j a k b q
  by_cases e:j=k
  ·subst e
   simp only[sameKind,decide_true,cond_true,Option.some.injEq] at h
   exact⟨j,a,b,q,rfl,rfl,rfl,h.symm⟩
  ·simp only[sameKind,decide_eq_false e,cond_false,reduceCtorEq] at h
 ·cases h
theorem eqFs_run {d:Nat} {arr brr:Array Value}: ∀(fs:List Field) (o:Nat) (xs ys:List D) (r:Bool),eqFs P o fs=true→lenIs fs xs.length=true→eqCells xs ys=some r→
 (∀j k a,xs[j]? =some (.int k a)→arr[o+j]? =some (.int k a))→(∀j k a,ys[j]? =some (.int k a)→brr[o+j]? =some (.int k a))→(Op.eqFields (d+1) arr brr fs).run P w= .ok r w
 |[],o,[],ys,r,h1,h2,h3,h4,h5=>by
  cases ys with
  |nil=>
   simp only[eqCells,Option.some.injEq] at h3
   subst h3
   simp[Op.eqFields]
  |cons y ys=>cases h3
 |[],o,x::xs,ys,r,h1,h2,h3,h4,h5=>by simp[lenIs] at h2
 |f::fs,o,[],ys,r,h1,h2,h3,h4,h5=>by simp[lenIs] at h2
 |f::fs,o,x::xs,[],r,h1,h2,h3,h4,h5=>by cases h3
 |f::fs,o,x::xs,y::ys,r,h1,h2,h3,h4,h5=>by
  simp only[eqFs,Bool.and_eq_true,Bool.not_eq_true',beq_iff_eq] at h1
  obtain⟨n1,n2,n3,n4⟩:=h1
  have hn:f.name≠ "_" :=by intro e;rw[e] at n1;simp at n1
  obtain⟨k,a,b,q,rfl,rfl,hq,rfl⟩:=eqC1_some h3
  have ih:=eqFs_run (d:=d) fs (o+1) xs ys q n4 (by simpa[lenIs] using h2) hq (fun j k a hj=>by rw[show o+1+j=o+(j+1) by omega];exact h4 (j+1) k a (by simpa using hj)) (fun j k a hj=>by rw[show o+1+j=o+(j+1) by omega];exact h5 (j+1) k a (by simpa using hj))
  have ha:=h4 0 k a rfl
  have hb:=h5 0 k b rfl
  rw[Nat.add_zero,←n2] at ha hb
  obtain⟨kk,hu⟩: ∃kk,P.underlying f.type=some (.int kk):=by
   unfold eqTy at n3
   split at n3
   ·exact⟨_,by assumption⟩
   ·cases n3
  have e1:(part f.type arr f.offset).run P w= .ok (.int k a) w:=by simp[part,isAgg,run_underlying hu,ha]
  have e2:(part f.type brr f.offset).run P w= .ok (.int k b) w:=by simp[part,isAgg,run_underlying hu,hb]
  have e3:(Op.equalIn (d+1) f.type (.int k a) (.int k b)).run P w= .ok (decide (a=b)) w:=by
   simp[Op.equalIn,run_underlying hu]
   rfl
  rw[Op.eqFields]
  simp only[if_pos hn,Sem.run_bind,e1,e2,e3,Result.andThen_ok]
  cases hd:decide (a=b)
  ·simp
  ·simpa using ih
theorem binS_run {op:BinOp} {t:TypeId} {x y:Operand} {a b v:V} {ua ub:Value} (ha:VR w Im loc st a ua) (hb:VR w Im loc st b ub)
 (h:binS P op t a b=some v): ∃u,runB P w op t x y ua ub= .ok u w∧VR w Im loc st v u:=by
 unfold binS at h
 split at h
 ·rename_i xs ys
  cases he:eqOk P t xs.length with
  |false=>rw[he] at h;cases h
  |true=>
   rw[he] at h
   simp only[cond_true] at h
   cases hc:eqCells xs ys with
   |none=>rw[hc] at h;cases h
   |some r=>
    rw[hc] at h
    simp only[aggOp] at h
    unfold eqOk at he
    split at he
    ·rename_i fs hu
     simp only[Bool.and_eq_true,Bool.not_eq_true'] at he
     obtain⟨p1,p2,p3,p4⟩:=he
     cases ha with
     |d _ _ ha=>
      cases hb with
      |d _ _ hb=>
       cases ha with
       |agg _ arr s1 s2 s3=>
        cases hb with
        |agg _ brr t1 t2 t3=>
         have hf:P.fieldsOf t=fs:=by simp[Program.fieldsOf,hu]
         have hcell: ∀{cs:List D} {ar:Array Value},ar.size=cs.length→(∀(j:Nat) y u,cs[j]? =some y→ar[j]? =some u→DR w Im y u)→∀j k a,cs[j]? =some (.int k a)→ar[0+j]? =some (.int k a):=fun{cs ar} hs hd j k a hj=>by
          rw[Nat.zero_add]
          have hlt:j<ar.size:=by rw[hs];exact(List.getElem?_eq_some_iff.1 hj).1
          have hg:ar[j]? =some ar[j]:=Array.getElem?_eq_getElem hlt
          have:=hd j _ _ hj hg
          rw[hg]
          generalize ar[j]=z at*
          cases this
          rfl
         have he:(Op.equal t (.agg arr) (.agg brr)).run P w= .ok r w:=by
          show(Op.equalIn (9999+1) t (.agg arr) (.agg brr)).run P w=_
          rw[run_equalIn_struct (P:=P) w 9999 t arr brr (by rw[hf];exact hu) p1,hf]
          exact eqFs_run (d:=9998) fs.toList 0 xs ys r p4 p3 hc (hcell s1 s3) (hcell t1 t3)
         have hg: ∀o,(eqGuard o t x y (.agg arr) (.agg brr)).run P w= .ok () w:=fun o=>by
          unfold eqGuard
          cases o<;>simp[p2]
         unfold runB
         rw[Sem.run_bind,hg,Result.andThen_ok]
         cases op<;>simp only[nilOp,Option.some.injEq,reduceCtorEq] at h
         ·subst h
          exact⟨.bool r,by simp[binOp,he], .d _ _ (.bool _)⟩
         ·subst h
          exact⟨.bool (!r),by simp[binOp,he], .d _ _ (.bool _)⟩
    ·cases he
 ·cases h
theorem binT_run {op:BinOp} {t:TypeId} {x y:Operand} {a b v:V} {ua ub:Value} (ha:VR w Im loc st a ua) (hb:VR w Im loc st b ub)
 (h:binT P op t a b (kindOf (tiOf P t))=some v): ∃u,runB P w op t x y ua ub= .ok u w∧VR w Im loc st v u:=by
 cases hk:kindOf (tiOf P t)<;>rw[hk] at h<;>first|exact binS_run ha hb h|exact binV_run ha hb (by rw[hk];exact h)
end
end Go.Ev
set_option autoImplicit false
namespace Go.Ev
section
variable {P:Program} {w:World} {Im:Nat→Nat→Prop} {loc:Nat→Loc} {h:Map Obj} {st:Nat→Option (Nat×Nat)}
theorem unV_run {op:UnOp} {a v:V} {ua:Value} (ha:VR w Im loc st a ua) (hv:unV op a=some v): ∃u,(Op.unary op ua).run P w= .ok u w∧VR w Im loc st v u:=by
 unfold unV at hv
 split at hv
 ·obtain rfl:=ha.bool_inv
  obtain rfl:=Option.some.inj hv
  exact⟨_,by simp[Op.unary], .d _ _ (.bool _)⟩
 ·obtain rfl:=ha.int_inv
  obtain rfl:=Option.some.inj hv
  exact⟨_,(by simp only[Op.unary,Op.intArith,Sem.run_pure]), .d _ _ (.int _ _)⟩
 ·obtain rfl:=ha.int_inv
  obtain rfl:=Option.some.inj hv
  exact⟨_,by simp[Op.unary,Op.intBits,bits2], .d _ _ (.int _ _)⟩
 ·cases hv
theorem struct_field {t:TypeId} {f o:Nat} (hf:fOff f (kindOf (tiOf P t))=some o):
 ∃fs F i,P.underlying t=some (.struct fs)∧fs[f]? =some F∧F.offset=o∧P.info? F.type=some i∧i.size≠0:=by
 generalize hk:kindOf (tiOf P t)=k at hf
 cases k<;>simp only[fOff,reduceCtorEq] at hf
 rename_i gs
 obtain⟨d,hd,hd'⟩:=kind_und hk (by simp)
 obtain⟨fs,rfl,rfl,_⟩:=kindD_struct hd'
 simp only[List.getElem?_map,Array.getElem?_toList] at hf
 cases hF:fs[f]? with
 |none=>simp[hF,fOff.fOff1] at hf
 |some F=>
  simp only[hF,Option.map_some] at hf
  cases hi:P.info? F.type with
  |none=>simp[sizeAt,hi,fOff.fOff1] at hf
  |some i=>
   simp only[sizeAt,hi] at hf
   cases hs:i.size with
   |zero=>simp[hs,fOff.fOff1] at hf
   |succ n=>
    simp only[hs,fOff.fOff1,Option.some.injEq] at hf
    exact⟨fs,F,i,hd,hF,hf,hi,by omega⟩
theorem run_fieldAt {t:TypeId} {f o:Nat} (hf:fOff f (kindOf (tiOf P t))=some o) (b a:Nat):
 (Instr.fieldAt t (.pointer (some ⟨b,a,none⟩)) f).run P w= .ok (.pointer (some ⟨b,a+o,none⟩)) w:=by
 obtain⟨fs,F,i,h1,h2,h3,h4,h5⟩:=struct_field hf
 simp[Instr.fieldAt,run_underlying h1,h2,Instr.sureAddr,fieldPlace,run_sizeOf' h4,h5,add_at,h3]
theorem fieldA_run {t:TypeId} {f:Nat} {a v:V} {ua:Value} (ha:VR w Im loc st a ua) (hv:fieldA a (fOff f (kindOf (tiOf P t)))=some v):
 ∃u,(Instr.fieldAt t ua f).run P w= .ok u w∧VR w Im loc st v u:=by
 cases ho:fOff f (kindOf (tiOf P t)) with
 |none=>simp[ho,fieldA] at hv
 |some o=>
  simp only[ho,fieldA] at hv
  cases ha with
  |ptr r off b hb=>
   simp only[fieldA.fieldA1,Option.some.injEq] at hv
   subst hv
   exact⟨_,run_fieldAt ho b off, .ptr r (off+o) b hb⟩
  |cp cs j b a u h2 h3=>
   simp only[fieldA.fieldA1,Option.some.injEq] at hv
   subst hv
   exact⟨_,run_fieldAt ho b (a+j),by rw[Nat.add_assoc];exact .cp cs (j+o) b a u h2 h3⟩
  |eptr r s i j u h0 hl hh=>
   simp only[fieldA.fieldA1,Option.some.injEq] at hv
   subst hv
   obtain⟨cur,n,e1,e2,e3⟩:=hh
   match ua,h0,e3 with
   | .pointer (some ⟨b,off,none⟩),_,e3=>
     refine⟨_,run_fieldAt ho b off, .eptr r s i (j+o) _ trivial hl ⟨cur,n,e1,e2,fun es=> ?_⟩⟩
     obtain⟨b',o',cap,sz,own,q1,q2⟩:=e3 es
     simp only[Value.pointer.injEq,Option.some.injEq,Addr.mk.injEq,and_true] at q2
     obtain⟨rfl,rfl⟩:=q2
     exact⟨b,o',cap,sz,own,q1,by rw[Nat.add_assoc]⟩
   | .pointer (some ⟨b,off,some sp⟩),_,e3=>
     obtain⟨fs,F,ii,h1,h2,h3,h4,h5⟩:=struct_field ho
     refine⟨.pointer (some ((⟨b,off,some sp⟩:Addr).add F.offset)),by simp[Instr.fieldAt,run_underlying h1,h2,Instr.sureAddr,fieldPlace,run_sizeOf' h4,h5], .eptr r s i (j+o) _ trivial hl ⟨cur,n,e1,e2,fun es=> ?_⟩⟩
     obtain⟨b',o',cap,sz,own,q1,q2⟩:=e3 es
     simp at q2
  |_=>simp[fieldA.fieldA1] at hv
theorem sizeT_some {T:Option TI} {n:Nat} (h:sizeT T=some n): ∃t,T=some t∧t.size=n∧n≠0:=by
 cases T with
 |none=>cases h
 |some t=>
  simp only[sizeT] at h
  split at h
  ·cases h
  ·rename_i m hm
   obtain rfl:=Option.some.inj h
   exact⟨t,rfl,hm,by omega⟩
theorem indexA_run (hM:Mem w Im loc h) {hs:Map Obj} (hsub: ∀r o,getM hs r=some o→getM h r=some o) {t:TypeId} {k:IntKind} {n:Int} {a v:V} {ua:Value}
 (ha:VR w Im loc (stm h) a ua) (hv:indexA hs n (kindOf (tiOf P t)) (sizeT (tiOf P (elemK (kindOf (tiOf P t))))) a=some v):
 ∃u,(Instr.indexAt t ua (.int k n)).run P w= .ok u w∧VR w Im loc (stm h) v u:=by
 generalize hk:kindOf (tiOf P t)=kk at hv
 cases kk<;>simp only[indexA,reduceCtorEq] at hv
 case slice e=>
  obtain⟨d,hd,hd'⟩:=kind_und hk (by simp)
  obtain rfl:=kindD_slice hd'
  simp only[elemK] at hv
  cases hsz:sizeT (tiOf P e) with
  |none=>simp[hsz,indexA] at hv
  |some sz=>
   obtain⟨T,hT,hTs,hsz0⟩:=sizeT_some hsz
   obtain⟨i,d',z,hi,hd2,hz,e1,e2,e3,e4,e5,e6,e7⟩:=tiOf_some hT
   rw[hsz] at hv
   cases ha with
   |d x u hx=>
    cases hx with
    |list xs b o sz' c f hl h1 h2 h3=>
     simp only[indexA] at hv
     cases hi':idx xs n with
     |none=>simp[hi',idxD] at hv
     |some x=>
      simp only[hi',idxD] at hv
      unfold idx at hi'
      split at hi'
      ·rename_i hn
       cases hc:cellsOkD sz x with
       |none=>simp[hc,idxC] at hv
       |some cs=>
        simp only[hc,idxC,Option.some.injEq] at hv
        subst hv
        obtain⟨rfl,hlen⟩:=cellsOkD_some hc
        have hs':sz'=sz:=(h1 _ _ hi').symm.trans hlen
        subst hs'
        have hlt:=(List.getElem?_eq_some_iff.1 hi').1
        have hin:0≤n∧n<xs.length:=⟨hn,by omega⟩
        refine⟨.pointer (some ⟨b,o+n.toNat*sz'+0,none⟩), ?_, .cp _ 0 b (o+n.toNat*sz') (f n.toNat) (fun k y hy=>h2 _ x k y hi' hy) (fun k y hy=>h3 _ x k y hi' hy)⟩
        simp[Instr.indexAt,run_underlying hd,asIntOf,hin,run_sizeOf' hi,←e1,hTs,add_at]
      ·cases hi'
    |empty a c=>simp[indexA,idx,idxD] at hv
    |_=>simp[indexA] at hv
   |row r s o len u h0 hl hh=>
    simp only[indexA] at hv
    cases hr:getM hs r with
    |none=>simp[hr,idxRow] at hv
    |some ob=>
     cases ob with
     |cells=>simp[hr,idxRow] at hv
     |row sz' xs s' fz chg=>
      simp only[hr,idxRow] at hv
      split at hv
      ·rename_i es
       subst es
       by_cases hz':sz=sz'
       ·subst hz'
        simp only[beq_self_eq_true,cond_true] at hv
        split at hv
        ·rename_i hin
         obtain rfl:=Option.some.inj hv
         obtain⟨cur,nn,q1,q2,q3⟩:=hh
         have hg:=hsub _ _ hr
         simp only[stm,hg,rowN,Option.some.injEq,Prod.mk.injEq] at q1
         obtain⟨a',cap,sz2,own,ad,r1,rfl,r3,r4,r5⟩:=q3 q1.1
         obtain⟨w1,a2,cap',own',w2,w3,w4,w5,w6,w7⟩:=hM.obj r _ hg
         rw[r1] at w2
         obtain⟨rfl,rfl,rfl,rfl⟩:=Loc.row.inj w2
         rcases r5 with r5|⟨b,off,rfl,rfl⟩
         ·exfalso;omega
         ·have hsz2:sz2=T.size:=hTs.symm
          refine⟨.pointer (some ⟨b,off+(o+n.toNat)*sz2+0,none⟩), ?_, .eptr r s (o+n.toNat) 0 _ trivial hl ⟨s,xs.length,by simp[stm,hg,rowN],Nat.le_refl _,fun _=>⟨b,off,cap,sz2,own,r1,rfl⟩⟩⟩
          have:off+o*sz2+n.toNat*sz2=off+(o+n.toNat)*sz2:=by rw[Nat.add_mul];omega
          simp[Instr.indexAt,run_underlying hd,asIntOf,hin,run_sizeOf' hi,←e1,hTs,add_at,this]
        ·cases hv
       ·have:(sz==sz')=false:=by simpa using hz'
        simp[this] at hv
      ·cases hv
   |_=>simp[indexA] at hv
 case arr len e=>
  obtain⟨d,hd,hd'⟩:=kind_und hk (by simp)
  obtain rfl:=kindD_arr hd'
  simp only[elemK] at hv
  cases hsz:sizeT (tiOf P e) with
  |none=>simp[hsz,indexA] at hv
  |some sz=>
   obtain⟨T,hT,hTs,hsz0⟩:=sizeT_some hsz
   obtain⟨i,d',z,hi,hd2,hz,e1,e2,e3,e4,e5,e6,e7⟩:=tiOf_some hT
   rw[hsz] at hv
   cases ha with
   |ptr r off b hb=>
    simp only[indexA] at hv
    split at hv
    ·rename_i hin
     obtain rfl:=Option.some.inj hv
     exact⟨_,by simp[Instr.indexAt,run_underlying hd,asIntOf,hin,run_sizeOf' hi,←e1,hTs,add_at,Instr.sureAddr], .ptr r _ b hb⟩
    ·cases hv
   |cp cs j b o u h2 h3=>
    simp only[indexA] at hv
    split at hv
    ·rename_i hin
     obtain rfl:=Option.some.inj hv
     exact⟨.pointer (some ⟨b,o+(j+n.toNat*sz),none⟩),by simp[Instr.indexAt,run_underlying hd,asIntOf,hin,run_sizeOf' hi,←e1,hTs,add_at,Instr.sureAddr,Nat.add_assoc], .cp cs _ b o u h2 h3⟩
    ·cases hv
   |_=>simp[indexA] at hv
theorem extract_run {i:Nat} {a v:V} {ua:Value} (ha:VR w Im loc st a ua) (hv:extractV i a=some v): ∃u,(Instr.extract ua i).run P w= .ok u w∧VR w Im loc st v u:=by
 cases ha with
 |tup vs arr h1 h3=>
  simp only[extractV] at hv
  have hi:i<arr.size:=by rw[h1];exact(List.getElem?_eq_some_iff.1 hv).1
  exact⟨arr[i],by simp[Instr.extract,hi],h3 i v _ hv (by simp[hi])⟩
 |_=>simp[extractV] at hv
theorem notNil_run {a v:V} {ua:Value} (ha:VR w Im loc st a ua) (hv:notNil a=some v):v=a∧(isPtr ua∨∃f x y,ua= .func (.func f) x y):=by
 unfold notNil at hv
 split at hv<;>first|(obtain rfl:=Option.some.inj hv)|cases hv
 ·cases ha;exact⟨rfl, .inl trivial⟩
 ·cases ha;exact⟨rfl, .inl (by assumption)⟩
 ·cases ha;exact⟨rfl, .inl trivial⟩
 ·cases ha;exact⟨rfl, .inr ⟨_,_,_,rfl⟩⟩
end
end Go.Ev
set_option autoImplicit false
namespace Go.Ev
def kept (l l':Loc):Obj→Obj→Prop
 | .cells _, .cells _=>l'=l
 | .row _ xs st _ chg, .row _ xs' st' _ chg'=>chg'=true∨(chg'=chg∧st'=st∧l'=l∧xs.length≤xs'.length)
 |_,_=>False
theorem kept.refl (l:Loc) (o:Obj):kept l l o o:=by
 cases o with
 |cells=>rfl
 |row=>exact .inr ⟨rfl,rfl,rfl,Nat.le_refl _⟩
theorem kept.trans {l l1 l2:Loc} {o o1 o2:Obj} (h:kept l l1 o o1) (k:kept l1 l2 o1 o2):kept l l2 o o2:=by
 cases o<;>cases o1<;>cases o2<;>simp only[kept] at h k ⊢
 ·exact k.trans h
 ·rcases k with k|⟨k1,k2,k3,k4⟩
  ·exact .inl k
  ·rcases h with h|⟨h1,h2,h3,h4⟩
   ·exact .inl (k1.trans h)
   ·exact .inr ⟨k1.trans h1,k2.trans h2,k3.trans h3,Nat.le_trans h4 k4⟩
structure Frm (w:World) (Im:Nat→Nat→Prop) (loc:Nat→Loc) (h:Map Obj) (w':World) (Im':Nat→Nat→Prop) (loc':Nat→Loc) (h':Map Obj):Prop where
 os:w'.os=w.os
 tape:w'.tape=w.tape
 output:w'.output=w.output
 size:w.heap.size≤w'.heap.size
 old: ∀b,b<w.heap.size→(∀r,¬owns (loc r) b)→w'.heap[b]? =w.heap[b]?
 imS: ∀b o,Im b o→Im' b o
 imC: ∀b o,Im b o→w'.cell? ⟨b,o,none⟩=w.cell? ⟨b,o,none⟩
 imN: ∀b o,Im' b o→Im b o∨(∃r,owns (loc r) b)∨w.heap.size≤b
 ownN: ∀r b,owns (loc' r) b→(∃r,owns (loc r) b)∨w.heap.size≤b
 chg: ∀r,r<64→∀o',getM h' r=some o'→∃o,getM h r=some o∧kept (loc r) (loc' r) o o'
theorem Frm.refl (w:World) (Im:Nat→Nat→Prop) (loc:Nat→Loc) (h:Map Obj):Frm w Im loc h w Im loc h:=
 ⟨rfl,rfl,rfl,Nat.le_refl _,fun _ _ _=>rfl,fun _ _ h=>h,fun _ _ _=>rfl,fun _ _ h=> .inl h,fun r b h=> .inl ⟨r,h⟩,fun r _ o' h=>⟨o',h,kept.refl _ _⟩⟩
theorem Frm.trans {w w1 w2:World} {Im Im1 Im2:Nat→Nat→Prop} {loc loc1 loc2:Nat→Loc} {h h1 h2:Map Obj} (a:Frm w Im loc h w1 Im1 loc1 h1) (b:Frm w1 Im1 loc1 h1 w2 Im2 loc2 h2):Frm w Im loc h w2 Im2 loc2 h2:=by
 have lift: ∀k,((∃r,owns (loc1 r) k)∨w1.heap.size≤k)→(∃r,owns (loc r) k)∨w.heap.size≤k:=fun k hk=>by
  rcases hk with⟨r,hr⟩|hk
  ·exact a.ownN r k hr
  ·exact .inr (Nat.le_trans a.size hk)
 refine⟨b.os.trans a.os,b.tape.trans a.tape,b.output.trans a.output,Nat.le_trans a.size b.size,fun k hk hn=> ?_,fun k o i=>b.imS _ _ (a.imS _ _ i),
  fun k o i=>(b.imC _ _ (a.imS _ _ i)).trans (a.imC _ _ i),fun k o i=> ?_,fun r k hr=>lift k (b.ownN r k hr),fun r hr o2 ho=> ?_⟩
 ·refine(b.old k (Nat.lt_of_lt_of_le hk a.size) (fun r hr=> ?_)).trans (a.old k hk hn)
  rcases a.ownN r k hr with⟨r',hr'⟩|hle
  ·exact hn r' hr'
  ·omega
 ·rcases b.imN k o i with i|i
  ·exact a.imN k o i
  ·exact .inr (lift k i)
 ·obtain⟨o1,e1,k1⟩:=b.chg r hr o2 ho
  obtain⟨o,e0,k0⟩:=a.chg r hr o1 e1
  exact⟨o,e0,k0.trans k1⟩
structure Step (w:World) (Im:Nat→Nat→Prop) (loc:Nat→Loc) (h:Map Obj) (w':World) (Im':Nat→Nat→Prop) (loc':Nat→Loc) (h':Map Obj):Prop where
 mem:Mem w' Im' loc' h'
 grow:Grow w Im loc (stm h) w' Im' loc' (stm h')
 frm:Frm w Im loc h w' Im' loc' h'
theorem Step.refl {w:World} {Im:Nat→Nat→Prop} {loc:Nat→Loc} {h:Map Obj} (hM:Mem w Im loc h):Step w Im loc h w Im loc h:=⟨hM,Grow.refl ..,Frm.refl ..⟩
theorem Step.trans {w w1 w2:World} {Im Im1 Im2:Nat→Nat→Prop} {loc loc1 loc2:Nat→Loc} {h h1 h2:Map Obj} (a:Step w Im loc h w1 Im1 loc1 h1) (b:Step w1 Im1 loc1 h1 w2 Im2 loc2 h2):Step w Im loc h w2 Im2 loc2 h2:=
 ⟨b.mem,a.grow.trans b.grow,a.frm.trans b.frm⟩
theorem owns_lt {w:World} {Im:Nat→Nat→Prop} {loc:Nat→Loc} {h:Map Obj} (hM:Mem w Im loc h) {r b:Nat} (ho:owns (loc r) b):b<w.heap.size:=by
 cases hr:getM h r with
 |none=>rw[hM.no r hr] at ho;exact ho.elim
 |some o=>
  have hO:=hM.obj r o hr
  cases o with
  |cells cs=>
   obtain⟨b',e,arr,t,f,q,_⟩:=hO
   rw[e] at ho
   obtain rfl:b'=b:=ho
   exact(Array.getElem?_eq_some_iff.1 q).1
  |row sz xs s fz chg=>
   obtain⟨_,a,cap,own,e,_,_,_,_,ow⟩:=hO
   rw[e] at ho
   cases own with
   |false=>cases a<;>exact ho.elim
   |true=>
    obtain⟨b',o',arr,t,f,q1,q2,_⟩:=ow rfl
    subst q1
    obtain rfl:b'=b:=ho
    exact(Array.getElem?_eq_some_iff.1 q2).1
theorem ObjR.keep {w w':World} {Im Im':Nat→Nat→Prop} {loc loc':Nat→Loc} {st st':Nat→Option (Nat×Nat)} {r:Nat} {o:Obj} (hO:ObjR w Im loc st r o)
 (g:Grow w Im loc st w' Im' loc' st') (hl:loc' r=loc r) (hb: ∀b,owns (loc r) b→w'.heap[b]? =w.heap[b]? ∧∀q,Im' b q→Im b q):ObjR w' Im' loc' st' r o:=by
 cases o with
 |cells cs=>
  obtain⟨b,e,arr,t,f,q1,q2,q3,q4,q5,q6⟩:=hO
  obtain⟨h1,h2⟩:=hb b (by rw[e];rfl)
  exact⟨b,hl.trans e,arr,t,f,h1.trans q1,q2,q3,q4,fun j v u hv hu=>(q5 j v u hv hu).grow g,fun o ho=>q6 o (h2 o ho)⟩
 |row sz xs s fz chg=>
  obtain⟨w1,a,cap,own,e,w3,w4,w5,w6,w7⟩:=hO
  refine⟨w1,a,cap,own,hl.trans e,w3,w4,fun b o ea=> ?_,fun eo=> ?_,fun eo=> ?_⟩
  ·obtain⟨u,hu⟩:=w5 b o ea
   refine⟨u,fun i x j y hx hy=> ?_⟩
   obtain⟨u1,u2,u3⟩:=hu i x j y hx hy
   refine⟨u1, ?_,u3.grow g.im g.cell⟩
   cases own with
   |false=>
    obtain⟨_,_,l3⟩:=w6 rfl
    exact(g.cell _ _ (l3 b o ea i x j y hx hy)).trans u2
   |true=>
    have:=(hb b (by rw[e,ea];rfl)).1
    exact(World.cell?_of_block (a:=⟨b,_,none⟩) this).trans u2
  ·obtain⟨l1,l2,l3⟩:=w6 eo
   exact⟨l1,l2,fun b o ea i x j y hx hy=>g.im _ _ (l3 b o ea i x j y hx hy)⟩
  ·obtain⟨b,o,arr,t,f,q1,q2,q3,q4,q5,q6,q7⟩:=w7 eo
   obtain⟨h1,h2⟩:=hb b (by rw[e,q1,eo];rfl)
   exact⟨b,o,arr,t,f,q1,h1.trans q2,q3,q4,q5,fun q hq=>q6 q (h2 q hq),q7⟩
theorem Step.gen {w w':World} {Im Im':Nat→Nat→Prop} {loc loc':Nat→Loc} {h:Map Obj} {r:Nat} {o':Obj} (hM:Mem w Im loc h)
 (hos:w'.os=w.os) (htape:w'.tape=w.tape) (hout:w'.output=w.output) (hsize:w.heap.size≤w'.heap.size)
 (hloc: ∀k,k≠r→loc' k=loc k)
 (hblk: ∀b,b<w.heap.size→¬owns (loc r) b→w'.heap[b]? =w.heap[b]?)
 (him: ∀b o,Im b o→Im' b o) (hcell: ∀b o,Im b o→w'.cell? ⟨b,o,none⟩=w.cell? ⟨b,o,none⟩)
 (himN: ∀b o,Im' b o→Im b o∨owns (loc r) b∨w.heap.size≤b) (himL: ∀b o,Im' b o→b<w'.heap.size)
 (hown: ∀b,owns (loc' r) b→owns (loc r) b∨w.heap.size≤b)
 (hgb: ∀b,loc r= .blk b→loc' r= .blk b)
 (hgr: ∀cur n,isRowL (loc r)→stm h r=some (cur,n)→isRowL (loc' r)∧∃cur' n',rowN (some o')=some (cur',n')∧cur≤cur'∧(cur'=cur→loc' r=loc r∧n≤n'))
 (hkept:r<64→∃o,getM h r=some o∧kept (loc r) (loc' r) o o')
 (hO:ObjR w' Im' loc' (stm (setM h r o')) r o'):Step w Im loc h w' Im' loc' (setM h r o'):=by
 have hst: ∀k,stm (setM h r o') k=if r=k then rowN (some o') else stm h k:=fun k=>by
  simp only[stm,getM_setM];split<;>rfl
 have g:Grow w Im loc (stm h) w' Im' loc' (stm (setM h r o')):=by
  refine⟨him,hcell,fun k b e=> ?_,fun k cur n hl e=> ?_⟩
  ·by_cases hk:k=r
   ·subst hk;exact hgb b e
   ·rw[hloc k hk];exact e
  ·by_cases hk:k=r
   ·subst hk
    obtain⟨i1,c',n',i2,i3,i4⟩:=hgr cur n hl e
    exact⟨i1,c',n',by rw[hst];simp[i2],i3,i4⟩
   ·rw[hloc k hk]
    exact⟨hl,cur,n,by rw[hst,if_neg (fun e=>hk e.symm)];exact e,Nat.le_refl _,fun _=>⟨rfl,Nat.le_refl _⟩⟩
 have hne: ∀k b,k≠r→owns (loc k) b→¬owns (loc r) b:=fun k b hk h1 h2=>hk (hM.inj _ _ _ h1 h2)
 refine⟨⟨fun k o hk=> ?_,fun k hk=> ?_,fun k k' b h1 h2=> ?_,himL⟩,g,⟨hos,htape,hout,hsize,fun b hb hn=>hblk b hb (hn r),him,hcell,fun b o hi=> ?_,fun k b hk=> ?_,fun k hk o2 ho=> ?_⟩⟩
 ·rw[getM_setM] at hk
  by_cases e:r=k
  ·subst e
   rw[if_pos rfl] at hk
   obtain rfl:=Option.some.inj hk
   exact hO
  ·rw[if_neg e] at hk
   refine(hM.obj k o hk).keep g (hloc k (fun x=>e x.symm)) (fun b hb=> ?_)
   have hn:=hne k b (fun x=>e x.symm) hb
   have hlt:=owns_lt hM hb
   refine⟨hblk b hlt hn,fun q hq=> ?_⟩
   rcases himN b q hq with h1|h1|h1
   ·exact h1
   ·exact absurd h1 hn
   ·omega
 ·rw[getM_setM] at hk
  by_cases e:r=k
  ·rw[if_pos e] at hk;cases hk
  ·rw[if_neg e] at hk
   rw[hloc k (fun x=>e x.symm)]
   exact hM.no k hk
 ·by_cases e1:k=r<;>by_cases e2:k'=r
  ·rw[e1,e2]
  ·subst e1
   rw[hloc k' e2] at h2
   rcases hown b h1 with h3|h3
   ·exact absurd h3 (hne k' b e2 h2)
   ·have:=owns_lt hM h2;omega
  ·subst e2
   rw[hloc k e1] at h1
   rcases hown b h2 with h3|h3
   ·exact absurd h3 (hne k b e1 h1)
   ·have:=owns_lt hM h1;omega
  ·rw[hloc k e1] at h1
   rw[hloc k' e2] at h2
   exact hM.inj _ _ _ h1 h2
 ·rcases himN b o hi with h1|h1|h1
  ·exact .inl h1
  ·exact .inr (.inl ⟨r,h1⟩)
  ·exact .inr (.inr h1)
 ·by_cases e:k=r
  ·subst e
   rcases hown b hk with h1|h1
   ·exact .inl ⟨k,h1⟩
   ·exact .inr h1
  ·rw[hloc k e] at hk
   exact .inl ⟨k,hk⟩
 ·rw[getM_setM] at ho
  by_cases e:r=k
  ·subst e
   rw[if_pos rfl] at ho
   obtain rfl:=Option.some.inj ho
   exact hkept hk
  ·rw[if_neg e] at ho
   rw[hloc k (fun x=>e x.symm)]
   exact⟨o2,ho,kept.refl _ _⟩
end Go.Ev
set_option autoImplicit false
namespace Go.Ev
theorem stm_congr {h1 h2:Map Obj} (e: ∀k,getM h2 k=getM h1 k):stm h2=stm h1:=by funext k;simp[stm,e]
theorem Mem.congr {w:World} {Im:Nat→Nat→Prop} {loc:Nat→Loc} {h1 h2:Map Obj} (e: ∀k,getM h2 k=getM h1 k) (hM:Mem w Im loc h1):Mem w Im loc h2:=
 ⟨fun r o hr=>by rw[stm_congr e];exact hM.obj r o (by rw[←e];exact hr),fun r hr=>hM.no r (by rw[←e];exact hr),hM.inj,hM.im⟩
theorem Step.congr {w w':World} {Im Im':Nat→Nat→Prop} {loc loc':Nat→Loc} {h h1 h2:Map Obj} (e: ∀k,getM h2 k=getM h1 k) (s:Step w Im loc h w' Im' loc' h1):Step w Im loc h w' Im' loc' h2:=by
 refine⟨s.mem.congr e,by rw[stm_congr e];exact s.grow,⟨s.frm.os,s.frm.tape,s.frm.output,s.frm.size,s.frm.old,s.frm.imS,s.frm.imC,s.frm.imN,s.frm.ownN,fun r hr o' ho=>s.frm.chg r hr o' (by rw[←e];exact ho)⟩⟩
theorem getM_setM_self {α:Type} {h:Map α} {r:Nat} {o:α} (e:getM h r=some o): ∀k,getM h k=getM (setM h r o) k:=fun k=>by
 rw[getM_setM];split
 ·rename_i q;subst q;exact e
 ·rfl
def frz:Obj→Obj
 | .row sz xs st _ chg=> .row sz xs st true chg
 |o=>o
def FzLe (hs h:Map Obj):Prop:=∀r o,getM hs r=some o→∃o',getM h r=some o'∧(o'=o∨o'=frz o)
theorem subL_get {xs:List D} {off len i:Nat} {x:D} (h:(subL xs off len)[i]? =some x):i<len∧xs[off+i]? =some x:=by
 unfold subL at h
 rw[List.getElem?_take] at h
 split at h
 ·rename_i hi
  rw[List.getElem?_drop] at h
  exact⟨hi,h⟩
 ·cases h
theorem subL_length {xs:List D} {off len:Nat} (h:off+len≤xs.length):(subL xs off len).length=len:=by
 unfold subL;simp;omega
section
variable {w:World} {Im:Nat→Nat→Prop} {loc:Nat→Loc} {h:Map Obj}
def rowIm (l:Loc) (n:Nat) (b o:Nat):Prop:=match l with
 | .row (some (b',o')) _ sz true=>b=b'∧o'≤o∧o<o'+n*sz
 |_=>False
theorem in_row {n sz i j:Nat} (hi:i<n) (hj:j<sz):i*sz+j<n*sz:=by
 have:(i+1)*sz≤n*sz:=Nat.mul_le_mul_right _ hi
 rw[Nat.add_mul] at this
 omega
theorem freeze_step (hM:Mem w Im loc h) {r sz s:Nat} {xs:List D} {fz chg:Bool} (hr:getM h r=some (.row sz xs s fz chg)):
 Step w Im loc h w (fun b o=>Im b o∨rowIm (loc r) xs.length b o) loc (setM h r (.row sz xs s true chg))∧
 (∀(off len:Nat) u,RowAt (loc r) off len xs.length u→DR w (fun b o=>Im b o∨rowIm (loc r) xs.length b o) (.list (subL xs off len)) u):=by
 have hO:=hM.obj r _ hr
 obtain⟨w1,a,cap,own,e,w3,w4,w5,w6,w7⟩:=hO
 have hgrow:Grow w Im loc (stm h) w (fun b o=>Im b o∨rowIm (loc r) xs.length b o) loc (stm h):=
  ⟨fun _ _ i=> .inl i,fun _ _ _=>rfl,fun _ _ e=>e,fun _ cur n hl e=>⟨hl,cur,n,e,Nat.le_refl _,fun _=>⟨rfl,Nat.le_refl _⟩⟩⟩
 have hst:stm (setM h r (.row sz xs s true chg))=stm h:=by
  funext k
  simp only[stm,getM_setM]
  split
  ·rename_i q;subst q;rw[hr];rfl
  ·rfl
 have hown: ∀b o,rowIm (loc r) xs.length b o→owns (loc r) b:=fun b o hb=>by
  rw[e] at hb ⊢
  unfold rowIm at hb
  split at hb
  ·rename_i q
   obtain⟨rfl,rfl,rfl,rfl⟩:=Loc.row.inj q
   exact hb.1.symm
  ·exact hb.elim
 refine⟨Step.gen hM rfl rfl rfl (Nat.le_refl _) (fun _ _=>rfl) (fun _ _ _=>rfl) (fun _ _ i=> .inl i) (fun _ _ _=>rfl) (fun b o hi=>hi.imp id fun q=> .inl (hown b o q))
  (fun b o hi=>hi.elim (hM.im b o) fun q=>owns_lt hM (hown b o q)) (fun b hb=> .inl hb) (fun b hb=>hb)
  (fun cur n hl hc=>⟨hl,cur,n,by rw[stm,hr] at hc;exact hc,Nat.le_refl _,fun _=>⟨rfl,Nat.le_refl _⟩⟩)
  (fun _=>⟨_,hr, .inr ⟨rfl,rfl,rfl,Nat.le_refl _⟩⟩) ?_, ?_⟩
 ·refine⟨w1,a,cap,own,e,w3,w4,fun b o ea=> ?_,fun eo=> ?_,fun eo=> ?_⟩
  ·obtain⟨u,hu⟩:=w5 b o ea
   exact⟨u,fun i x j y hx hy=>⟨(hu i x j y hx hy).1,(hu i x j y hx hy).2.1,(hu i x j y hx hy).2.2.grow (fun _ _ i=> .inl i) (fun _ _ _=>rfl)⟩⟩
  ·obtain⟨l1,l2,l3⟩:=w6 eo
   exact⟨l1, .inl rfl,fun b o ea i x j y hx hy=> .inl (l3 b o ea i x j y hx hy)⟩
  ·obtain⟨b,o,arr,t,f,q1,q2,q3,q4,q5,q6,q7⟩:=w7 eo
   refine⟨b,o,arr,t,f,q1,q2,q3,q4,q5,fun q hq=> ?_,q7⟩
   rcases hq with hq|hq
   ·rcases q6 q hq with h1|⟨_,h1⟩
    ·exact .inl h1
    ·exact .inr ⟨rfl,h1⟩
   ·rw[e,q1,eo] at hq
    exact .inr ⟨rfl,hq.2.2⟩
 ·intro off len u hu
  obtain⟨a',cap',sz',own',ad,e1,rfl,e3,e4,e5⟩:=hu
  rw[e] at e1
  obtain⟨rfl,rfl,rfl,rfl⟩:=Loc.row.inj e1
  have hlen:=subL_length e3
  by_cases hz:len=0
  ·subst hz
   have:subL xs off 0=[]:=List.eq_nil_of_length_eq_zero hlen
   rw[this]
   exact .empty ad _
  ·rcases e5 with e5|⟨b,o,ea,rfl⟩
   ·exfalso;omega
   ·obtain⟨f,hf⟩:=w5 b o ea
    have key:DR w (fun b o=>Im b o∨rowIm (loc r) xs.length b o) (.list (subL xs off len)) (.slice (some ⟨b,o+off*sz,none⟩) (subL xs off len).length (cap-off)):=by
     refine .list _ b (o+off*sz) sz (cap-off) (fun i j=>f (off+i) j) (by omega) (fun i x hx=>w1 _ _ (subL_get hx).2) (fun i x j y hx hy=> ?_) (fun i x j y hx hy=>((hf _ x j y (subL_get hx).2 hy).2.2).grow (fun _ _ i=> .inl i) (fun _ _ _=>rfl))
     obtain⟨hi,hx'⟩:=subL_get hx
     have ead:o+off*sz+i*sz+j=o+(off+i)*sz+j:=by rw[Nat.add_mul];omega
     refine⟨(hf _ x j y hx' hy).1, ?_,by rw[ead];exact(hf _ x j y hx' hy).2.1⟩
     rw[ead]
     cases own with
     |false=>
      obtain⟨_,_,l3⟩:=w6 rfl
      exact .inl (l3 b o ea _ x j y hx' hy)
     |true=>
      refine .inr ?_
      rw[e,ea]
      have hj:j<sz:=by rw[←w1 _ _ hx'];exact(List.getElem?_eq_some_iff.1 hy).1
      have:=in_row (sz:=sz) (List.getElem?_eq_some_iff.1 hx').1 hj
      exact⟨rfl,by omega,by omega⟩
    rw[hlen] at key
    exact key
theorem setAll_append (h:Map Obj) (a b:Map Obj):setAll h (a++b)=setAll (setAll h a) b:=by
 induction a generalizing h with
 |nil=>rfl
 |cons p a ih=>obtain⟨k,o⟩:=p;exact ih _
structure Frz (w:World) (Im:Nat→Nat→Prop) (loc:Nat→Loc) (hs h:Map Obj) (Im':Nat→Nat→Prop) (h':Map Obj):Prop where
 step:Step w Im loc h w Im' loc h'
 le:FzLe hs h'
 st:stm h'=stm h
theorem toRow_spec {hs:Map Obj} (hM:Mem w Im loc h) (hf:FzLe hs h) {r s off len:Nat} {u:Value} (hv:VR w Im loc (stm h) (.row r s off len) u) {x:D} {ch:Map Obj}
 (ht:toRow r s off len (getM hs r)=some (x,ch)): ∃Im',Frz w Im loc hs h Im' (setAll h ch)∧DR w Im' x u:=by
 cases hr:getM hs r with
 |none=>simp[hr,toRow] at ht
 |some o=>
  cases o with
  |cells=>simp[hr,toRow] at ht
  |row sz xs s' fz chg=>
   simp only[hr,toRow] at ht
   split at ht
   ·rename_i es
    subst es
    obtain⟨rfl,rfl⟩:=Prod.mk.inj (Option.some.inj ht)
    obtain⟨o',ho',hoo⟩:=hf r _ hr
    have ho2: ∃fz',o'= .row sz xs s fz' chg∧(fz=true→fz'=true):=by
     rcases hoo with rfl|rfl
     ·exact⟨fz,rfl,id⟩
     ·exact⟨true,rfl,fun _=>rfl⟩
    obtain⟨fz',rfl,hfz⟩:=ho2
    obtain⟨hstep,hdr⟩:=freeze_step hM ho'
    have hu:RowAt (loc r) off len xs.length u:=by
     cases hv with
     |row _ _ _ _ _ h0 hl hh=>
      obtain⟨cur,n,q1,q2,q3⟩:=hh
      simp only[stm,ho',rowN,Option.some.injEq,Prod.mk.injEq] at q1
      obtain⟨rfl,rfl⟩:=q1
      exact q3 rfl
    have hst:stm (setM h r (.row sz xs s true chg))=stm h:=by
     funext k
     simp only[stm,getM_setM]
     split
     ·rename_i q;subst q;rw[ho'];rfl
     ·rfl
    refine⟨_, ?_,hdr off len u hu⟩
    cases fz with
    |false=>
     refine⟨hstep,fun k o hk=> ?_,hst⟩
     simp only[cond_false,setAll]
     rw[getM_setM]
     by_cases hkr:r=k
     ·subst hkr
      rw[hr] at hk
      obtain rfl:=Option.some.inj hk
      rw[if_pos rfl]
      exact⟨_,rfl, .inr rfl⟩
     ·rw[if_neg hkr]
      exact hf k o hk
    |true=>
     obtain rfl:=hfz rfl
     refine⟨Step.congr (fun k=> ?_) hstep,hf,rfl⟩
     exact getM_setM_self ho' k
   ·cases ht
theorem Frz.refl {hs:Map Obj} (hM:Mem w Im loc h) (hf:FzLe hs h):Frz w Im loc hs h Im h:=⟨Step.refl hM,hf,rfl⟩
mutual
theorem toD_spec {hs:Map Obj}: ∀(v:V) {Im:Nat→Nat→Prop} {h:Map Obj} (_:Mem w Im loc h) (_:FzLe hs h) {u:Value} (_:VR w Im loc (stm h) v u) {x:D} {ch:Map Obj}
 (_:toD hs v=some (x,ch)),∃Im',Frz w Im loc hs h Im' (setAll h ch)∧DR w Im' x u
 | .d y,Im,h,hM,hf,u,hv,x,ch,ht=>by
   simp only[toD,Option.some.injEq,Prod.mk.injEq] at ht
   obtain⟨rfl,rfl⟩:=ht
   exact⟨Im, .refl hM hf,hv.d_inv⟩
 | .row r s off len,Im,h,hM,hf,u,hv,x,ch,ht=>by
   simp only[toD] at ht
   exact toRow_spec hM hf hv ht
 | .nilsl,Im,h,hM,hf,u,hv,x,ch,ht=>by
   simp only[toD,Option.some.injEq,Prod.mk.injEq] at ht
   obtain⟨rfl,rfl⟩:=ht
   cases hv
   exact⟨Im, .refl hM hf, .empty _ _⟩
 | .agg cs,Im,h,hM,hf,u,hv,x,ch,ht=>by
   simp only[toD] at ht
   cases hc:toDs hs cs with
   |none=>simp[hc,aggOf] at ht
   |some p=>
    obtain⟨ys,ch'⟩:=p
    simp only[hc,aggOf,Option.some.injEq,Prod.mk.injEq] at ht
    obtain⟨rfl,rfl⟩:=ht
    cases hv with
    |agg _ arr h1 h2 h3=>
     obtain⟨Im',hF,hD1,hD2⟩:=toDs_spec cs hM hf (us:=arr.toList) ⟨by simpa using h1,fun j v u hv hu=>h3 j v u hv (by simpa using hu)⟩ hc
     refine⟨Im',hF, .agg ys arr (by rw[h1,hD1]) (fun j y hy=> ?_) (fun j y u hy hu=>hD2 j y u hy (by simpa using hu))⟩
     have hj:j<arr.size:=by rw[h1,←hD1];exact(List.getElem?_eq_some_iff.1 hy).1
     have hr:=hD2 j y arr[j] hy (by simp[hj])
     have ho:=h2 j arr[j] (by simp[hj])
     revert hr ho
     generalize arr[j]=z
     intro hr ho
     cases hr<;>first|trivial|exact ho.elim
 | .ptr _ _,_,_,_,_,_,_,_,_,ht=>by simp[toD] at ht
 | .eptr _ _ _ _,_,_,_,_,_,_,_,_,ht=>by simp[toD] at ht
 | .cp _ _,_,_,_,_,_,_,_,_,ht=>by simp[toD] at ht
 | .tup _,_,_,_,_,_,_,_,_,ht=>by simp[toD] at ht
 | .fn _ _ _,_,_,_,_,_,_,_,_,ht=>by simp[toD] at ht
 | .nilp,_,_,_,_,_,_,_,_,ht=>by simp[toD] at ht
 | .nilfn,_,_,_,_,_,_,_,_,ht=>by simp[toD] at ht
 | .undef,_,_,_,_,_,_,_,_,ht=>by simp[toD] at ht
 | .dead,_,_,_,_,_,_,_,_,ht=>by simp[toD] at ht
theorem toDs_spec {hs:Map Obj}: ∀(vs:List V) {Im:Nat→Nat→Prop} {h:Map Obj} (_:Mem w Im loc h) (_:FzLe hs h) {us:List Value} (_:VRs w Im loc (stm h) vs us) {xs:List D} {ch:Map Obj}
 (_:toDs hs vs=some (xs,ch)),∃Im',Frz w Im loc hs h Im' (setAll h ch)∧xs.length=vs.length∧∀(j:Nat) x u,xs[j]? =some x→us[j]? =some u→DR w Im' x u
 |[],Im,h,hM,hf,us,hv,xs,ch,ht=>by
  simp only[toDs,Option.some.injEq,Prod.mk.injEq] at ht
  obtain⟨rfl,rfl⟩:=ht
  exact⟨Im, .refl hM hf,rfl,fun j x u hx=>by simp at hx⟩
 |v::vs,Im,h,hM,hf,us,hv,xs,ch,ht=>by
  simp only[toDs] at ht
  cases h1:toD hs v with
  |none=>simp[h1,both] at ht
  |some p=>
   obtain⟨x,c1⟩:=p
   cases h2:toDs hs vs with
   |none=>simp[h1,h2,both] at ht
   |some q=>
    obtain⟨ys,c2⟩:=q
    simp only[h1,h2,both,Option.some.injEq,Prod.mk.injEq] at ht
    obtain⟨rfl,rfl⟩:=ht
    obtain⟨hl,hp⟩:=hv
    cases us with
    |nil=>simp at hl
    |cons u us=>
     obtain⟨Im1,F1,D1⟩:=toD_spec v hM hf (hp 0 v u rfl rfl) h1
     have hv2:VRs w Im1 loc (stm (setAll h c1)) vs us:=⟨by simpa using hl,fun j v' u' a b=>by
      have:=(hp (j+1) v' u' a b).grow F1.step.grow
      exact this⟩
     obtain⟨Im2,F2,L2,D2⟩:=toDs_spec vs F1.step.mem F1.le hv2 h2
     refine⟨Im2,⟨by rw[setAll_append];exact F1.step.trans F2.step,by rw[setAll_append];exact F2.le,by rw[setAll_append];exact F2.st.trans F1.st⟩,by simp[L2],fun j y z hy hz=> ?_⟩
     cases j with
     |zero=>
      simp only[List.getElem?_cons_zero,Option.some.injEq] at hy hz
      subst hy hz
      exact D1.grow F2.step.grow.im F2.step.grow.cell
     |succ j=>exact D2 j y z (by simpa using hy) (by simpa using hz)
end
end
end Go.Ev
set_option autoImplicit false
namespace Go.Ev
def locWith (loc:Nat→Loc) (k:Nat) (l:Loc) (r:Nat):Loc:=if r=k then l else loc r
section
variable {P:Program} {w:World} {Im:Nat→Nat→Prop} {loc:Nat→Loc} {h:Map Obj}
theorem VRs.nil {st:Nat→Option (Nat×Nat)}:VRs w Im loc st [] []:=⟨rfl,fun j v u h=>by simp at h⟩
theorem ofValue_VR {st:Nat→Option (Nat×Nat)} (u:Value):VR w Im loc st (ofValue u) u:=by
 unfold ofValue
 split
 ·exact .d _ _ (.bool _)
 ·exact .d _ _ (.int _ _)
 ·exact .d _ _ (.str _)
 ·exact .nilsl
 ·exact .nilp
 ·exact .nilfn
 ·exact .dead _
theorem one_of_isOne {u:Value} (h:isOne u=true):one u:=by cases u<;>simp_all [isOne,one]
theorem new_step {w':World} (hM:Mem w Im loc h) {k:Nat} {o':Obj} {l:Loc} (hk:getM h k=none) (hk64:64≤k)
 (hos:w'.os=w.os) (htape:w'.tape=w.tape) (hout:w'.output=w.output) (hsize:w.heap.size≤w'.heap.size)
 (hblk: ∀b,b<w.heap.size→w'.heap[b]? =w.heap[b]?) (hown: ∀b,owns l b→w.heap.size≤b)
 (hO:Grow w Im loc (stm h) w' Im (locWith loc k l) (stm (setM h k o'))→ObjR w' Im (locWith loc k l) (stm (setM h k o')) k o'):
 Step w Im loc h w' Im (locWith loc k l) (setM h k o'):=by
 have hn:=hM.no k hk
 have hc: ∀b o,Im b o→w'.cell? ⟨b,o,none⟩=w.cell? ⟨b,o,none⟩:=fun b o i=>World.cell?_of_block (a:=⟨b,o,none⟩) (hblk b (hM.im b o i))
 have g:Grow w Im loc (stm h) w' Im (locWith loc k l) (stm (setM h k o')):=by
  have hne: ∀r,loc r≠ .none→r≠k:=fun r hr e=>hr (e ▸ hn)
  refine⟨fun _ _ i=>i,hc,fun r b e=> ?_,fun r cur n hl e=> ?_⟩
  ·have:r≠k:=hne r (by rw[e];simp)
   simp[locWith,this,e]
  ·have hr:r≠k:=hne r (by intro e';rw[e'] at hl;exact hl)
   refine⟨by simpa[locWith,hr] using hl,cur,n, ?_,Nat.le_refl _,fun _=>⟨by simp[locWith,hr],Nat.le_refl _⟩⟩
   simpa[stm,getM_setM,Ne.symm hr] using e
 refine Step.gen hM hos htape hout hsize (fun r hr=>by simp[locWith,hr]) (fun b hb _=>hblk b hb) (fun _ _ i=>i) hc (fun _ _ i=> .inl i) (fun b o i=>Nat.lt_of_lt_of_le (hM.im b o i) hsize)
  (fun b hb=> .inr (hown b (by simpa[locWith] using hb))) (fun b e=>by rw[hn] at e;cases e) (fun cur n hl=>by rw[hn] at hl;exact hl.elim) (fun hlt=>absurd hlt (by omega)) (hO g)
theorem new_cells (hM:Mem w Im loc h) {k:Nat} (hk:getM h k=none) (hk64:64≤k) {cs:List V} {arr:Array Value} {t:TypeId} (h1:arr.size=cs.length) (h2: ∀(j:Nat) u,arr[j]? =some u→one u)
 (h3: ∀(j:Nat) v u,cs[j]? =some v→arr[j]? =some u→VR w Im loc (stm h) v u):
 Step w Im loc h (w.alloc (.cells arr t)) Im (locWith loc k (.blk w.heap.size)) (setM h k (.cells cs)):=by
 refine new_step hM hk hk64 rfl rfl rfl (by simp) (fun b hb=>heap_alloc_old w _ b hb) (fun b hb=>Nat.le_of_eq hb) (fun g=> ?_)
 refine⟨w.heap.size,by simp[locWith],arr,t,(0,0),heap_alloc_new w _,h1,fun o _ q=>by omega,h2,fun j v u hv hu=>(h3 j v u hv hu).grow g,fun o i=>Nat.lt_irrefl _ (hM.im _ o i)⟩
theorem new_row (hM:Mem w Im loc h) {k:Nat} (hk:getM h k=none) (hk64:64≤k) {w0:World} (hw:w0.heap=w.heap) (hos:w0.os=w.os) (htape:w0.tape=w.tape) (hout:w0.output=w.output)
 {sz cap:Nat} {xs:List D} {arr:Array Value} {t:TypeId} {f:Nat×Nat} {chg:Bool} (hz:sz≠0) (hf:noFz f arr.size) (hs: ∀(i:Nat) x,xs[i]? =some x→(cellsD x).length=sz) (hl:xs.length≤cap) (hc:cap*sz≤arr.size)
 (h2: ∀(j:Nat) u,arr[j]? =some u→one u) (s:Nat) (fz:Bool)
 (h3: ∀(i:Nat) x (j:Nat) y,xs[i]? =some x→(cellsD x)[j]? =some y→∃u,arr[i*sz+j]? =some u∧flatD y∧DR w Im y u):
 Step w Im loc h (w0.alloc (.cells arr t f)) Im (locWith loc k (.row (some (w.heap.size,0)) cap sz true)) (setM h k (.row sz xs s fz chg)):=by
 have hsz:w0.heap.size=w.heap.size:=by rw[hw]
 refine new_step hM hk hk64 hos htape hout (by simp[hw]) (fun b hb=>by rw[heap_alloc_old w0 _ b (by omega),hw]) (fun b hb=>Nat.le_of_eq hb) (fun g=> ?_)
 have hnew:(w0.alloc (.cells arr t f)).heap[w.heap.size]? =some (.cells arr t f):=by rw[←hsz];exact heap_alloc_new w0 _
 have hloc:locWith loc k (.row (some (w.heap.size,0)) cap sz true) k= .row (some (w.heap.size,0)) cap sz true:=by simp[locWith]
 refine⟨hs,_,cap,true,hloc,hl,(fun e=>by cases e),fun b o e=> ?_,(fun e=>by cases e),fun _=>⟨w.heap.size,0,arr,t,f,rfl,hnew,hf,h2,by omega,fun q i=>absurd (hM.im _ q i) (by omega),hz⟩⟩
 obtain⟨rfl,rfl⟩:=Prod.mk.inj (Option.some.inj e)
 refine⟨fun i j=>arr.getD (i*sz+j) Go.undef,fun i x j y hx hy=> ?_⟩
 obtain⟨u,q1,q2,q3⟩:=h3 i x j y hx hy
 have:arr.getD (i*sz+j) Go.undef=u:=by simp[Array.getD_eq_getD_getElem?,q1]
 show flatD y∧(w0.alloc (.cells arr t f)).cell? ⟨w.heap.size,0+i*sz+j,none⟩=some (arr.getD (i*sz+j) Go.undef)∧DR _ Im y (arr.getD (i*sz+j) Go.undef)
 rw[this,cell_heap hnew]
 exact⟨q2,by simpa using q1,q3.grow g.im g.cell⟩
theorem new_lent (hM:Mem w Im loc h) {k:Nat} (hk:getM h k=none) (hk64:64≤k) {sz:Nat} {xs:List D} {ad:Option Addr} {c:Nat} {chg:Bool} (hd:DR w Im (.list xs) (.slice ad xs.length c)) (hz: ∀(i:Nat) x,xs[i]? =some x→(cellsD x).length=sz)
 {fz:Bool} (hfz:fz=true∨xs=[]):
 ∃a,Step w Im loc h w Im (locWith loc k (.row a xs.length sz false)) (setM h k (.row sz xs 0 fz chg))∧
  RowAt (.row a xs.length sz false) 0 xs.length xs.length (.slice ad xs.length xs.length):=by
 cases hd with
 |empty=>
  refine⟨none,new_step hM hk hk64 rfl rfl rfl (Nat.le_refl _) (fun _ _=>rfl) (fun b hb=>hb.elim) (fun g=> ?_),none,0,sz,false,ad,rfl,rfl,Nat.le_refl _,Nat.le_refl _, .inl rfl⟩
  exact⟨fun i x hx=>by simp at hx,none,0,false,by simp[locWith],Nat.le_refl _,fun _=>rfl,(fun b o e=>by cases e),(fun _=>⟨rfl, .inr rfl,fun b o e=>by cases e⟩),fun e=>by cases e⟩
 |list _ b o sz' _ u hl h1 h2 h3=>
  refine⟨some (b,o),new_step hM hk hk64 rfl rfl rfl (Nat.le_refl _) (fun _ _=>rfl) (fun b hb=>hb.elim) (fun g=> ?_),some (b,o),xs.length,sz,false,some ⟨b,o,none⟩,rfl,by simp,by simp,Nat.zero_le _, .inr ⟨b,o,rfl,by simp⟩⟩
  have hs:xs=[]∨sz'=sz:=by
   cases xs with
   |nil=>exact .inl rfl
   |cons x xs=>exact .inr ((h1 0 x rfl).symm.trans (hz 0 x rfl))
  have hs': ∀(i:Nat) x,xs[i]? =some x→sz'=sz:=fun i x hx=>hs.resolve_left (fun e=>by simp[e] at hx)
  refine⟨hz,some (b,o),xs.length,false,by simp[locWith],Nat.le_refl _,(fun e=>by cases e),fun b' o' e=> ?_,fun _=>⟨rfl,hfz,fun b' o' e i x j y hx hy=> ?_⟩,fun e=>by cases e⟩
  ·obtain⟨rfl,rfl⟩:=Prod.mk.inj (Option.some.inj e)
   refine⟨u,fun i x j y hx hy=> ?_⟩
   obtain rfl:=hs' i x hx
   exact⟨(h2 i x j y hx hy).1,(h2 i x j y hx hy).2.2,(h3 i x j y hx hy).grow g.im g.cell⟩
  ·obtain⟨rfl,rfl⟩:=Prod.mk.inj (Option.some.inj e)
   obtain rfl:=hs' i x hx
   exact(h2 i x j y hx hy).2.1
theorem made_one {d:Nat} {o:Obj} {h2:Map Obj} (hm:made d 0 (some h) [o]=some h2):getM h (key d 0)=none∧h2=setM h (key d 0) o∧64≤key d 0:=by
 simp only[made] at hm
 cases hk:getM h (key d 0) with
 |some x=>simp[hk,made.made1] at hm
 |none=>
  simp[hk,made.made1,made] at hm
  exact⟨rfl,hm.symm,by unfold key;omega⟩
theorem run_newRow (e:TypeId) (cells:Array Value) (w:World):(newRow e cells).run P w= .ok ⟨w.heap.size,0,none⟩ (w.alloc (.cells cells e)):=by
 rfl
def Ran (P:Program) (w:World) (Im:Nat→Nat→Prop) (loc:Nat→Loc) (h:Map Obj) (r:Result Value) (v:V) (h':Map Obj):Prop:=
 ∃u w' Im' loc',r= .ok u w'∧Step w Im loc h w' Im' loc' h'∧VR w' Im' loc' (stm h') v u
theorem Ran.still {r:Result Value} {v:V} (hM:Mem w Im loc h) (hr: ∃u,r= .ok u w∧VR w Im loc (stm h) v u):Ran P w Im loc h r v h:=by
 obtain⟨u,e,hv⟩:=hr
 exact⟨u,w,Im,loc,e, .refl hM,hv⟩
theorem box_ran (hM:Mem w Im loc h) {d:Nat} {t:TypeId} {a v:V} {ua:Value} {ch:Map Obj} {news:List Obj} {h2:Map Obj} (ha:VR w Im loc (stm h) a ua)
 (hv:boxV d (tiOf P t) a=some (v,ch,news)) (hm:made d 0 (turned [] h ch) news=some h2):Ran P w Im loc h ((Instr.box t ua).run P w) v h2:=by
 cases hT:tiOf P t with
 |none=>simp[hT,boxV] at hv
 |some T=>
  simp only[hT,boxV] at hv
  cases hc:cellsOk T.size a with
  |none=>simp[hc,boxV.boxV1] at hv
  |some cs=>
   simp only[hc,boxV.boxV1,Option.some.injEq,Prod.mk.injEq] at hv
   obtain⟨rfl,rfl,rfl⟩:=hv
   obtain⟨m1,rfl,m3⟩:=made_one (by simpa[turned] using hm)
   obtain⟨c1,c2,c3⟩:=ha.cells hc
   have hsize:ua.cells.size=cs.length:=c1.trans c2.symm
   refine⟨.pointer (some ⟨w.heap.size,0,none⟩),w.alloc (.cells ua.cells t),Im,_,by simp[Instr.box,newVar,run_newRow],new_cells hM m1 m3 hsize (fun j u hu=> ?_) (fun j v u hv hu=>(c3 j v u hv hu).2), .ptr _ 0 w.heap.size (by simp[locWith])⟩
   have hj:j<cs.length:=by rw[←hsize];exact(Array.getElem?_eq_some_iff.1 hu).1
   exact(c3 j cs[j] u (by simp[hj]) hu).1
theorem alloc_ran (hM:Mem w Im loc h) {d:Nat} {t:TypeId} {v:V} {ch:Map Obj} {news:List Obj} {h2:Map Obj}
 (hv:allocV d (tiOf P t)=some (v,ch,news)) (hm:made d 0 (turned [] h ch) news=some h2):Ran P w Im loc h ((Instr.alloc t true (.tuple #[])).run P w) v h2:=by
 cases hT:tiOf P t with
 |none=>simp[hT,allocV] at hv
 |some T=>
  simp only[hT,allocV,Option.some.injEq,Prod.mk.injEq] at hv
  obtain⟨rfl,rfl,rfl⟩:=hv
  obtain⟨m1,rfl,m3⟩:=made_one (by simpa[turned] using hm)
  obtain⟨i,dd,z,hi,hd,hz,e1,e2,e3,e4,e5,e6,e7⟩:=tiOf_some hT
  refine⟨.pointer (some ⟨w.heap.size,0,none⟩),w.alloc (.cells z.cells t),Im,_,by simp[Instr.alloc,zeroValue,run_typeInfo' hi,hz,newVar,run_newRow],new_cells hM m1 m3 (by simp[e4]) (fun j u hu=> ?_) (fun j v u hv hu=> ?_), .ptr _ 0 w.heap.size (by simp[locWith])⟩
  ·exact one_of_isOne (List.all_eq_true.1 e6 u (List.mem_of_getElem? (by simpa using hu)))
  ·rw[e4,List.getElem?_map,Array.getElem?_toList,hu] at hv
   obtain rfl:=Option.some.inj hv
   exact ofValue_VR u
end
end Go.Ev
set_option autoImplicit false
namespace Go.Ev
def flatC:List D→List D
 |[]=>[]
 |x::xs=>cellsD x++flatC xs
theorem flatC_append (xs ys:List D):flatC (xs++ys)=flatC xs++flatC ys:=by
 induction xs with
 |nil=>rfl
 |cons x xs ih=>simp[flatC,ih]
def Sized (sz:Nat) (xs:List D):Prop:=∀(i:Nat) x,xs[i]? =some x→(cellsD x).length=sz
theorem Sized.tail {sz:Nat} {x:D} {xs:List D} (h:Sized sz (x::xs)):Sized sz xs:=fun i y hy=>h (i+1) y (by simpa using hy)
theorem flatC_length {sz:Nat}: ∀{xs:List D},Sized sz xs→(flatC xs).length=xs.length*sz
 |[],_=>by simp[flatC]
 |x::xs,h=>by
  simp only[flatC,List.length_append,flatC_length h.tail,h 0 x rfl,List.length_cons,Nat.add_mul]
  omega
theorem flatC_get {sz:Nat}: ∀{xs:List D},Sized sz xs→∀(i:Nat) x (j:Nat) y,xs[i]? =some x→(cellsD x)[j]? =some y→(flatC xs)[i*sz+j]? =some y
 |[],_,i,x,j,y,hx,_=>by simp at hx
 |z::xs,h,0,x,j,y,hx,hy=>by
  simp only[List.getElem?_cons_zero,Option.some.injEq] at hx
  subst hx
  have hj:=(List.getElem?_eq_some_iff.1 hy).1
  simp[flatC,List.getElem?_append_left hj,hy]
 |z::xs,h,i+1,x,j,y,hx,hy=>by
  have hz:=h 0 z rfl
  have ih:=flatC_get h.tail i x j y (by simpa using hx) hy
  have e:(i+1)*sz+j=sz+(i*sz+j):=by rw[Nat.add_mul];omega
  simp only[flatC]
  rw[e,List.getElem?_append_right (by omega),hz,Nat.add_sub_cancel_left]
  exact ih
theorem flatC_inv {sz:Nat}: ∀{xs:List D},Sized sz xs→∀(q:Nat) y,(flatC xs)[q]? =some y→∃(i:Nat) (x:D) (j:Nat),xs[i]? =some x∧(cellsD x)[j]? =some y∧q=i*sz+j
 |[],_,q,y,h=>by simp[flatC] at h
 |z::xs,h,q,y,hq=>by
  have hz:=h 0 z rfl
  by_cases hlt:q<sz
  ·refine⟨0,z,q,rfl, ?_,by simp⟩
   simpa[flatC,List.getElem?_append_left (show q<(cellsD z).length by omega)] using hq
  ·simp only[flatC] at hq
   rw[List.getElem?_append_right (by omega),hz] at hq
   obtain⟨i,x,j,h1,h2,h3⟩:=flatC_inv h.tail _ y hq
   exact⟨i+1,x,j,by simpa using h1,h2,by rw[Nat.add_mul];omega⟩
section
variable {P:Program} {w:World} {Im:Nat→Nat→Prop} {loc:Nat→Loc} {h:Map Obj}
def CR (w:World) (Im:Nat→Nat→Prop) (ds:List D) (us:List Value):Prop:=
 us.length=ds.length∧∀(q:Nat) y u,ds[q]? =some y→us[q]? =some u→flatD y∧one u∧DR w Im y u
theorem CR.grow {w':World} {Im':Nat→Nat→Prop} {ds:List D} {us:List Value} (hi: ∀b o,Im b o→Im' b o) (hc: ∀b o,Im b o→w'.cell? ⟨b,o,none⟩=w.cell? ⟨b,o,none⟩) (h:CR w Im ds us):CR w' Im' ds us:=
 ⟨h.1,fun q y u hy hu=>⟨(h.2 q y u hy hu).1,(h.2 q y u hy hu).2.1,(h.2 q y u hy hu).2.2.grow hi hc⟩⟩
theorem CR.append {ds ds':List D} {us us':List Value} (h:CR w Im ds us) (h':CR w Im ds' us'):CR w Im (ds++ds') (us++us'):=by
 refine⟨by simp[h.1,h'.1],fun q y u hy hu=> ?_⟩
 by_cases hq:q<ds.length
 ·rw[List.getElem?_append_left hq] at hy
  rw[List.getElem?_append_left (by rw[h.1];exact hq)] at hu
  exact h.2 q y u hy hu
 ·rw[List.getElem?_append_right (by omega)] at hy
  rw[List.getElem?_append_right (by rw[h.1];omega),h.1] at hu
  exact h'.2 _ y u hy hu
theorem CR.one {ds:List D} {us:List Value} (h:CR w Im ds us) {u:Value} (hu:u∈us):one u:=by
 obtain⟨q,hq,rfl⟩:=List.getElem_of_mem hu
 have:q<ds.length:=by rw[←h.1];exact hq
 exact(h.2 q ds[q] us[q] (by simp[this]) (by simp[hq])).2.1
theorem CR.drop {ds:List D} {us:List Value} (h:CR w Im ds us) (n:Nat):CR w Im (ds.drop n) (us.drop n):=
 ⟨by simp[h.1],fun q y u hy hu=>h.2 (n+q) y u (by simpa[List.getElem?_drop] using hy) (by simpa[List.getElem?_drop] using hu)⟩
theorem CR.take {ds:List D} {us:List Value} (h:CR w Im ds us) (n:Nat):CR w Im (ds.take n) (us.take n):=by
 refine⟨by simp[h.1],fun q y u hy hu=> ?_⟩
 rw[List.getElem?_take] at hy hu
 split at hy
 ·rename_i hq
  rw[if_pos hq] at hu
  exact h.2 q y u hy hu
 ·cases hy
def At (w:World) (b o:Nat) (us:List Value):Prop:=∀(q:Nat) u,us[q]? =some u→w.cell? ⟨b,o+q,none⟩=some u
theorem rowRd_flat {b o sz:Nat} {xs:List D} {u:Nat→Nat→Value} (hs:Sized sz xs) (h:RowRd w Im b o sz xs u): ∃us,CR w Im (flatC xs) us∧At w b o us:=by
 refine⟨(List.range (flatC xs).length).map (fun q=>u (q / sz) (q%sz)),⟨by simp,fun q y v hy hv=> ?_⟩,fun q v hv=> ?_⟩
 ·have hq:=(List.getElem?_eq_some_iff.1 hy).1
  simp[hq] at hv
  subst hv
  obtain⟨i,x,j,h1,h2,rfl⟩:=flatC_inv hs q y hy
  have hj:j<sz:=by rw[←hs i x h1];exact(List.getElem?_eq_some_iff.1 h2).1
  have e1:(i*sz+j) / sz=i:=by rw[Nat.add_comm,Nat.add_mul_div_right _ _ (by omega),Nat.div_eq_of_lt hj];omega
  have e2:(i*sz+j)%sz=j:=by rw[Nat.add_comm,Nat.add_mul_mod_self_right,Nat.mod_eq_of_lt hj]
  rw[e1,e2]
  obtain⟨g1,g2,g3⟩:=h i x j y h1 h2
  exact⟨g1,g3.one g1,g3⟩
 ·have hq:q<(flatC xs).length:=by
   have:=(List.getElem?_eq_some_iff.1 hv).1
   simpa using this
  simp[hq] at hv
  subst hv
  obtain⟨i,x,j,h1,h2,rfl⟩:=flatC_inv hs q (flatC xs)[q] (by simp[hq])
  have hj:j<sz:=by rw[←hs i x h1];exact(List.getElem?_eq_some_iff.1 h2).1
  have e1:(i*sz+j) / sz=i:=by rw[Nat.add_comm,Nat.add_mul_div_right _ _ (by omega),Nat.div_eq_of_lt hj];omega
  have e2:(i*sz+j)%sz=j:=by rw[Nat.add_comm,Nat.add_mul_mod_self_right,Nat.mod_eq_of_lt hj]
  rw[e1,e2,←Nat.add_assoc]
  exact(h i x j _ h1 h2).2.1
theorem flat_rowRd {b o sz:Nat} {xs:List D} {us:List Value} (hs:Sized sz xs) (hc:CR w Im (flatC xs) us) (ha:At w b o us): ∃u,RowRd w Im b o sz xs u:=by
 refine⟨fun i j=>us.getD (i*sz+j) Go.undef,fun i x j y hx hy=> ?_⟩
 have hf:=flatC_get hs i x j y hx hy
 have hq:i*sz+j<us.length:=by rw[hc.1];exact(List.getElem?_eq_some_iff.1 hf).1
 have hu:us[i*sz+j]? =some us[i*sz+j]:=by simp[hq]
 have e:us.getD (i*sz+j) Go.undef=us[i*sz+j]:=by simp[List.getD,hq]
 obtain⟨g1,g2,g3⟩:=hc.2 _ y _ hf hu
 show flatD y∧w.cell? ⟨b,o+i*sz+j,none⟩=some (us.getD (i*sz+j) Go.undef)∧DR w Im y (us.getD (i*sz+j) Go.undef)
 rw[e,Nat.add_assoc]
 exact⟨g1,ha _ _ hu,g3⟩
def putA:Array Value→Nat→List Value→Array Value
 |cur,_,[]=>cur
 |cur,k,v::vs=>putA (cur.setIfInBounds k v) (k+1) vs
theorem putA_size (cur:Array Value) (k:Nat) (vs:List Value):(putA cur k vs).size=cur.size:=by
 induction vs generalizing cur k with
 |nil=>rfl
 |cons v vs ih=>simp[putA,ih]
theorem putA_get (cur:Array Value) (k:Nat) (vs:List Value) (hk:k+vs.length≤cur.size) (q:Nat):(putA cur k vs)[q]? =if k≤q∧q<k+vs.length then vs[q-k]? else cur[q]? :=by
 induction vs generalizing cur k with
 |nil=>rw[if_neg (by simp)];rfl
 |cons v vs ih=>
  simp only[putA]
  rw[ih _ _ (by simp at hk ⊢;omega)]
  simp only[List.length_cons] at hk ⊢
  by_cases h1:k+1≤q∧q<k+1+vs.length
  ·rw[if_pos h1,if_pos (by omega)]
   obtain⟨p,rfl⟩: ∃p,q=k+1+p:=⟨q-(k+1),by omega⟩
   rw[Nat.add_sub_cancel_left,show k+1+p-k=p+1 by omega,List.getElem?_cons_succ]
  ·rw[if_neg h1]
   by_cases h2:q=k
   ·subst h2
    rw[if_pos (by omega),Nat.sub_self,List.getElem?_cons_zero,Array.getElem?_setIfInBounds_self_of_lt (by omega)]
   ·rw[if_neg (by omega),Array.getElem?_setIfInBounds_ne (Ne.symm h2)]
theorem run_stores (g o:Nat) (t:TypeId) (f:Nat×Nat): ∀(vs:List Value) (i:Nat) (cur:Array Value) (w:World),w.heap[g]? =some (.cells cur t f)→noFz f cur.size→o+i+vs.length≤cur.size→(∀v∈vs,one v)→
 (storeCells ⟨g,o,none⟩ vs i).run P w= .ok () (w.setRow g (putA cur (o+i) vs))
 |[],i,cur,w,hg,_,_,_=>by
  simp only[storeCells,putA]
  rw[setRow_self w g cur t f hg]
  rfl
 |v::rest,i,cur,w,hg,hf,hl,h1=>by
  have hi:o+i<cur.size:=by simp at hl;omega
  have hcell:w.cell? ⟨g,o+i,none⟩=some cur[o+i]:=by simp[World.cell?,hg,hi]
  have hfro:w.frozen? ⟨g,o+i,none⟩=false:=frozen_heap hg hf hi
  have hst:(store ((⟨g,o,none⟩:Addr).add i) v).run P w= .ok () (w.setRow g (cur.setIfInBounds (o+i) v)):=by
   rw[add_at,run_store P w _ v _ (one_oneCell (h1 v (by simp))),hcell]
   simp[hfro,setCell_eq_setRow w g (o+i) cur t f v hg]
  have ih:=run_stores g o t f rest (i+1) (cur.setIfInBounds (o+i) v) (w.setRow g (cur.setIfInBounds (o+i) v)) (setRow_heap w g cur _ t _ hg) (by simpa using hf) (by simp at hl ⊢;omega) (fun x hx=>h1 x (by simp[hx]))
  simp only[storeCells,Sem.run_bind,hst,Result.andThen_ok,ih,setRow_setRow]
  rfl
section
variable {t u ty e:TypeId} {i:TypeInfo} {z:Value} {d:TypeDesc} {base:Option Addr} {sLen sCap n:Nat} {x:Value} {news olds:List Value}
theorem run_append_in (ht:P.underlying t=some (.slice e)) (hu:P.underlying u=some d) (hd: ∀k,d≠ .int k) (hi:P.info? e=some i)
 (hn:(Builtin.lenOf x).run P w= .ok n w) (hf:(Builtin.firstCells i.size n x).run P w= .ok news.toArray w) (hroom:sLen+n≤sCap):
 (Builtin.append_ #[t,u] ty #[.slice base sLen sCap,x]).run P w=match base with
   |none=> .ok (.slice none (sLen+n) sCap) w
   |some a=>((storeCells (a.add (sLen*i.size)) news).run P w).andThen fun _ w'=> .ok (.slice (some a) (sLen+n) sCap) w':=by
 have hz:(match d with| .int _=>true|_=>false)=false:=by cases d<;>first|rfl|exact absurd rfl (hd _)
 cases base<;>simp[Builtin.append_,run_underlying ht,run_underlying hu,sizeOf,typeInfo,hi,hn,hf,hroom,hz]
theorem run_append_out (ht:P.underlying t=some (.slice e)) (hu:P.underlying u=some d) (hd: ∀k,d≠ .int k) (hi:P.info? e=some i) (hz:i.zero=some z)
 (hn:(Builtin.lenOf x).run P w= .ok n w) (hf:(Builtin.firstCells i.size n x).run P w.drew= .ok news.toArray w.drew) (ho:(Builtin.firstCells i.size sLen (.slice base sLen sCap)).run P w.drew= .ok olds.toArray w.drew) (hroom:sCap<sLen+n)
 (h63:sLen+n≤1099511627776) (hb:(sLen+n)*i.bytes≤140737488355328):
 (Builtin.append_ #[t,u] ty #[.slice base sLen sCap,x]).run P w=
   .ok (.slice (some ⟨w.heap.size,0,none⟩) (sLen+n) (grownCap w (sLen+n) sCap e)) (w.drew.alloc (.cells (olds.toArray++news.toArray++Builtin.zeroCells z.cells (grownCap w (sLen+n) sCap e-(sLen+n))) e)):=by
 have hzz:(match d with| .int _=>true|_=>false)=false:=by cases d<;>first|rfl|exact absurd rfl (hd _)
 have hn': ¬(sLen+n≤sCap):=by omega
 have h63': ¬(9223372036854775807<((sLen:Int)+(n:Int))):=by omega
 have h48': ¬(281474976710656<Builtin.nextslicecap (sLen+n) sCap*i.bytes):=by have:=growslice_fits hroom hb;omega
 simp[Builtin.append_,run_underlying ht,run_underlying hu,sizeOf,typeInfo,zeroValue,hi,hz,hn,hn',h63',h48',hzz,Question.forced,hf,ho,newRow,grownCap]
 congr 2
 apply Array.ext'
 simp
end
end
end Go.Ev
set_option autoImplicit false
namespace Go.Ev
theorem sizedAll_spec {sz:Nat}: ∀{xs:List D},sizedAll sz xs=true→Sized sz xs
 |[],_=>fun i x hx=>by simp at hx
 |x::xs,h=>by
  simp only[sizedAll,Bool.and_eq_true] at h
  obtain⟨h1,h2⟩:=h
  intro i y hy
  cases i with
  |zero=>
   simp only[List.getElem?_cons_zero,Option.some.injEq] at hy
   subst hy
   cases hc:cellsOkD sz x with
   |none=>simp[hc] at h1
   |some cs=>exact(cellsOkD_some hc).2
  |succ i=>exact sizedAll_spec h2 i y (by simpa using hy)
theorem Sized.sub {sz:Nat} {xs:List D} (h:Sized sz xs) (off len:Nat):Sized sz (subL xs off len):=fun i x hx=>h _ x (subL_get hx).2
theorem Sized.append {sz:Nat} {xs ys:List D} (h:Sized sz xs) (k:Sized sz ys):Sized sz (xs++ys):=fun i x hx=>by
 rw[List.getElem?_append] at hx
 split at hx
 ·exact h i x hx
 ·exact k _ x hx
section
variable {P:Program} {w:World} {Im:Nat→Nat→Prop} {loc:Nat→Loc} {h:Map Obj}
theorem RowRd.sub {b o sz:Nat} {xs:List D} {u:Nat→Nat→Value} (hr:RowRd w Im b o sz xs u) (off len:Nat):RowRd w Im b (o+off*sz) sz (subL xs off len) (fun i j=>u (off+i) j):=by
 intro i x j y hx hy
 have e:o+off*sz+i*sz+j=o+(off+i)*sz+j:=by rw[Nat.add_mul];omega
 rw[e]
 exact hr _ x j y (subL_get hx).2 hy
theorem cell_same {w':World} (hw:w'.heap=w.heap) (a:Addr):w'.cell? a=w.cell? a:=by simp[World.cell?,hw]
theorem firstCells_at {b o sz n len cap:Nat} {us:List Value} (hl:us.length=n*sz) (ha:At w b o us) {w':World} (hw:w'.heap=w.heap):
 (Builtin.firstCells sz n (.slice (some ⟨b,o,none⟩) len cap)).run P w'= .ok us.toArray w':=
 run_firstCells_some w' sz n ⟨b,o,none⟩ len cap us hl (fun j v hv=>by rw[add_at,cell_same hw];exact ha j v hv)
theorem firstCells_zero {sz len cap:Nat} {a:Option Addr} {w':World}:(Builtin.firstCells sz 0 (.slice a len cap)).run P w'= .ok #[] w':=by
 cases a<;>simp[Builtin.firstCells,loadCells,loadCellsFrom]
theorem At.take {b o:Nat} {us:List Value} (ha:At w b o us) (n:Nat):At w b o (us.take n):=fun q u hu=>by
 rw[List.getElem?_take] at hu
 split at hu
 ·exact ha q u hu
 ·cases hu
theorem bytes_cells (s:List UInt8):flatC (s.map byteD)=s.map byteD:=by
 induction s with
 |nil=>rfl
 |cons b s ih=>simp[flatC,cellsD,byteD] at ih ⊢;exact ih
theorem srcOf_spec (hM:Mem w Im loc h) {hs:Map Obj} (hsub: ∀r o,getM hs r=some o→getM h r=some o) {x:V} {ux:Value} (hx:VR w Im loc (stm h) x ux) {ys:List D} (he:srcOf hs x=some ys)
 {sz:Nat} (hz:Sized sz ys): ∃us,CR w Im (flatC ys) us∧∀w':World,w'.heap=w.heap→(Builtin.lenOf ux).run P w'= .ok ys.length w'∧
   ∀n,n≤ys.length→(Builtin.firstCells sz n ux).run P w'= .ok (us.take (n*sz)).toArray w':=by
 unfold srcOf at he
 split at he
 ·obtain rfl:=(Option.some.inj he).symm
  cases hx with
  |d _ _ hd=>
   cases hd with
   |empty a c=>
    refine⟨[],⟨rfl,fun q y u hy=>by simp[flatC] at hy⟩,fun w' hw=>⟨by simp[Builtin.lenOf],fun n hn=> ?_⟩⟩
    obtain rfl:n=0:=by simpa using hn
    rw[firstCells_zero]
    simp
   |list _ b o sz' c u hl h1 h2 h3=>
    have hrd:RowRd w Im b o sz' ys u:=fun i x j y hx hy=>⟨(h2 i x j y hx hy).1,(h2 i x j y hx hy).2.2,h3 i x j y hx hy⟩
    have hs':ys=[]∨sz'=sz:=by
     cases ys with
     |nil=>exact .inl rfl
     |cons x xs=>exact .inr ((h1 0 x rfl).symm.trans (hz 0 x rfl))
    rcases hs' with rfl|rfl
    ·refine⟨[],⟨rfl,fun q y u hy=>by simp[flatC] at hy⟩,fun w' hw=>⟨by simp[Builtin.lenOf],fun n hn=> ?_⟩⟩
     obtain rfl:n=0:=by simpa using hn
     rw[firstCells_zero]
     simp
    ·obtain⟨us,hc,ha⟩:=rowRd_flat hz hrd
     refine⟨us,hc,fun w' hw=>⟨by simp[Builtin.lenOf],fun n hn=> ?_⟩⟩
     refine firstCells_at ?_ (ha.take _) hw
     rw[List.length_take,hc.1,flatC_length hz]
     exact Nat.min_eq_left (Nat.mul_le_mul_right _ hn)
 ·obtain rfl:=Option.some.inj he
  obtain⟨s,rfl,rfl⟩:=hx.str_inv
  have h1:sz=1∨s.data.toList=[]:=by
   cases hs:s.data.toList with
   |nil=>exact .inr rfl
   |cons b l=>exact .inl (by have:=hz 0 (byteD b) (by simp[hs]);simpa[cellsD,byteD] using this.symm)
  refine⟨s.data.toList.map (fun b=> .int .u8 b.toNat),⟨by simp[bytes_cells],fun q y u hy hu=> ?_⟩,fun w' hw=>⟨by simp[Builtin.lenOf],fun n hn=> ?_⟩⟩
  ·rw[bytes_cells] at hy
   simp only[List.getElem?_map,Option.map_eq_some_iff] at hy hu
   obtain⟨b,hb,rfl⟩:=hy
   obtain⟨b',hb',rfl⟩:=hu
   obtain rfl:=Option.some.inj (hb.symm.trans hb')
   exact⟨trivial,trivial, .int _ _⟩
  ·simp only[Builtin.firstCells,Sem.run_pure]
   congr 1
   apply Array.ext'
   rcases h1 with rfl|h1
   ·simp
   ·have hn0:n=0:=by simpa[h1] using hn
    subst hn0
    simp[h1]
 ·obtain rfl:=Option.some.inj he
  cases hx
  refine⟨[],⟨rfl,fun q y u hy=>by simp[flatC] at hy⟩,fun w' hw=>⟨by simp[Builtin.lenOf],fun n hn=> ?_⟩⟩
  obtain rfl:n=0:=by simpa using hn
  rw[firstCells_zero]
  simp
 ·rename_i r s off len
  cases hr:getM hs r with
  |none=>simp[hr,srcOf.srcRow] at he
  |some ob=>
   cases ob with
   |cells=>simp[hr,srcOf.srcRow] at he
   |row sz' xs s' fz chg=>
    simp only[hr,srcOf.srcRow] at he
    split at he
    ·rename_i es
     subst es
     obtain rfl:=Option.some.inj he
     have hg:=hsub _ _ hr
     cases hx with
     |row _ _ _ _ _ h0 hl hh=>
      obtain⟨cur,nn,q1,q2,q3⟩:=hh
      simp only[stm,hg,rowN,Option.some.injEq,Prod.mk.injEq] at q1
      obtain⟨rfl,rfl⟩:=q1
      obtain⟨a,cap,sz2,own,ad,r1,rfl,r3,r4,r5⟩:=q3 rfl
      obtain⟨w1,a2,cap',own',w2,w3,w4,w5,w6,w7⟩:=hM.obj r _ hg
      rw[r1] at w2
      obtain⟨rfl,rfl,rfl,rfl⟩:=Loc.row.inj w2
      have hlen:=subL_length r3
      have hs':subL xs off len=[]∨sz2=sz:=by
       cases hsl:subL xs off len with
       |nil=>exact .inl rfl
       |cons x xs'=>
        have hx0:(subL xs off len)[0]? =some x:=by rw[hsl];rfl
        exact .inr ((w1 _ x (subL_get hx0).2).symm.trans (hz 0 x hx0))
      by_cases hl0:len=0
      ·subst hl0
       have e0:subL xs off 0=[]:=List.eq_nil_of_length_eq_zero hlen
       rw[e0]
       refine⟨[],⟨rfl,fun q y u hy=>by simp[flatC] at hy⟩,fun w' hw=>⟨by simp[Builtin.lenOf],fun n hn=> ?_⟩⟩
       obtain rfl:n=0:=by simpa using hn
       rw[firstCells_zero]
       simp
      ·rcases hs' with e0|rfl
       ·rw[e0] at hlen;simp at hlen;omega
       ·rcases r5 with r5|⟨b,o,rfl,rfl⟩
        ·exfalso;omega
        ·obtain⟨f,hf⟩:=w5 b o rfl
         obtain⟨us,hc,ha⟩:=rowRd_flat hz (RowRd.sub hf off len)
         refine⟨us,hc,fun w' hw=>⟨by simp[Builtin.lenOf,hlen],fun n hn=> ?_⟩⟩
         refine firstCells_at ?_ (ha.take _) hw
         rw[List.length_take,hc.1,flatC_length hz]
         exact Nat.min_eq_left (Nat.mul_le_mul_right _ hn)
    ·cases he
 ·cases he
theorem esize_some {e:Option Nat} {sz:Nat} (h:esize P e=some sz): ∃e' i z,e=some e'∧P.info? e'=some i∧i.zero=some z∧i.size=sz∧sz≠0∧z.cells.toList.all isOne=true∧z.cells.size=i.size∧i.bytes≤128:=by
 cases e with
 |none=>cases h
 |some e=>
  simp only[esize,small] at h
  cases hb:decide (bytesT (tiOf P e)≤128) with
  |false=>simp[hb] at h
  |true=>
   rw[hb] at h
   simp only[cond_true] at h
   obtain⟨T,hT,h1,h2⟩:=sizeT_some h
   obtain⟨i,d,z,hi,hd,hz,e1,e2,e3,e4,e5,e6,e7⟩:=tiOf_some hT
   refine⟨e,i,z,rfl,hi,hz,e1.symm.trans h1,h2,e6,e7, ?_⟩
   rw[hT] at hb
   rw[←e3]
   exact of_decide_eq_true hb
theorem elemT_some {t:TypeId} {e:Nat} (h:elemT (kindOf (tiOf P t))=some e):P.underlying t=some (.slice e):=by
 generalize hk:kindOf (tiOf P t)=k at h
 cases k<;>simp only[elemT,reduceCtorEq,Option.some.injEq] at h
 subst h
 obtain⟨d,hd,hd'⟩:=kind_und hk (by simp)
 rw[kindD_slice hd'] at hd
 exact hd
theorem isSrc_spec {t:TypeId} (h:isSrc (kindOf (tiOf P t))=true): ∃d,P.underlying t=some d∧∀k,d≠ .int k:=by
 generalize hk:kindOf (tiOf P t)=k at h
 cases k<;>simp only[isSrc,Bool.false_eq_true] at h
 ·obtain⟨d,hd,hd'⟩:=kind_und hk (by simp)
  rw[kindD_str hd'] at hd
  exact⟨_,hd,fun k=>by simp⟩
 ·obtain⟨d,hd,hd'⟩:=kind_und hk (by simp)
  rw[kindD_slice hd'] at hd
  exact⟨_,hd,fun k=>by simp⟩
theorem zeroCells_one {z:Array Value} (hz:z.toList.all isOne=true) (n:Nat) {j:Nat} {u:Value} (h:(Builtin.zeroCells z n)[j]? =some u):one u:=by
 unfold Builtin.zeroCells at h
 rw[Array.getElem?_map] at h
 cases hr:(Array.range (n*z.size))[j]? with
 |none=>simp[hr] at h
 |some q=>
  simp only[hr,Option.map_some,Option.some.injEq] at h
  subst h
  obtain⟨hj,he⟩:=Array.getElem?_eq_some_iff.1 hr
  have hzs:0<z.size:=by
   rcases Nat.eq_zero_or_pos z.size with h0|h0
   ·simp[h0] at hj
   ·exact h0
  have hlt:q%z.size<z.size:=Nat.mod_lt _ hzs
  rw[getElem!_pos z _ hlt]
  exact one_of_isOne (List.all_eq_true.1 hz _ (by simpa using Array.getElem_mem hlt))
end
end Go.Ev
set_option autoImplicit false
namespace Go.Ev
section
variable {P:Program} {w:World} {Im:Nat→Nat→Prop} {loc:Nat→Loc} {h:Map Obj}
theorem cell_same_block {w w':World} {b o:Nat} (hb:w'.heap[b]? =w.heap[b]?):w'.cell? ⟨b,o,none⟩=w.cell? ⟨b,o,none⟩:=World.cell?_of_block (a:=⟨b,o,none⟩) hb
section
variable {t u ty e:TypeId} {i:TypeInfo} {z:Value} {n:Nat}
theorem run_append_none (ht:P.underlying t=some (.slice e)) {k:IntKind} (hu:P.underlying u=some (.int k)) (hi:P.info? e=some i) {j:IntKind}:
 (Builtin.append_ #[t,u] ty #[.slice none 0 0, .int j 0]).run P w= .ok (.slice none 0 0) w:=by
 have h0:IntKind.wrap .i64 0=0:=by decide
 simp[Builtin.append_,run_underlying ht,run_underlying hu,sizeOf,typeInfo,hi,asInt,asIntOf,h0]
theorem run_append_zero (ht:P.underlying t=some (.slice e)) {k:IntKind} (hu:P.underlying u=some (.int k)) (hi:P.info? e=some i) (hz:i.zero=some z) {j:IntKind} (hn:0<n) (hsz:i.size≠0)
 (h63:n≤1099511627776) (hb:n*i.bytes≤140737488355328):
 (Builtin.append_ #[t,u] ty #[.slice none 0 0, .int j n]).run P w=
   .ok (.slice (some ⟨w.heap.size,0,none⟩) n (grownCap w n 0 e)) (w.drew.alloc (.cells (Builtin.zeroCells z.cells n++Builtin.zeroCells z.cells (grownCap w n 0 e-n)) e)):=by
 have hw:IntKind.wrap .i64 (n:Int)=n:=by
  simp only[IntKind.wrap,IntKind.bits,IntKind.signed,Bool.true_and,decide_eq_true_eq]
  split<;>rename_i h<;>simp at h<;>omega
 have h0: ¬((n:Int)<0):=by omega
 have h1: ¬(281474976710656<(n:Int)*i.bytes):=by
  have:(n:Int)*i.bytes=((n*i.bytes:Nat):Int):=by rw[Int.natCast_mul]
  omega
 have hn': ¬n=0:=by omega
 have h63': ¬(9223372036854775807<(n:Int)):=by omega
 have h48': ¬(281474976710656<Builtin.nextslicecap n 0*i.bytes):=by
  have:=growslice_fits (need:=n) (old:=0) (bytes:=i.bytes) hn hb
  omega
 have hf:(Builtin.firstCells i.size 0 (.slice none 0 0)).run P w.drew= .ok #[] w.drew:=firstCells_zero
 simp[Builtin.append_,run_underlying ht,run_underlying hu,sizeOf,typeInfo,zeroValue,hi,hz,asInt,asIntOf,hw,h0,h1,hn',hsz,h63',h48',Question.forced,hf,newRow,grownCap]
 intro hh
 rcases Nat.mul_eq_zero.1 hh with hh|hh
 ·exact absurd hh hn'
 ·exact absurd hh hsz
end
theorem grown_row (hM:Mem w Im loc h) {k:Nat} {sz cap:Nat} {xs:List D} {us:List Value} {zs:Array Value} {e:TypeId} (hs:Sized sz xs) (hz0:sz≠0) (hc:CR w Im (flatC xs) us) (hcap:xs.length≤cap)
 (hzs:zs.size=(cap-xs.length)*sz) (hz1: ∀(j:Nat) u,zs[j]? =some u→one u):
 noFz (0,0) (us.toArray++zs).size∧cap*sz≤(us.toArray++zs).size∧(∀(j:Nat) u,(us.toArray++zs)[j]? =some u→one u)∧
 (∀(i:Nat) x (j:Nat) y,xs[i]? =some x→(cellsD x)[j]? =some y→∃u,(us.toArray++zs)[i*sz+j]? =some u∧flatD y∧DR w Im y u):=by
 have hl:us.length=xs.length*sz:=hc.1.trans (flatC_length hs)
 refine⟨fun o _ q=>by omega, ?_,fun j u hu=> ?_,fun i x j y hx hy=> ?_⟩
 ·rw[Array.size_append,List.size_toArray,hl,hzs,←Nat.add_mul]
  exact Nat.mul_le_mul_right _ (by omega)
 ·rw[Array.getElem?_append] at hu
  split at hu
  ·exact hc.one (List.mem_of_getElem? (by simpa using hu))
  ·exact hz1 _ u hu
 ·have hf:=flatC_get hs i x j y hx hy
  have hq:i*sz+j<us.length:=by rw[hc.1];exact(List.getElem?_eq_some_iff.1 hf).1
  obtain⟨g1,g2,g3⟩:=hc.2 _ y us[i*sz+j] hf (by simp[hq])
  refine⟨us[i*sz+j], ?_,g1,g3⟩
  rw[Array.getElem?_append_left (by simpa using hq)]
  simp[hq]
theorem zeroCells_size {z:Array Value} {n:Nat}:(Builtin.zeroCells z n).size=n*z.size:=size_zeroCells z n
theorem app_new (hM:Mem w Im loc h) {k:Nat} (hk:getM h k=none) (hk64:64≤k) {t u e:TypeId} {i:TypeInfo} {z:Value} {d:TypeDesc} {sz:Nat} {ux:Value} {ys:List D} {us:List Value}
 (ht:P.underlying t=some (.slice e)) (hu:P.underlying u=some d) (hd: ∀k,d≠ .int k) (hi:P.info? e=some i) (hz:i.zero=some z) (hsz:i.size=sz) (hz0:sz≠0) (hzc:z.cells.size=i.size) (hz1:z.cells.toList.all isOne=true)
 (hs:Sized sz ys) (hc:CR w Im (flatC ys) us) (hsrc: ∀w':World,w'.heap=w.heap→(Builtin.lenOf ux).run P w'= .ok ys.length w'∧∀n,n≤ys.length→(Builtin.firstCells sz n ux).run P w'= .ok (us.take (n*sz)).toArray w')
 (hroom:ys.length≤1099511627776) (hb:ys.length*i.bytes≤140737488355328) {ty:TypeId}:
 ∃v' w' loc',(Builtin.append_ #[t,u] ty #[.slice none 0 0,ux]).run P w= .ok v' w'∧Step w Im loc h w' Im loc' (setM h k (.row sz ys 0 false false))∧VR w' Im loc' (stm (setM h k (.row sz ys 0 false false))) (.row k 0 0 ys.length) v':=by
 have hl:us.length=ys.length*sz:=hc.1.trans (flatC_length hs)
 have htake:us.take (ys.length*sz)=us:=by rw[←hl];exact List.take_length
 have hst:stm (setM h k (.row sz ys 0 false false)) k=some (0,ys.length):=by simp[stm,getM_set,rowN]
 by_cases h0:ys.length=0
 ·obtain rfl:ys=[]:=List.eq_nil_of_length_eq_zero h0
  obtain⟨a1,a2⟩:=hsrc w rfl
  have hr:=run_append_in (P:=P) (ty:=ty) (base:=none) (sLen:=0) (sCap:=0) ht hu hd hi a1 (by rw[hsz];exact a2 0 (Nat.le_refl _)) (by simp)
  obtain⟨a,s1,s2⟩:=new_lent (w:=w) (Im:=Im) hM hk hk64 (sz:=sz) (xs:=[]) (ad:=none) (c:=0) (fz:=false) (chg:=false) (.empty none 0) (fun i x hx=>by simp at hx) (.inr rfl)
  exact⟨.slice none 0 0,w,_,by simpa using hr,s1, .row _ _ _ _ _ trivial (by simp[locWith,isRowL]) ⟨0,0,hst,Nat.le_refl _,fun _=>by simpa[locWith] using s2⟩⟩
 ·obtain⟨a1,_⟩:=hsrc w rfl
  obtain⟨_,a2⟩:=hsrc w.drew rfl
  have hr:=run_append_out (P:=P) (ty:=ty) (base:=none) (sLen:=0) (sCap:=0) (olds:=[]) ht hu hd hi hz a1 (by rw[hsz];exact a2 _ (Nat.le_refl _)) firstCells_zero (by omega) (by omega) (by simpa using hb)
  rw[htake] at hr
  have e0:([]:List Value).toArray++us.toArray=us.toArray:=by simp
  simp only[Nat.zero_add,e0] at hr
  have hge:=grownCap_ge w ys.length 0 e
  obtain⟨g1,g2,g3,g4⟩:=grown_row hM (k:=k) (e:=e) hs hz0 hc hge (zs:=Builtin.zeroCells z.cells (grownCap w ys.length 0 e-ys.length)) (by rw[zeroCells_size,hzc,hsz]) (fun j u hu=>zeroCells_one hz1 _ hu)
  exact⟨_,_,_,hr,new_row (w0:=w.drew) hM hk hk64 rfl rfl rfl rfl hz0 g1 hs hge g2 g3 0 false g4, .row _ _ _ _ _ trivial (by simp[locWith,isRowL]) ⟨0,_,hst,Nat.le_refl _,fun _=>⟨some (w.heap.size,0),grownCap w ys.length 0 e,sz,true,some ⟨w.heap.size,0,none⟩,by simp[locWith],rfl,by simp,by simp, .inr ⟨w.heap.size,0,rfl,by simp⟩⟩⟩⟩
theorem flat_ints {k:IntKind} {z:Int}: ∀n:Nat,flatC (List.replicate n (D.int k z))=List.replicate n (D.int k z)
 |0=>rfl
 |n+1=>by
  have ih:=flat_ints (k:=k) (z:=z) n
  simp only[List.replicate_succ]
  simp only[flatC,cellsD] at ih ⊢
  simp[ih]
theorem app_zero (hM:Mem w Im loc h) {kk:Nat} (hk:getM h kk=none) (hk64:64≤kk) {t u e:TypeId} {i:TypeInfo} {zv:Value} {k j:IntKind} {z:Int} {sz n:Nat}
 (ht:P.underlying t=some (.slice e)) (hu:P.underlying u=some (.int j)) (hi:P.info? e=some i) (hz:i.zero=some zv) (hsz:i.size=sz) (hz0:sz≠0) (hzc:zv.cells.size=i.size) (hz1:zv.cells.toList.all isOne=true)
 (hzv:zv.cells.toList.map ofValue=[.d (.int k z)]) (hroom:n≤1099511627776) (hb:n*i.bytes≤140737488355328) {ty:TypeId} {j':IntKind}:
 ∃v' w' loc',(Builtin.append_ #[t,u] ty #[.slice none 0 0, .int j' n]).run P w= .ok v' w'∧Step w Im loc h w' Im loc' (setM h kk (.row sz (List.replicate n (.int k z)) 0 false false))∧VR w' Im loc' (stm (setM h kk (.row sz (List.replicate n (.int k z)) 0 false false))) (.row kk 0 0 n) v':=by
 have hst:stm (setM h kk (.row sz (List.replicate n (D.int k z)) 0 false false)) kk=some (0,n):=by simp[stm,getM_set,rowN]
 obtain⟨cells⟩: ∃cells,cells=zv.cells:=⟨_,rfl⟩
 have hone:zv.cells= #[.int k z]:=by
  have hl:zv.cells.toList.length=1:=by rw[←List.length_map (f:=ofValue),hzv];rfl
  obtain⟨v,hv⟩:=List.length_eq_one_iff.1 hl
  rw[hv] at hzv
  simp only[List.map_cons,List.map_nil,List.cons.injEq,and_true] at hzv
  have:v= .int k z:=by
   unfold ofValue at hzv
   split at hzv<;>simp at hzv
   obtain⟨rfl,rfl⟩:=hzv;rfl
  rw[this] at hv
  exact Array.toList_inj.1 (by simpa using hv)
 have hs1:sz=1:=by rw[←hsz,←hzc,hone];rfl
 subst hs1
 by_cases h0:n=0
 ·subst h0
  have hr:=run_append_none (P:=P) (w:=w) (ty:=ty) (t:=t) (u:=u) ht hu hi (j:=j')
  obtain⟨a,s1,s2⟩:=new_lent (w:=w) (Im:=Im) hM hk hk64 (sz:=1) (xs:=[]) (ad:=none) (c:=0) (fz:=false) (chg:=false) (.empty none 0) (fun i x hx=>by simp at hx) (.inr rfl)
  exact⟨.slice none 0 0,w,_,by simpa using hr,s1, .row _ _ _ _ _ trivial (by simp[locWith,isRowL]) ⟨0,0,hst,Nat.le_refl _,fun _=>by simpa[locWith] using s2⟩⟩
 ·have hr:=run_append_zero (P:=P) (w:=w) (ty:=ty) (t:=t) (u:=u) ht hu hi hz (j:=j') (n:=n) (by omega) (by omega) hroom hb
  have hge:=grownCap_ge w n 0 e
  have hS:Sized 1 (List.replicate n (D.int k z)):=fun q x hx=>by
   rw[List.getElem?_replicate] at hx
   split at hx
   ·cases hx;rfl
   ·cases hx
  have hc:CR w Im (flatC (List.replicate n (D.int k z))) (List.replicate n (Value.int k z)):=by
   rw[flat_ints]
   refine⟨by simp,fun q y v hy hv=> ?_⟩
   rw[List.getElem?_replicate] at hy hv
   split at hy
   ·cases hy
    split at hv
    ·cases hv;exact⟨trivial,trivial, .int k z⟩
    ·contradiction
   ·cases hy
  have hzc2:Builtin.zeroCells zv.cells n=(List.replicate n (Value.int k z)).toArray:=by
   rw[hone]
   apply Array.ext
   ·simp[zeroCells_size]
   ·intro q h1 h2
    simp[Builtin.zeroCells]
    rw[show q%1=0 by omega];rfl
  rw[hzc2] at hr
  obtain⟨g1,g2,g3,g4⟩:=grown_row hM (k:=kk) (e:=e) hS (by decide) hc (cap:=grownCap w n 0 e) (by simpa using hge) (zs:=Builtin.zeroCells zv.cells (grownCap w n 0 e-n)) (by rw[zeroCells_size,hzc,hsz];simp) (fun j u hu=>zeroCells_one hz1 _ hu)
  exact⟨_,_,_,hr,new_row (w0:=w.drew) hM hk hk64 rfl rfl rfl rfl (by decide) g1 hS (by simpa using hge) g2 g3 0 false g4, .row _ _ _ _ _ trivial (by simp[locWith,isRowL]) ⟨0,_,hst,Nat.le_refl _,fun _=>⟨some (w.heap.size,0),grownCap w n 0 e,1,true,some ⟨w.heap.size,0,none⟩,by simp[locWith],rfl,by simp,by simp, .inr ⟨w.heap.size,0,rfl,by simp⟩⟩⟩⟩
set_option maxHeartbeats 2000000 in
theorem app_row (hM:Mem w Im loc h) {r s off len sz sz':Nat} {xs:List D} {fz chg:Bool} (hr:getM h r=some (.row sz' xs s fz chg)) {us0:Value} (hv:VR w Im loc (stm h) (.row r s off len) us0)
 (hszz:sz'=sz∨(sz'=0∧xs=[])) (hfz:fz=false∨xs.length≤off+len)
 {t u e:TypeId} {i:TypeInfo} {z:Value} {d:TypeDesc} {ux:Value} {ys:List D} {us:List Value}
 (ht:P.underlying t=some (.slice e)) (hu:P.underlying u=some d) (hd: ∀k,d≠ .int k) (hi:P.info? e=some i) (hz:i.zero=some z) (hsz:i.size=sz) (hz0:sz≠0) (hzc:z.cells.size=i.size) (hz1:z.cells.toList.all isOne=true)
 (hs:Sized sz ys) (hc:CR w Im (flatC ys) us) (hsrc: ∀w':World,w'.heap=w.heap→(Builtin.lenOf ux).run P w'= .ok ys.length w'∧∀n,n≤ys.length→(Builtin.firstCells sz n ux).run P w'= .ok (us.take (n*sz)).toArray w')
 (hroom:len+ys.length≤1099511627776) (hb:(len+ys.length)*i.bytes≤140737488355328) {ty:TypeId}:
 ∃v' w' loc',(Builtin.append_ #[t,u] ty #[us0,ux]).run P w= .ok v' w'∧Step w Im loc h w' Im loc' (setM h r (.row sz (subL xs off len++ys) (s+1) fz true))∧
  VR w' Im loc' (stm (setM h r (.row sz (subL xs off len++ys) (s+1) fz true))) (.row r (s+1) 0 (len+ys.length)) v':=by
 have hl:us.length=ys.length*sz:=hc.1.trans (flatC_length hs)
 have htake:us.take (ys.length*sz)=us:=by rw[←hl];exact List.take_length
 obtain⟨a0,cap0,szl,own0,ad,r1,rfl,r3,r3',r4⟩:RowAt (loc r) off len xs.length us0:=by
  cases hv with
  |row _ _ _ _ _ h0 hl hh=>
   obtain⟨cur,nn,q1,q2,q3⟩:=hh
   simp only[stm,hr,rowN,Option.some.injEq,Prod.mk.injEq] at q1
   obtain⟨rfl,rfl⟩:=q1
   exact q3 rfl
 obtain⟨w1,a,cap,own,w2,w3,w4,w5,w6,w7⟩:=hM.obj r _ hr
 rw[r1] at w2
 obtain⟨rfl,rfl,rfl,rfl⟩:=Loc.row.inj w2.symm
 have hlen:=subL_length r3
 have hsx:Sized sz (subL xs off len):=by
  rcases hszz with rfl|⟨rfl,rfl⟩
  ·exact Sized.sub w1 off len
  ·intro i x hx;have:=(subL_get hx).2;simp at this
 have hnl:(subL xs off len++ys).length=len+ys.length:=by simp[hlen]
 have hst:stm (setM h r (.row sz (subL xs off len++ys) (s+1) fz true)) r=some (s+1,len+ys.length):=by simp[stm,getM_set,rowN,hlen]
 have hrow:isRowL (loc r):=by rw[r1];trivial
 have hcur:stm h r=some (s,xs.length):=by simp[stm,hr,rowN]
 have hkept: ∀l':Loc,r<64→∃o,getM h r=some o∧kept (loc r) l' o (.row sz (subL xs off len++ys) (s+1) fz true):=fun l' _=>⟨_,hr, .inl rfl⟩
 have hgr: ∀l':Loc,isRowL l'→∀cur n,isRowL (loc r)→stm h r=some (cur,n)→isRowL l'∧∃cur' n',rowN (some (.row sz (subL xs off len++ys) (s+1) fz true))=some (cur',n')∧cur≤cur'∧(cur'=cur→l'=loc r∧n≤n'):=fun l' hl' cur n _ e=>by
  rw[hcur] at e
  obtain⟨rfl,rfl⟩:=Prod.mk.inj (Option.some.inj e)
  exact⟨hl',s+1,_,rfl,by omega,fun e=>by omega⟩
 have hblkN: ∀l':Loc,∀b,loc r= .blk b→l'= .blk b:=fun l' b e=>by rw[r1] at e;cases e
 obtain⟨a1,a1'⟩:=hsrc w rfl
 have hold:len=0∨∃b o uo,a=some (b,o)∧ad=some ⟨b,o+off*sz,none⟩∧sz'=sz∧CR w Im (flatC (subL xs off len)) uo∧At w b (o+off*sz) uo:=by
  by_cases h0:len=0
  ·exact .inl h0
  ·rcases hszz with rfl|⟨rfl,rfl⟩
   ·rcases r4 with r4|⟨b,o,rfl,rfl⟩
    ·exfalso;omega
    ·obtain⟨f,hf⟩:=w5 b o rfl
     obtain⟨uo,c1,c2⟩:=rowRd_flat hsx (RowRd.sub hf off len)
     exact .inr ⟨b,o,uo,rfl,rfl,rfl,c1,c2⟩
   ·simp at r3;omega
 by_cases hin:len+ys.length≤cap-off
 ·
  have hrun:=run_append_in (P:=P) (ty:=ty) (base:=ad) (sLen:=len) (sCap:=cap-off) ht hu hd hi a1 (by rw[hsz];exact a1' _ (Nat.le_refl _)) hin
  rw[htake,hsz] at hrun
  cases own with
  |false=>
   obtain⟨l1,l2,l3⟩:=w6 rfl
   have hy:ys=[]:=by
    refine List.eq_nil_of_length_eq_zero ?_
    rcases l2 with rfl|rfl
    ·rcases hfz with e|e
     ·cases e
     ·omega
    ·simp at l1;omega
   subst hy
   have hus:us=[]:=List.eq_nil_of_length_eq_zero (by simpa using hl)
   subst hus
   have hr2:(Builtin.append_ #[t,u] ty #[.slice ad len (cap-off),ux]).run P w= .ok (.slice ad len (cap-off)) w:=by
    rw[hrun]
    cases ad with
    |none=>simp
    |some x=>simp[storeCells]
   have hfull:len=cap-off:=by
    rcases l2 with rfl|rfl
    ·rcases hfz with e|e
     ·cases e
     ·omega
    ·simp at l1 r3;omega
   have hdx: ∃a',(∀b o,a'=some (b,o)→∃u,RowRd w Im b o sz (subL xs off len) u)∧(∀b o,a'=some (b,o)→∀(i:Nat) x (j:Nat) y,(subL xs off len)[i]? =some x→(cellsD x)[j]? =some y→Im b (o+i*sz+j))∧(a'=none→subL xs off len=[])∧(len=0∨∃b o,a'=some (b,o)∧ad=some ⟨b,o,none⟩):=by
    rcases hold with h0|⟨b,o,uo,rfl,rfl,rfl,c1,c2⟩
    ·exact⟨none,(fun b o e=>by cases e),(fun b o e=>by cases e),(fun _=>List.eq_nil_of_length_eq_zero (by omega)), .inl h0⟩
    ·refine⟨some (b,o+off*sz'),fun b' o' e=> ?_,fun b' o' e i x j y hx hy=> ?_,(fun e=>by cases e), .inr ⟨b,_,rfl,rfl⟩⟩
     ·obtain⟨rfl,rfl⟩:=Prod.mk.inj (Option.some.inj e)
      exact flat_rowRd hsx c1 c2
     ·obtain⟨rfl,rfl⟩:=Prod.mk.inj (Option.some.inj e)
      have e2:o+off*sz'+i*sz'+j=o+(off+i)*sz'+j:=by rw[Nat.add_mul];omega
      rw[e2]
      exact l3 b o rfl _ x j y (subL_get hx).2 hy
   obtain⟨a',d1,d2,d3,d4⟩:=hdx
   refine⟨_,w,locWith loc r (.row a' len sz false),hr2,Step.gen hM rfl rfl rfl (Nat.le_refl _) (fun k hk=>by simp[locWith,hk]) (fun _ _ _=>rfl) (fun _ _ i=>i) (fun _ _ _=>rfl) (fun _ _ i=> .inl i) hM.im (fun b hb=> ?_)
    (fun b e=>by rw[r1] at e;cases e) ?_ ?_ ?_, .row _ _ _ _ _ trivial (by simp[locWith,isRowL]) ⟨s+1,_,hst,Nat.le_refl _,fun _=>⟨a',len,sz,false,ad,by simp[locWith],by simp[hfull],by simp,by simp, ?_⟩⟩⟩
   ·simp only[locWith,if_true] at hb
    cases a'<;>exact hb.elim
   ·have:=hgr (.row a' len sz false) trivial
    simpa[locWith] using this
   ·have:=hkept (.row a' len sz false)
    simpa[locWith] using this
   ·refine⟨hsx.append hs,a',len,false,by simp[locWith],by simp[hlen],fun e=>by simp[d3 e],fun b o e=>by simpa using d1 b o e,fun _=>⟨by simp[hlen], ?_,fun b o e i x j y hx hy=>d2 b o e i x j y (by simpa using hx) hy⟩,fun e=>by cases e⟩
    rcases l2 with l2|l2
    ·exact .inl l2
    ·right;subst l2;simp[subL]
   ·rcases d4 with d4|⟨b,o,e1,e2⟩
    ·exact .inl (by omega)
    ·exact .inr ⟨b,o,e1,by simpa using e2⟩
  |true=>
   obtain⟨b,o,arr,ty',f,rfl,q2,q3,q4,q5,q6,q7⟩:=w7 rfl
   have hsz':sz'=sz:=hszz.resolve_right (fun e=>q7 e.1)
   subst hsz'
   by_cases hcz:cap-off=0
   ·
    have hy:ys=[]:=List.eq_nil_of_length_eq_zero (by omega)
    subst hy
    have hl0:len=0:=by omega
    subst hl0
    have hus:us=[]:=List.eq_nil_of_length_eq_zero (by simpa using hl)
    subst hus
    have hr2:(Builtin.append_ #[t,u] ty #[.slice ad 0 (cap-off),ux]).run P w= .ok (.slice ad 0 (cap-off)) w:=by
     rw[hrun]
     cases ad with
     |none=>simp
     |some x=>simp[storeCells]
    have e0:subL xs off 0++[]=[]:=by simp[subL]
    refine⟨_,w,locWith loc r (.row none 0 sz' false),hr2,Step.gen hM rfl rfl rfl (Nat.le_refl _) (fun k hk=>by simp[locWith,hk]) (fun _ _ _=>rfl) (fun _ _ i=>i) (fun _ _ _=>rfl) (fun _ _ i=> .inl i) hM.im (fun b hb=> ?_)
     (fun b e=>by rw[r1] at e;cases e) ?_ ?_ ?_, .row _ _ _ _ _ trivial (by simp[locWith,isRowL]) ⟨s+1,_,hst,Nat.le_refl _,fun _=>⟨none,0,sz',false,ad,by simp[locWith],by simp[hcz],by simp,by simp, .inl rfl⟩⟩⟩
    ·simp only[locWith,if_true] at hb
     exact hb.elim
    ·have:=hgr (.row none 0 sz' false) trivial
     simpa[locWith] using this
    ·have:=hkept (.row none 0 sz' false)
     simpa[locWith] using this
    ·rw[e0]
     exact⟨fun i x hx=>by simp at hx,none,0,false,by simp[locWith],by simp,fun _=>rfl,(fun b o e=>by cases e),(fun _=>⟨rfl, .inr rfl,fun b o e=>by cases e⟩),fun e=>by cases e⟩
   ·obtain⟨b',o',e1,rfl⟩:=r4.resolve_left hcz
    obtain⟨rfl,rfl⟩:=Prod.mk.inj (Option.some.inj e1)
    have hfit:o+off*sz'+len*sz'+us.length≤arr.size:=by
     have h1:(off+len+ys.length)*sz'≤cap*sz':=Nat.mul_le_mul_right _ (by omega)
     rw[hl]
     simp only[Nat.add_mul] at h1
     omega
    have hstore:=run_stores (P:=P) b (o+off*sz'+len*sz') ty' f us 0 arr w q2 q3 (by simpa using hfit) (fun v hv=>hc.one hv)
    simp only[Nat.add_zero] at hstore
    have hr2:(Builtin.append_ #[t,u] ty #[.slice (some ⟨b,o+off*sz',none⟩) len (cap-off),ux]).run P w= .ok (.slice (some ⟨b,o+off*sz',none⟩) (len+ys.length) (cap-off)) (w.setRow b (putA arr (o+off*sz'+len*sz') us)):=by
     rw[hrun]
     simp only[add_at,hstore,Result.andThen_ok]
    have hget:=putA_get arr (o+off*sz'+len*sz') us hfit
    have hheap:=setRow_heap w b arr (putA arr (o+off*sz'+len*sz') us) ty' f q2
    have hcell: ∀k q,Im k q→(w.setRow b (putA arr (o+off*sz'+len*sz') us)).cell? ⟨k,q,none⟩=w.cell? ⟨k,q,none⟩:=fun k q hi=>by
     by_cases hk:k=b
     ·subst hk
      rw[cell_heap hheap,cell_heap q2,hget,if_neg]
      rcases q6 q hi with h1|⟨h1,h2⟩
      ·have:o≤o+off*sz'+len*sz':=by omega
       omega
      ·rcases hfz with e|e
       ·rw[e] at h1;cases h1
       ·have:xs.length*sz'≤(off+len)*sz':=Nat.mul_le_mul_right _ e
        rw[Nat.add_mul] at this
        omega
     ·exact cell_same_block (setRow_other w b k _ hk)
    have hCo: ∃uo,CR w Im (flatC (subL xs off len)) uo∧At w b (o+off*sz') uo:=by
     obtain⟨f',hf'⟩:=w5 b o rfl
     exact rowRd_flat hsx (RowRd.sub hf' off len)
    obtain⟨uo,c1,c2⟩:=hCo
    have huo:uo.length=len*sz':=by rw[c1.1,flatC_length hsx,hlen]
    have hgrow0: ∀{ds us'},CR w Im ds us'→CR (w.setRow b (putA arr (o+off*sz'+len*sz') us)) Im ds us':=fun hcc=>hcc.grow (fun _ _ i=>i) hcell
    have hAt:At (w.setRow b (putA arr (o+off*sz'+len*sz') us)) b (o+off*sz') (uo++us):=fun q v hq=>by
     rw[cell_heap hheap,hget]
     by_cases hlt:q<uo.length
     ·rw[List.getElem?_append_left hlt] at hq
      rw[if_neg (by omega)]
      have:=c2 q v hq
      rw[cell_heap q2] at this
      exact this
     ·rw[List.getElem?_append_right (by omega)] at hq
      have hq2:=(List.getElem?_eq_some_iff.1 hq).1
      rw[if_pos (by omega),show o+off*sz'+q-(o+off*sz'+len*sz')=q-uo.length by omega]
      exact hq
    have hCR:CR (w.setRow b (putA arr (o+off*sz'+len*sz') us)) Im (flatC (subL xs off len++ys)) (uo++us):=by
     rw[flatC_append]
     exact(hgrow0 c1).append (hgrow0 hc)
    obtain⟨uf,huf⟩:=flat_rowRd (hsx.append hs) hCR hAt
    refine⟨_,_,locWith loc r (.row (some (b,o+off*sz')) (cap-off) sz' true),hr2,Step.gen hM rfl rfl rfl (by simp) (fun k hk=>by simp[locWith,hk]) (fun k hk hn=>setRow_other w b k _ (fun e=>hn (by rw[r1,e];rfl))) (fun _ _ i=>i) hcell (fun _ _ i=> .inl i) (fun k q hi=>by simpa using hM.im k q hi) (fun k hk=> ?_)
     (fun b e=>by rw[r1] at e;cases e) ?_ ?_ ?_, .row _ _ _ _ _ trivial (by simp[locWith,isRowL]) ⟨s+1,_,hst,Nat.le_refl _,fun _=>⟨some (b,o+off*sz'),cap-off,sz',true,_,by simp[locWith],rfl,by simp,by simp, .inr ⟨b,_,rfl,by simp⟩⟩⟩⟩
    ·simp only[locWith,if_true] at hk
     left
     rw[r1]
     exact hk
    ·have:=hgr (.row (some (b,o+off*sz')) (cap-off) sz' true) trivial
     simpa[locWith] using this
    ·have:=hkept (.row (some (b,o+off*sz')) (cap-off) sz' true)
     simpa[locWith] using this
    ·refine⟨hsx.append hs,_,cap-off,true,by simp[locWith],by rw[hnl];exact hin,(fun e=>by cases e),fun b' o' e=> ?_,(fun e=>by cases e),fun _=>⟨b,o+off*sz',putA arr (o+off*sz'+len*sz') us,ty',f,rfl,hheap,by rw[putA_size];exact q3,fun j v hj=> ?_, ?_,fun q hq=> ?_,q7⟩⟩
     ·obtain⟨rfl,rfl⟩:=Prod.mk.inj (Option.some.inj e)
      exact⟨uf,huf⟩
     ·rw[hget] at hj
      split at hj
      ·exact hc.one (List.mem_of_getElem? hj)
      ·exact q4 j v hj
     ·rw[putA_size]
      have h1:(off+(cap-off))*sz'≤cap*sz':=Nat.mul_le_mul_right _ (by omega)
      rw[Nat.add_mul] at h1
      omega
     ·rcases q6 q hq with h1|⟨h1,h2⟩
      ·left;omega
      ·right
       refine⟨h1, ?_⟩
       rcases hfz with e|e
       ·rw[e] at h1;cases h1
       ·have h3:xs.length*sz'≤(off+len)*sz':=Nat.mul_le_mul_right _ e
        rw[hnl,Nat.add_mul]
        rw[Nat.add_mul] at h3
        omega
 ·
  obtain⟨_,a2'⟩:=hsrc w.drew rfl
  obtain⟨uo,c1,c2⟩: ∃uo,CR w Im (flatC (subL xs off len)) uo∧(Builtin.firstCells i.size len (.slice ad len (cap-off))).run P w.drew= .ok uo.toArray w.drew:=by
   rcases hold with h0|⟨b,o,uo,rfl,rfl,rfl,c1,c2⟩
   ·refine⟨[],⟨?_,fun q y u hy=> ?_⟩,by rw[h0];exact firstCells_zero⟩
    ·rw[flatC_length hsx,hlen,h0];simp
    ·have:=(List.getElem?_eq_some_iff.1 hy).1
     rw[flatC_length hsx,hlen,h0] at this
     omega
   ·exact⟨uo,c1,firstCells_at (by rw[c1.1,flatC_length hsx,hlen,hsz]) c2 rfl⟩
  have hrun:=run_append_out (P:=P) (ty:=ty) (base:=ad) (sLen:=len) (sCap:=cap-off) (olds:=uo) ht hu hd hi hz a1 (by rw[hsz];exact a2' _ (Nat.le_refl _)) c2 (by omega) hroom hb
  rw[htake] at hrun
  have hge:=grownCap_ge w (len+ys.length) (cap-off) e
  have hCR:CR w Im (flatC (subL xs off len++ys)) (uo++us):=by rw[flatC_append];exact c1.append hc
  obtain⟨g1,g2,g3,g4⟩:=grown_row hM (k:=r) (e:=e) (hsx.append hs) hz0 hCR (cap:=grownCap w (len+ys.length) (cap-off) e) (by rw[hnl];exact hge) (zs:=Builtin.zeroCells z.cells (grownCap w (len+ys.length) (cap-off) e-(len+ys.length))) (by rw[zeroCells_size,hzc,hsz,hnl]) (fun j u hu=>zeroCells_one hz1 _ hu)
  have happ:uo.toArray++us.toArray=(uo++us).toArray:=by simp
  rw[happ] at hrun
  generalize hW:w.drew.alloc (Go.Obj.cells ((uo++us).toArray++Builtin.zeroCells z.cells (grownCap w (len+ys.length) (cap-off) e-(len+ys.length))) e)=W at hrun
  have hnew:W.heap[w.heap.size]? =some (.cells ((uo++us).toArray++Builtin.zeroCells z.cells (grownCap w (len+ys.length) (cap-off) e-(len+ys.length))) e):=by
   rw[←hW];exact heap_alloc_new w.drew _
  have holdb: ∀b,b<w.heap.size→W.heap[b]? =w.heap[b]? :=fun b hb=>by rw[←hW];exact heap_alloc_old w.drew _ b hb
  have hsize:w.heap.size≤W.heap.size:=by rw[←hW];simp
  have hcell: ∀k q,Im k q→W.cell? ⟨k,q,none⟩=w.cell? ⟨k,q,none⟩:=fun k q hi=>cell_same_block (holdb k (hM.im k q hi))
  refine⟨_,W,locWith loc r (.row (some (w.heap.size,0)) (grownCap w (len+ys.length) (cap-off) e) sz true),hrun,Step.gen hM (by rw[←hW];rfl) (by rw[←hW];rfl) (by rw[←hW];rfl) hsize (fun k hk=>by simp[locWith,hk]) (fun k hk _=>holdb k hk) (fun _ _ i=>i) hcell (fun _ _ i=> .inl i) (fun k q hi=>Nat.lt_of_lt_of_le (hM.im k q hi) hsize) (fun k hk=> ?_)
   (fun b e=>by rw[r1] at e;cases e) ?_ ?_ ?_, .row _ _ _ _ _ trivial (by simp[locWith,isRowL]) ⟨s+1,_,hst,Nat.le_refl _,fun _=>⟨some (w.heap.size,0),grownCap w (len+ys.length) (cap-off) e,sz,true,_,by simp[locWith],rfl,by simp,by simp, .inr ⟨w.heap.size,0,rfl,by simp⟩⟩⟩⟩
  ·simp only[locWith,if_true] at hk
   right
   exact Nat.le_of_eq hk
  ·have:=hgr (.row (some (w.heap.size,0)) (grownCap w (len+ys.length) (cap-off) e) sz true) trivial
   simpa[locWith] using this
  ·have:=hkept (.row (some (w.heap.size,0)) (grownCap w (len+ys.length) (cap-off) e) sz true)
   simpa[locWith] using this
  ·refine⟨hsx.append hs,_,grownCap w (len+ys.length) (cap-off) e,true,by simp[locWith],by rw[hnl];exact hge,(fun e=>by cases e),fun b' o' ee=> ?_,(fun e=>by cases e),fun _=>⟨w.heap.size,0,_,_,(0,0),rfl,hnew,g1,g3,by simpa using g2,fun q hq=>absurd (hM.im _ q hq) (by omega),hz0⟩⟩
   obtain⟨rfl,rfl⟩:=Prod.mk.inj (Option.some.inj ee)
   refine⟨fun i j=>((uo++us).toArray++Builtin.zeroCells z.cells (grownCap w (len+ys.length) (cap-off) e-(len+ys.length))).getD (i*sz+j) Go.undef,fun i x j y hx hy=> ?_⟩
   obtain⟨v,v1,v2,v3⟩:=g4 i x j y hx hy
   simp only[Array.getD_eq_getD_getElem?,v1,Option.getD_some]
   exact⟨v2,by rw[cell_heap hnew];simpa using v1,v3.grow (fun _ _ i=>i) hcell⟩
end
end Go.Ev
set_option autoImplicit false
namespace Go.Ev
theorem putL_spec {α:Type}: ∀(cs:List α) (o:Nat) (vs out:List α),putL cs o vs=some out→out.length=cs.length∧o+vs.length≤cs.length∧∀q,out[q]? =if o≤q∧q<o+vs.length then vs[q-o]? else cs[q]?
 |cs,0,[],out,h=>by
  cases cs<;>(obtain rfl:=Option.some.inj h;exact⟨rfl,by simp,fun q=>by simp⟩)
 |[],0,v::vs,out,h=>by simp[putL] at h
 |c::cs,0,v::vs,out,h=>by
  simp only[putL,Option.map_eq_some_iff] at h
  obtain⟨out',h1,rfl⟩:=h
  obtain⟨e1,e2,e3⟩:=putL_spec cs 0 vs out' h1
  refine⟨by simp[e1],by simp;omega,fun q=> ?_⟩
  cases q with
  |zero=>simp
  |succ q=>
   have:=e3 q
   simp only[Nat.zero_add,Nat.zero_le,true_and,Nat.sub_zero,List.length_cons,List.getElem?_cons_succ] at this ⊢
   rw[this]
   by_cases hq:q<vs.length
   ·rw[if_pos hq,if_pos (by omega)]
   ·rw[if_neg hq,if_neg (by omega)]
 |[],o+1,vs,out,h=>by simp[putL] at h
 |c::cs,o+1,vs,out,h=>by
  simp only[putL,Option.map_eq_some_iff] at h
  obtain⟨out',h1,rfl⟩:=h
  obtain⟨e1,e2,e3⟩:=putL_spec cs o vs out' h1
  refine⟨by simp[e1],by simp;omega,fun q=> ?_⟩
  cases q with
  |zero=>simp
  |succ q=>
   simp only[List.getElem?_cons_succ]
   rw[e3 q]
   by_cases hq:o≤q∧q<o+vs.length
   ·rw[if_pos hq,if_pos (by omega),show q+1-(o+1)=q-o by omega]
   ·rw[if_neg hq,if_neg (by omega)]
section
variable {P:Program} {w:World} {Im:Nat→Nat→Prop} {loc:Nat→Loc} {h:Map Obj}
theorem run_storeVar {t:TypeId} {i:TypeInfo} {d:TypeDesc} (hi:P.info? t=some i) {b o:Nat} {arr:Array Value} {ty:TypeId} {f:Nat×Nat} {u:Value} (hb:w.heap[b]? =some (.cells arr ty f)) (hf:noFz f arr.size)
 (hsz:u.cells.size=i.size) (hfit:o+i.size≤arr.size) (h1: ∀v∈u.cells.toList,one v):
 (Instr.storeAt t (.pointer (some ⟨b,o,none⟩)) u).run P w= .ok () (w.setRow b (putA arr o u.cells.toList)):=by
 have hst:=run_stores (P:=P) b o ty f u.cells.toList 0 arr w hb hf (by simpa[hsz] using hfit) h1
 simp only[Nat.add_zero] at hst
 simp[Instr.storeAt,Instr.sureAddr,storeVar,run_sizeOf' hi,hsz,hst]
theorem stO_ran (hM:Mem w Im loc h) {hs:Map Obj} (hsub: ∀r o,getM hs r=some o→getM h r=some o) {t:TypeId} {T:TI} (ht:tiOf P t=some T) {r off:Nat} {x v:V} {ua ux:Value} {ch:Map Obj} {news:List Obj}
 (ha:VR w Im loc (stm h) (.ptr r off) ua) (hx:VR w Im loc (stm h) x ux) (hv:stO r off (getM hs r) (cellsOk T.size x)=some (v,ch,news)):
 ∃w' o',v= .undef∧ch=[(r,o')]∧news=[]∧(Instr.storeAt t ua ux).run P w= .ok () w'∧Step w Im loc h w' Im loc (setM h r o'):=by
 cases hr:getM hs r with
 |none=>simp[hr,stO] at hv
 |some ob=>
  cases ob with
  |row=>cases hc:cellsOk T.size x<;>simp[hr,hc,stO] at hv
  |cells cs=>
   cases hc:cellsOk T.size x with
   |none=>simp[hr,hc,stO] at hv
   |some vs=>
    simp only[hr,hc,stO] at hv
    cases hp:putL cs off vs with
    |none=>simp[hp,stO.stO1] at hv
    |some cs'=>
     simp only[hp,stO.stO1,Option.some.injEq,Prod.mk.injEq] at hv
     obtain⟨rfl,rfl,rfl⟩:=hv
     have hg:=hsub _ _ hr
     cases ha with
     |ptr _ _ b hb=>
      obtain⟨b',hb',arr,ty,f,q1,q2,q3,q4,q5,q6⟩:=hM.obj r _ hg
      obtain rfl:b=b':=by rw[hb] at hb';exact Loc.blk.inj hb'
      obtain⟨i,d,z,hi,hd,hz,e1,e2,e3,e4,e5,e6,e7⟩:=tiOf_some ht
      obtain⟨c1,c2,c3⟩:=hx.cells hc
      obtain⟨p1,p2,p3⟩:=putL_spec _ _ _ _ hp
      have hone: ∀v∈ux.cells.toList,one v:=fun v hv=>by
       obtain⟨j,hj,rfl⟩:=List.getElem_of_mem hv
       have hj':j<vs.length:=by rw[c2,←c1];simpa using hj
       exact(c3 j vs[j] _ (by simp[hj']) (by simp at hj;simp[hj])).1
      have hfit:off+ux.cells.toList.length≤arr.size:=by
       have:ux.cells.toList.length=vs.length:=by simp[c1,c2]
       rw[this,q2];exact p2
      have hrun:=run_storeVar (P:=P) (w:=w) (t:=t) (d:=d) hi q1 q3 (c1.trans e1) (by rw[←e1,←c1];simpa using hfit) hone
      have hheap:=setRow_heap w b arr (putA arr off ux.cells.toList) ty f q1
      have hcell: ∀k q,Im k q→(w.setRow b (putA arr off ux.cells.toList)).cell? ⟨k,q,none⟩=w.cell? ⟨k,q,none⟩:=fun k q hi=>by
       have hk:k≠b:=fun e=>q6 q (e ▸ hi)
       exact cell_same_block (setRow_other w b k _ hk)
      have hst:stm (setM h r (.cells cs'))=stm h:=by
       funext k
       simp only[stm,getM_setM]
       split
       ·rename_i q;subst q;rw[hg];rfl
       ·rfl
      have g:Grow w Im loc (stm h) (w.setRow b (putA arr off ux.cells.toList)) Im loc (stm (setM h r (.cells cs'))):=by
       rw[hst]
       exact⟨fun _ _ i=>i,hcell,fun _ _ e=>e,fun _ cur n hl e=>⟨hl,cur,n,e,Nat.le_refl _,fun _=>⟨rfl,Nat.le_refl _⟩⟩⟩
      refine⟨_,_,rfl,rfl,rfl,hrun,Step.gen hM rfl rfl rfl (by simp) (fun _ _=>rfl) (fun k hk hn=>setRow_other w b k _ (fun e=>hn (by rw[hb,e];rfl))) (fun _ _ i=>i) hcell (fun _ _ i=> .inl i) (fun k q hi=>by simpa using hM.im k q hi)
       (fun k hk=> .inl hk) (fun _ e=>e) (fun cur n hl=>by rw[hb] at hl;exact hl.elim) (fun _=>⟨_,hg,rfl⟩) ?_⟩
      refine⟨b,hb,_,ty,f,hheap,by rw[putA_size,q2,p1],by rw[putA_size];exact q3,fun j u hu=> ?_,fun j v u hv hu=> ?_,q6⟩
      ·rw[putA_get _ _ _ hfit] at hu
       split at hu
       ·exact hone u (List.mem_of_getElem? hu)
       ·exact q4 j u hu
      ·rw[putA_get _ _ _ hfit] at hu
       rw[p3] at hv
       have hlv:ux.cells.toList.length=vs.length:=by simp[c1,c2]
       rw[hlv] at hu
       split at hu
       ·rename_i hq
        rw[if_pos hq] at hv
        exact((c3 _ v u hv (by simpa using hu)).2).grow g
       ·rename_i hq
        rw[if_neg hq] at hv
        exact(q5 j v u hv hu).grow g
theorem flat_of_DR {x:D} {u:Value} (hd:DR w Im x u) (h1:one u):flatD x:=by
 cases hd<;>first|trivial|exact h1.elim
theorem rebuild_cells {y y':D} {cs:List D} (hr:rebuild y cs=some y') (hf: ∀c∈cs,flatD c):cellsD y'=cs:=by
 cases y with
 |agg ds=>simp only[rebuild,Option.some.injEq] at hr;subst hr;rfl
 |_=>
  match cs,hr with
  |[x],hr=>
   simp only[rebuild,Option.some.injEq] at hr
   subst hr
   have:=hf x (by simp)
   cases x<;>first|rfl|exact this.elim
theorem getM_setAll: ∀(ch:Map Obj) (h:Map Obj) (k:Nat),getM ch k=none→getM (setAll h ch) k=getM h k
 |[],h,k,_=>rfl
 |(q,o)::ch,h,k,hk=>by
  have hq:q≠k:=fun e=>by subst e;simp[getM] at hk
  have hb:(q==k)=false:=by simpa using hq
  simp only[getM,hb,cond_false] at hk
  simp only[setAll]
  rw[getM_setAll ch _ k hk,getM_ne _ _ hq]
set_option maxHeartbeats 1000000 in
theorem stE_ran (hM:Mem w Im loc h) {hs:Map Obj} (hsub: ∀r o,getM hs r=some o→getM h r=some o) {t:TypeId} {T:TI} (ht:tiOf P t=some T) {r s i0 j0:Nat} {x v:V} {ua ux:Value} {ch:Map Obj} {news:List Obj}
 (ha:VR w Im loc (stm h) (.eptr r s i0 j0) ua) (hx:VR w Im loc (stm h) x ux) (hv:stE T r s i0 j0 (getM hs r) (toD hs x)=some (v,ch,news)):
 ∃w' Im',v= .undef∧news=[]∧(Instr.storeAt t ua ux).run P w= .ok () w'∧Step w Im loc h w' Im' loc (setAll h ch):=by
 cases hr:getM hs r with
 |none=>simp[hr,stE] at hv
 |some ob=>
  cases ob with
  |cells=>simp[hr,stE] at hv
  |row sz xs s' fz chg=>
   cases hD:toD hs x with
   |none=>simp[hr,hD,stE] at hv
   |some p=>
    obtain⟨dx,c1⟩:=p
    simp only[hr,hD,stE] at hv
    split at hv
    ·rename_i es
     subst es
     cases fz with
     |true=>simp at hv
     |false=>
      simp only[cond_false] at hv
      cases hcr:getM c1 r with
      |some _=>simp[hcr,stE1] at hv
      |none=>
      cases hxi:xs[i0]? with
      |none=>simp[hxi,stE2,stE1] at hv
      |some y=>
       cases hcx:cellsOkD T.size dx with
       |none=>simp[hxi,hcx,stE2,stE1] at hv
       |some cs=>
        cases hcy:cellsOkD sz y with
        |none=>simp[hxi,hcx,hcy,stE2,stE3,stE1] at hv
        |some old=>
         cases hp:putL old j0 cs with
         |none=>simp[hxi,hcx,hcy,hp,stE2,stE3,stE4,stE1] at hv
         |some new=>
          cases hrb:rebuild y new with
          |none=>simp[hxi,hcx,hcy,hp,hrb,stE2,stE3,stE4,stE1] at hv
          |some y'=>
           simp only[hcr,hxi,hcx,hcy,hp,hrb,stE2,stE3,stE4,stE1,Option.some.injEq,Prod.mk.injEq] at hv
           obtain⟨rfl,rfl,rfl⟩:=hv
           obtain⟨rfl,hl1⟩:=cellsOkD_some hcx
           obtain⟨rfl,hl2⟩:=cellsOkD_some hcy
           obtain⟨p1,p2,p3⟩:=putL_spec _ _ _ _ hp
           obtain⟨Im1,F,hdx⟩:=toD_spec x hM (fun k o hk=>⟨o,hsub k o hk, .inl rfl⟩) hx hD
           have hM1:=F.step.mem
           have hr1:getM (setAll h c1) r=some (.row sz xs s false chg):=by rw[getM_setAll c1 h r hcr];exact hsub _ _ hr
           obtain⟨w1,a,cap,own,w2,w3,w4,w5,w6,w7⟩:=hM1.obj r _ hr1
           have hown:own=true:=by
            cases own with
            |true=>rfl
            |false=>
             obtain⟨_,l2,_⟩:=w6 rfl
             rcases l2 with l2|l2
             ·cases l2
             ·subst l2;simp at hxi
           subst hown
           obtain⟨b,o,arr,ty,f,rfl,q2,q3,q4,q5,q6,q7⟩:=w7 rfl
           obtain⟨uf,huf⟩:=w5 b o rfl
           have hua:ua= .pointer (some ⟨b,o+i0*sz+j0,none⟩):=by
            cases ha with
            |eptr _ _ _ _ _ h0 hl hh=>
             obtain⟨cur,nn,z1,z2,z3⟩:=hh
             have hg:=hsub _ _ hr
             simp only[stm,hg,rowN,Option.some.injEq,Prod.mk.injEq] at z1
             obtain⟨b',o',cap',sz',own',y1,y2⟩:=z3 z1.1
             rw[w2] at y1
             obtain⟨y3,rfl,rfl,rfl⟩:=Loc.row.inj y1
             obtain⟨rfl,rfl⟩:=Prod.mk.inj (Option.some.inj y3)
             exact y2
           subst hua
           obtain⟨i,d,z,hi,hd,hz,e1,e2,e3,e4,e5,e6,e7⟩:=tiOf_some ht
           obtain⟨k1,k2⟩:=hdx.cells
           have hi0:=(List.getElem?_eq_some_iff.1 hxi).1
           have hlen:ux.cells.toList.length=(cellsD dx).length:=by simpa using k1
           have hfit:o+i0*sz+j0+ux.cells.toList.length≤arr.size:=by
            have h1:(i0+1)*sz≤cap*sz:=Nat.mul_le_mul_right _ (by omega)
            rw[Nat.add_mul] at h1
            rw[hlen]
            rw[hl2] at p2
            omega
           have hone: ∀v∈ux.cells.toList,one v:=fun v hv=>by
            obtain⟨j,hj,rfl⟩:=List.getElem_of_mem hv
            have hj':j<(cellsD dx).length:=by rw[←hlen];exact hj
            exact(k2 j (cellsD dx)[j] _ (by simp[hj']) (by simp at hj;simp[hj])).2.1
           have hrun:=run_storeVar (P:=P) (w:=w) (t:=t) (d:=d) hi q2 q3 (by rw[k1,hl1,e1]) (by rw[←e1,←hl1,←hlen];exact hfit) hone
           have hget:=putA_get arr (o+i0*sz+j0) ux.cells.toList hfit
           generalize hcs:putA arr (o+i0*sz+j0) ux.cells.toList=arr' at hrun hget
           have harr':arr'.size=arr.size:=by rw[←hcs];exact putA_size _ _ _
           have hheap:=setRow_heap w b arr arr' ty f q2
           have hcell: ∀k q,Im1 k q→(w.setRow b arr').cell? ⟨k,q,none⟩=w.cell? ⟨k,q,none⟩:=fun k q hi'=>by
            by_cases hk:k=b
            ·subst hk
             rw[cell_heap hheap,cell_heap q2,hget,if_neg]
             rcases q6 q hi' with h1|⟨h1,_⟩
             ·omega
             ·cases h1
            ·exact cell_same_block (setRow_other w b k _ hk)
           have hst:stm (setM (setAll h c1) r (.row sz (xs.set i0 y') s false chg))=stm (setAll h c1):=by
            funext k
            simp only[stm,getM_setM]
            split
            ·rename_i q;subst q;rw[hr1];simp[rowN]
            ·rfl
           have hnewlen:(cellsD y').length=sz:=by
            have hfl: ∀c∈new,flatD c:=fun c hc=>by
             obtain⟨q,hq,rfl⟩:=List.getElem_of_mem hc
             have:=p3 q
             rw[List.getElem?_eq_getElem hq] at this
             split at this
             ·rename_i hqq
              have hu:q-j0<ux.cells.size:=by simp at hlen;omega
              exact(k2 (q-j0) _ ux.cells[q-j0] this.symm (by simp[hu])).1
             ·exact(huf i0 y q _ hxi this.symm).1
            rw[rebuild_cells hrb hfl,p1,hl2]
           have hyc: ∀c∈new,flatD c:=fun c hc=>by
            obtain⟨q,hq,rfl⟩:=List.getElem_of_mem hc
            have:=p3 q
            rw[List.getElem?_eq_getElem hq] at this
            split at this
            ·rename_i hqq
             have hu:q-j0<ux.cells.size:=by simp at hlen;omega
             exact(k2 (q-j0) _ ux.cells[q-j0] this.symm (by simp[hu])).1
            ·exact(huf i0 y q _ hxi this.symm).1
           have hy':=rebuild_cells hrb hyc
           refine⟨_,Im1,rfl,rfl,hrun, ?_⟩
           rw[setAll_append]
           refine F.step.trans (Step.gen hM1 rfl rfl rfl (by simp) (fun _ _=>rfl) (fun k hk hn=>setRow_other w b k _ (fun e=>hn (by rw[w2,e];rfl))) (fun _ _ i=>i) hcell (fun _ _ i=> .inl i) (fun k q hi'=>by simpa using hM1.im k q hi')
            (fun k hk=> .inl hk) (fun _ e=>e) (fun cur n hl e=>⟨hl,cur,n,by simp only[stm,hr1,rowN] at e;simp only[rowN,List.length_set];exact e,Nat.le_refl _,fun _=>⟨rfl,Nat.le_refl _⟩⟩)
            (fun _=>⟨_,hr1, .inr ⟨rfl,rfl,rfl,by simp⟩⟩) ?_)
           refine⟨fun i' x' hx'=> ?_,some (b,o),cap,true,w2,by simpa using w3,(fun e=>by cases e),fun b' o' e=> ?_,(fun e=>by cases e),fun _=>⟨b,o,arr',ty,f,rfl,hheap,by rw[harr'];exact q3,fun j u hu=> ?_,by rw[harr'];exact q5,fun q hq=> ?_,q7⟩⟩
           ·rw[List.getElem?_set] at hx'
            split at hx'
            ·obtain rfl:=Option.some.inj hx'
             exact hnewlen
            ·exact w1 i' x' hx'
           ·obtain⟨rfl,rfl⟩:=Prod.mk.inj (Option.some.inj e)
            refine⟨fun i' j'=>arr'.getD (o+i'*sz+j') Go.undef,fun i' x' j' c hx' hc=> ?_⟩
            have main: ∃v,arr'[o+i'*sz+j']? =some v∧flatD c∧DR w Im1 c v:=by
             have hj':j'<sz:=by
              have:=(List.getElem?_eq_some_iff.1 hc).1
              rw[List.getElem?_set] at hx'
              split at hx'
              ·obtain rfl:=Option.some.inj hx'
               rw[hnewlen] at this;exact this
              ·rw[w1 i' x' hx'] at this;exact this
             rw[hl2] at p2
             rw[hget]
             by_cases hii:i0=i'
             ·subst hii
              rw[List.getElem?_set_self hi0] at hx'
              obtain rfl:=Option.some.inj hx'
              rw[hy',p3] at hc
              by_cases hq:j0≤j'∧j'<j0+(cellsD dx).length
              ·rw[if_pos hq] at hc
               rw[if_pos (by omega),show o+i0*sz+j'-(o+i0*sz+j0)=j'-j0 by omega]
               have hu:j'-j0<ux.cells.size:=by simp at hlen;omega
               exact⟨ux.cells[j'-j0],by rw[Array.getElem?_toList,Array.getElem?_eq_getElem hu],(k2 (j'-j0) c ux.cells[j'-j0] hc (Array.getElem?_eq_getElem hu)).1,(k2 (j'-j0) c ux.cells[j'-j0] hc (Array.getElem?_eq_getElem hu)).2.2⟩
              ·rw[if_neg hq] at hc
               rw[if_neg (by omega)]
               obtain⟨g1,g2,g3⟩:=huf i0 y j' c hxi hc
               rw[cell_heap q2] at g2
               exact⟨_,g2,g1,g3⟩
             ·rw[List.getElem?_set_ne hii] at hx'
              have hsep: ¬(o+i0*sz+j0≤o+i'*sz+j'∧o+i'*sz+j'<o+i0*sz+j0+ux.cells.toList.length):=by
               rw[hlen]
               intro hq
               rcases Nat.lt_or_gt_of_ne hii with h1|h1
               ·have h2:(i0+1)*sz≤i'*sz:=Nat.mul_le_mul_right _ h1
                rw[Nat.add_mul] at h2
                omega
               ·have h2:(i'+1)*sz≤i0*sz:=Nat.mul_le_mul_right _ h1
                rw[Nat.add_mul] at h2
                omega
              rw[if_neg hsep]
              obtain⟨g1,g2,g3⟩:=huf i' x' j' c hx' hc
              rw[cell_heap q2] at g2
              exact⟨_,g2,g1,g3⟩
            obtain⟨v,v1,v2,v3⟩:=main
            simp only[Array.getD_eq_getD_getElem?,v1,Option.getD_some]
            exact⟨v2,by rw[cell_heap hheap];exact v1,v3.grow (fun _ _ i=>i) hcell⟩
           ·rw[hget] at hu
            split at hu
            ·exact hone u (List.mem_of_getElem? hu)
            ·exact q4 j u hu
           ·rcases q6 q hq with h1|⟨h1,_⟩
            ·exact .inl h1
            ·cases h1
    ·cases hv
end
end Go.Ev
set_option autoImplicit false
namespace Go.Ev
section
variable {P:Program} {w:World} {Im:Nat→Nat→Prop} {loc:Nat→Loc} {h:Map Obj} {st:Nat→Option (Nat×Nat)}
def optV (v:Option Value) (l d:Int):Prop:=(v=none∧l=d)∨∃k,v=some (.int k l)
theorem run_bound {k:IntKind} {l:Int} {y:Nat} {c:BoundsCode} (h0:0≤l) (h1:l≤y):(Instr.sliceBound (.int k l) y c).run P w= .ok l.toNat w:=by
 simp[Instr.sliceBound,asIntOf,h0,h1]
theorem run_bounds {isS:Bool} {len cap:Nat} {lo hi:Option Value} {l r:Int} (hl:optV lo l 0) (hr:optV hi r len) (h0:0≤l) (h1:l≤r) (h2:r≤len) (h3:len≤cap):
 (Instr.sliceBounds isS len cap lo hi none).run P w= .ok (l.toNat,r.toNat,cap) w:=by
 have hc:r≤cap:=by omega
 have hr0:0≤r:=by omega
 have hlr:l≤(r.toNat:Int):=by omega
 rcases hl with⟨rfl,rfl⟩|⟨k,rfl⟩<;>rcases hr with⟨rfl,rfl⟩|⟨k',rfl⟩
 ·simp[Instr.sliceBounds]
 ·simp[Instr.sliceBounds,run_bound hr0 hc]
 ·simp[Instr.sliceBounds,run_bound h0 h1]
 ·simp[Instr.sliceBounds,run_bound hr0 hc,run_bound h0 hlr]
theorem run_bounds3 {len cap:Nat} {lo:Option Value} {k k':IntKind} {l r:Int} (hl:optV lo l 0) (h0:0≤l) (h1:l≤r) (h2:r≤len) (h3:len≤cap):
 (Instr.sliceBounds true len cap lo (some (.int k r)) (some (.int k' r))).run P w= .ok (l.toNat,r.toNat,r.toNat) w:=by
 have hc:r≤cap:=by omega
 have hr0:0≤r:=by omega
 have hlr:l≤(r.toNat:Int):=by omega
 have hrr:r≤(r.toNat:Int):=by omega
 rcases hl with⟨rfl,rfl⟩|⟨k,rfl⟩
 ·simp[Instr.sliceBounds,run_bound hr0 hc,run_bound hr0 hrr]
 ·simp[Instr.sliceBounds,run_bound hr0 hc,run_bound hr0 hrr,run_bound h0 hlr]
theorem DR.cut {xs:List D} {a:Option Addr} {n c:Nat} (hd:DR w Im (.list xs) (.slice a n c)) {sz:Nat} (hz:Sized sz xs) {l r m:Nat} (h1:l≤r) (h2:r≤xs.length) (h3:r≤m):
 DR w Im (.list (subL xs l (r-l))) (.slice (if m=l then a else a.map (·.add (l*sz))) (r-l) (m-l)):=by
 have hlen:(subL xs l (r-l)).length=r-l:=subL_length (by omega)
 by_cases h0:r-l=0
 ·have e:subL xs l (r-l)=[]:=List.eq_nil_of_length_eq_zero (by omega)
  rw[e,h0]
  exact .empty _ _
 ·cases hd with
  |empty=>simp at h2;omega
  |list _ b o sz' _ u hl g1 g2 g3=>
   have hsz:sz'=sz:=by
    cases xs with
    |nil=>simp at h2;omega
    |cons x xs=>exact(g1 0 x rfl).symm.trans (hz 0 x rfl)
   subst hsz
   rw[if_neg (by omega)]
   simp only[Option.map_some,add_at]
   have key:DR w Im (.list (subL xs l (r-l))) (.slice (some ⟨b,o+l*sz',none⟩) (subL xs l (r-l)).length (m-l)):=by
    refine .list _ b (o+l*sz') sz' (m-l) (fun i j=>u (l+i) j) (by omega) (fun i x hx=>g1 _ x (subL_get hx).2) (fun i x j y hx hy=> ?_) (fun i x j y hx hy=>g3 _ x j y (subL_get hx).2 hy)
    have e:o+l*sz'+i*sz'+j=o+(l+i)*sz'+j:=by rw[Nat.add_mul];omega
    rw[e]
    exact g2 _ x j y (subL_get hx).2 hy
   rw[hlen] at key
   exact key
theorem run_slice {t e:TypeId} {i:TypeInfo} (ht:P.underlying t=some (.slice e)) (hi:P.info? e=some i) {a:Option Addr} {len cap l r m:Nat} {lo hi' mx:Option Value}
 (hb:(Instr.sliceBounds true len cap lo hi' mx).run P w= .ok (l,r,m) w):
 (Instr.sliceAt t (.slice a len cap) lo hi' mx).run P w= .ok (.slice (if m=l then a else a.map (·.add (l*i.size))) (r-l) (m-l)) w:=by
 simp[Instr.sliceAt,Instr.slice,run_underlying ht,hb,run_sizeOf' hi]
theorem run_slice_str {t:TypeId} (ht:P.underlying t=some .string) {s:ByteArray} {l r m:Nat} {lo hi':Option Value}
 (hb:(Instr.sliceBounds false s.size s.size lo hi' none).run P w= .ok (l,r,m) w):
 (Instr.sliceAt t (.string s) lo hi' none).run P w= .ok (.string (s.extract l r)) w:=by
 simp[Instr.sliceAt,Instr.slice,run_underlying ht,hb]
theorem isCut_spec {t:TypeId} {sz:Option Nat} (hc:isCut (kindOf (tiOf P t)) sz=true):(∃e n,kindOf (tiOf P t)= .slice e∧sz=some n)∨(kindOf (tiOf P t)= .str∧sz=none):=by
 generalize kindOf (tiOf P t)=k at hc
 cases k<;>cases sz<;>simp_all [isCut]
set_option maxHeartbeats 1000000 in
theorem cut_ran (hM:Mem w Im loc h) {hs:Map Obj} (hsub: ∀r o,getM hs r=some o→getM h r=some o) {d:Nat} {t:TypeId} {x v:V} {ux:Value} {full:Bool} {l r:Int} {lo hi' mx:Option Value} {ch:Map Obj} {news:List Obj} {h2:Map Obj}
 (hc:isCut (kindOf (tiOf P t)) (esize P (elemT (kindOf (tiOf P t))))=true) (hx:VR w Im loc (stm h) x ux) (hv:cut1 d hs x full (esize P (elemT (kindOf (tiOf P t)))) (some l) (some r) (lenV x)=some (v,ch,news))
 (hl:optV lo l 0) (hr:optV hi' r ((lenV x).getD 0:Nat)) (hmx:(full=false∧mx=none)∨(full=true∧∃k k',hi'=some (.int k r)∧mx=some (.int k' r)))
 (hm:made d 0 (some (setAll h ch)) news=some h2):Ran P w Im loc h ((Instr.sliceAt t ux lo hi' mx).run P w) v h2:=by
 cases hn:lenV x with
 |none=>simp[hn,cut1] at hv
 |some n=>
  simp only[hn,cut1] at hv
  simp only[hn,Option.getD_some] at hr
  rcases isCut_spec hc with⟨e,sz,hk,hsz⟩|⟨hk,hsz⟩
  ·rw[hsz] at hv
   obtain⟨e',i,z,g1,hi,hz,e1,e2,e3,e4,e5b⟩:=esize_some hsz
   have ht:=elemT_some g1
   have bnd: ∀{a:Option Addr} {c:Nat},n≤c→0≤l∧l≤r∧r≤(n:Int)→(Instr.sliceBounds true n c lo hi' mx).run P w= .ok (l.toNat,r.toNat,(if full then r.toNat else c)) w:=by
    intro a c hc' ⟨b1,b2,b3⟩
    rcases hmx with⟨rfl,rfl⟩|⟨rfl,k,k',rfl,rfl⟩
    ·exact run_bounds hl hr b1 b2 b3 hc'
    ·exact run_bounds3 hl b1 b2 b3 hc'
   cases x with
   |d y=>
    cases y with
    |list xs=>
     simp only[lenV,Option.some.injEq] at hn
     subst hn
     simp only[cutV] at hv
     split at hv
     ·rename_i hb
      cases hsa:sizedAll sz xs with
      |false=>simp[hsa] at hv
      |true=>
       simp only[hsa,cond_true] at hv
       have hS:=sizedAll_spec hsa
       obtain⟨a,c,rfl,hlc⟩:=hx.list_inv
       have hd:=hx.d_inv
       have hrun:=run_slice (P:=P) (w:=w) (a:=a) ht hi (bnd (a:=a) hlc hb)
       have hlen:(subL xs l.toNat (r-l).toNat).length=(r-l).toNat:=subL_length (by omega)
       have e5:(r-l).toNat=r.toNat-l.toNat:=by omega
       cases full with
       |false=>
        simp only[cond_false,Option.some.injEq,Prod.mk.injEq] at hv
        obtain⟨rfl,rfl,rfl⟩:=hv
        obtain rfl:h=h2:=by simpa[made,setAll] using hm
        refine Ran.still hM ⟨_,hrun, .d _ _ ?_⟩
        rw[e5,e1]
        exact hd.cut hS (by omega) (by omega) (by simp;omega)
       |true=>
        simp only[cond_true,Option.some.injEq,Prod.mk.injEq] at hv
        obtain⟨rfl,rfl,rfl⟩:=hv
        obtain⟨m1,rfl,m3⟩:=made_one hm
        have hdc:=hd.cut hS (l:=l.toNat) (r:=r.toNat) (m:=r.toNat) (by omega) (by omega) (Nat.le_refl _)
        rw[←e5] at hdc
        rw[←hlen] at hdc
        have e6:(subL xs l.toNat (subL xs l.toNat (r-l).toNat).length)=subL xs l.toNat (r-l).toNat:=by rw[hlen]
        rw[e6] at hdc
        obtain⟨a',s1,s2⟩:=new_lent (k:=key d 0) (chg:=false) (fz:=true) hM m1 m3 hdc (Sized.sub hS _ _) (.inl rfl)
        refine⟨_,w,Im,_,hrun,s1, .row _ _ _ _ _ trivial (by simp[locWith,isRowL]) ⟨0,_,by simp[stm,setAll,getM_set,rowN];rfl,Nat.le_refl _,fun _=> ?_⟩⟩
        simp only[locWith,if_true,hlen] at s2 ⊢
        rw[e1,←e5]
        simpa using s2
     ·cases hv
    |_=>simp[cutV] at hv
   |row q s off len=>
    simp only[lenV,Option.some.injEq] at hn
    subst hn
    simp only[cutV] at hv
    split at hv
    ·rename_i hb
     cases full with
     |true=>simp at hv
     |false=>
      simp only[cond_false] at hv
      cases hq:getM hs q with
      |none=>simp[hq,cutRow] at hv
      |some ob=>
       cases ob with
       |cells=>simp[hq,cutRow] at hv
       |row sz' xs s' fz chg=>
        simp only[hq,cutRow] at hv
        split at hv
        ·rename_i es
         subst es
         cases hcz:(sz'==sz||sz'==0&&lenIs xs 0) with
         |false=>simp[hcz] at hv
         |true=>
          simp only[hcz,cond_true,Option.some.injEq,Prod.mk.injEq] at hv
          obtain⟨rfl,rfl,rfl⟩:=hv
          obtain rfl:h=h2:=by simpa[made,setAll] using hm
          have hg:=hsub _ _ hq
          cases hx with
          |row _ _ _ _ _ k0 kl kh=>
           obtain⟨cur,nn,q1,q2,q3⟩:=kh
           have hcur:stm h q=some (s,xs.length):=by simp[stm,hg,rowN]
           rw[hcur] at q1
           obtain⟨rfl,rfl⟩:=Prod.mk.inj (Option.some.inj q1)
           obtain⟨a,cap,szl,own,ad,r1,rfl,r3,r3',r4⟩:=q3 rfl
           obtain⟨w1,a2,cap',own',w2,w3,w4,w5,w6,w7⟩:=hM.obj q _ hg
           rw[r1] at w2
           obtain⟨rfl,rfl,rfl,rfl⟩:=Loc.row.inj w2
           have hrun:=run_slice (P:=P) (w:=w) (a:=ad) ht hi (bnd (a:=ad) (c:=cap-off) (by omega) hb)
           simp only[Bool.false_eq_true,if_false] at hrun
           refine Ran.still hM ⟨_,hrun, .row _ _ _ _ _ trivial kl ⟨s,xs.length,hcur,Nat.le_refl _,fun _=> ?_⟩⟩
           have e5:(r-l).toNat=r.toNat-l.toNat:=by omega
           refine⟨a,cap,szl,own,_,r1,by rw[e5,Nat.sub_sub],by omega,by omega, ?_⟩
           by_cases hcl:cap-off=l.toNat
           ·exact .inl (by omega)
           ·right
            rw[if_neg hcl]
            rcases r4 with r4|⟨b,o,rfl,rfl⟩
            ·exfalso;omega
            ·have hszl:szl=i.size:=by
              rw[e1]
              simp only[Bool.or_eq_true,Bool.and_eq_true,beq_iff_eq] at hcz
              rcases hcz with hcz|⟨hcz,hcx⟩
              ·exact hcz
              ·exfalso
               have hx0:xs.length=0:=(lenIs_iff _ _).1 hcx
               cases own with
               |true=>exact(w7 rfl).elim (fun b' hh=>by obtain⟨_,_,_,_,_,_,_,_,_,_,hne⟩:=hh;exact hne hcz)
               |false=>
                obtain⟨l1,_,_⟩:=w6 rfl
                omega
             refine⟨b,o,rfl, ?_⟩
             simp only[Option.map_some,add_at,hszl,Nat.add_mul,Nat.add_assoc]
        ·cases hv
    ·cases hv
   |nilsl=>
    simp only[lenV,Option.some.injEq] at hn
    subst hn
    simp only[cutV] at hv
    split at hv
    ·rename_i hb
     obtain⟨rfl,rfl⟩:=hb
     simp only[Option.some.injEq,Prod.mk.injEq] at hv
     obtain⟨rfl,rfl,rfl⟩:=hv
     obtain rfl:h=h2:=by simpa[made,setAll] using hm
     cases hx
     have hrun:=run_slice (P:=P) (w:=w) (a:=none) ht hi (bnd (a:=none) (c:=0) (Nat.le_refl _) ⟨by omega,by omega,by omega⟩)
     refine Ran.still hM ⟨.slice none 0 0, ?_, .nilsl⟩
     rw[hrun]
     cases full<;>simp
    ·cases hv
   |_=>simp[cutV] at hv
  ·rw[hsz] at hv
   obtain⟨dd,hd,hd'⟩:=kind_und hk (by simp)
   obtain rfl:=kindD_str hd'
   cases x with
   |d y=>
    cases y with
    |str s=>
     simp only[lenV,Option.some.injEq] at hn
     subst hn
     simp only[cutV] at hv
     split at hv
     ·rename_i hb
      cases full with
      |true=>simp at hv
      |false=>
       simp only[cond_false,Option.some.injEq,Prod.mk.injEq] at hv
       obtain⟨rfl,rfl,rfl⟩:=hv
       obtain rfl:h=h2:=by simpa[made,setAll] using hm
       obtain⟨b,rfl,rfl⟩:=hx.str_inv
       obtain rfl:mx=none:=by
        rcases hmx with⟨_,e⟩|⟨e,_⟩
        ·exact e
        ·cases e
       have hsz:b.data.toList.length=b.size:=rfl
       rw[hsz] at hb hr
       have hrun:=run_slice_str (P:=P) (w:=w) (t:=t) hd (run_bounds (P:=P) (w:=w) (isS:=false) hl hr hb.1 hb.2.1 hb.2.2 (Nat.le_refl _))
       refine Ran.still hM ⟨_,hrun, ?_⟩
       have e:(b.data.toList.drop l.toNat).take (r-l).toNat=(b.extract l.toNat r.toNat).data.toList:=by
        have e5:(r-l).toNat=r.toNat-l.toNat:=by omega
        rw[e5]
        simp[ByteArray.data_extract,List.drop_take]
       rw[e]
       exact .d _ _ (.str _)
     ·cases hv
    |_=>simp[cutV] at hv
   |_=>simp[cutV] at hv
end
end Go.Ev
set_option autoImplicit false
namespace Go.Ev
theorem foldl_put (off:Nat): ∀(vs:List Value) (k:Nat) (cells:Array Value),(vs.zipIdx k).foldl (fun cs (p:Value×Nat)=>cs.setIfInBounds (off+p.2) p.1) cells=putA cells (off+k) vs
 |[],k,cells=>rfl
 |v::vs,k,cells=>by
  simp only[List.zipIdx_cons,List.foldl_cons,putA]
  exact foldl_put off vs (k+1) _
theorem fill_cons {place:Nat→Option (Nat×Nat)} {cells:Array Value} {i off size:Nat} {v:Value} {rest:List (Nat×Value)} (hp:place i=some (off,size)) (h1:v.cells.size=size) (h2:off+v.cells.size≤cells.size):
 Instr.fill place cells ((i,v)::rest)=Instr.fill place (putA cells off v.cells.toList) rest:=by
 have e:v.cells.zipIdx.foldl (fun cs (c,j)=>cs.setIfInBounds (off+j) c) cells=putA cells off v.cells.toList:=by
  rw[←Array.foldl_toList,Array.toList_zipIdx]
  exact foldl_put off v.cells.toList 0 cells
 simp only[Instr.fill,hp]
 rw[if_neg (by rw[h1];rw[h1] at h2;simp;omega),e]
section
variable {P:Program} {w:World} {Im:Nat→Nat→Prop} {loc:Nat→Loc} {h:Map Obj} {st:Nat→Option (Nat×Nat)}
structure CV (w:World) (Im:Nat→Nat→Prop) (loc:Nat→Loc) (st:Nat→Option (Nat×Nat)) (cs:List V) (arr:Array Value):Prop where
 size:arr.size=cs.length
 one: ∀(j:Nat) u,arr[j]? =some u→one u
 vr: ∀(j:Nat) v u,cs[j]? =some v→arr[j]? =some u→VR w Im loc st v u
theorem CV.put {cs cs':List V} {arr:Array Value} (hc:CV w Im loc st cs arr) {o n:Nat} {v:V} {u:Value} {us:List V} (hv:VR w Im loc st v u) (ho:cellsOk n v=some us) (hp:putL cs o us=some cs'):
 u.cells.size=n∧o+u.cells.size≤arr.size∧CV w Im loc st cs' (putA arr o u.cells.toList):=by
 obtain⟨c1,c2,c3⟩:=hv.cells ho
 obtain⟨p1,p2,p3⟩:=putL_spec _ _ _ _ hp
 have hlen:u.cells.toList.length=us.length:=by simp[c1,c2]
 have hfit:o+u.cells.toList.length≤arr.size:=by rw[hlen,hc.size];exact p2
 have hget:=putA_get arr o u.cells.toList hfit
 refine⟨c1,by simpa using hfit,⟨by rw[putA_size,hc.size,p1],fun j x hx=> ?_,fun j x y hx hy=> ?_⟩⟩
 ·rw[hget] at hx
  split at hx
  ·rename_i hq
   have hj:j-o<us.length:=by omega
   exact(c3 (j-o) us[j-o] x (by simp[hj]) (by simpa using hx)).1
  ·exact hc.one j x hx
 ·rw[hget] at hy
  rw[p3] at hx
  rw[hlen] at hy
  split at hy
  ·rename_i hq
   rw[if_pos hq] at hx
   exact(c3 _ x y hx (by simpa using hy)).2
  ·rename_i hq
   rw[if_neg hq] at hx
   exact hc.vr j x y hx hy
theorem fill_spec {place:Nat→Option (Nat×Nat)}: ∀(is:List Nat) (vs:List V) (us:List Value) (cs:List V) (arr:Array Value) (out:List V),CV w Im loc st cs arr→VRs w Im loc st vs us→
 fillV (is.map place) vs cs=some out→∃arr',Instr.fill place arr (is.zip us)=some arr'∧CV w Im loc st out arr'
 |[],[],us,cs,arr,out,hc,hv,hf=>by
  obtain rfl:cs=out:=Option.some.inj hf
  exact⟨arr,by simp[Instr.fill],hc⟩
 |[],v::vs,us,cs,arr,out,hc,hv,hf=>by simp[fillV] at hf
 |i::is,[],us,cs,arr,out,hc,hv,hf=>by
  simp only[List.map_cons] at hf
  cases hp:place i with
  |none=>simp[hp,fillV] at hf
  |some p=>obtain⟨o,n⟩:=p;simp[hp,fillV] at hf
 |i::is,v::vs,us,cs,arr,out,hc,hv,hf=>by
  simp only[List.map_cons] at hf
  cases hp:place i with
  |none=>simp[hp,fillV] at hf
  |some p=>
   obtain⟨o,n⟩:=p
   simp only[hp,fillV] at hf
   obtain⟨hl,hvv⟩:=hv
   cases us with
   |nil=>simp at hl
   |cons u us=>
    cases ho:cellsOk n v with
    |none=>simp[ho,fillO,fillB] at hf
    |some xs=>
     cases hpl:putL cs o xs with
     |none=>simp[ho,hpl,fillO,fillB] at hf
     |some cs1=>
      simp only[ho,hpl,fillO,fillB] at hf
      obtain⟨q1,q2,q3⟩:=hc.put (hvv 0 v u rfl rfl) ho hpl
      obtain⟨arr',r1,r2⟩:=fill_spec is vs us cs1 _ out q3 ⟨by simpa using hl,fun j v' u' a b=>hvv (j+1) v' u' a b⟩ hf
      exact⟨arr',by rw[List.zip_cons_cons,fill_cons hp q1 q2];exact r1,r2⟩
theorem places_struct (n:Option Nat) (fs:List (Nat×Nat)) (is:List Nat):places n (.struct fs) is=is.map (fun i=>fs[i]?):=by
 induction is with
 |nil=>rfl
 |cons i is ih=>simp[places,ih]
theorem places_arr (n:Option Nat) (l e:Nat) (is:List Nat):places n (.arr l e) is=is.map (fun i=>arrAt i n):=by
 induction is with
 |nil=>rfl
 |cons i is ih=>simp[places,ih]
theorem mapM_places {fs:List Field} (hf: ∀f∈fs,(P.info? f.type).isSome=true):
 fs.mapM (fun f=>(P.info? f.type).map fun i=>(f.offset,i.size))=some (fs.map (fun f=>(f.offset,sizeAt P f.type))):=by
 induction fs with
 |nil=>rfl
 |cons f fs ih=>
  obtain⟨i,hi⟩:=Option.isSome_iff_exists.1 (hf f (by simp))
  rw[List.mapM_cons,ih (fun g hg=>hf g (by simp[hg]))]
  simp[hi,sizeAt]
theorem zero_CV {z:Value} {zs:List V} (h1:zs=z.cells.toList.map ofValue) (h2:z.cells.toList.all isOne=true):CV w Im loc st zs z.cells:=
 ⟨by simp[h1],fun j u hu=>one_of_isOne (List.all_eq_true.1 h2 u (List.mem_of_getElem? (by simpa using hu))),fun j v u hv hu=>by
   rw[h1,List.getElem?_map,Array.getElem?_toList,hu] at hv
   obtain rfl:=Option.some.inj hv
   exact ofValue_VR u⟩
theorem build_run {t:TypeId} {is:List Nat} {vs:List V} {us:List Value} {v:V} (hv:VRs w Im loc st vs us) (hb:buildV (tiOf P t) (sizeO (tiOf P (elemK (kindOf (tiOf P t))))) is vs=some v)
 {ps:Array (Nat×Value)} (hps:ps.toList=is.zip us): ∃u,(Instr.build t ps).run P w= .ok u w∧VR w Im loc st v u:=by
 cases hT:tiOf P t with
 |none=>simp[hT,buildV] at hb
 |some T=>
  obtain⟨i,d,z,hi,hd,hz,e1,e2,e3,e4,e5,e6,e7⟩:=tiOf_some hT
  simp only[hT,buildV,kindOf] at hb
  cases hag:isAggK T.kind (sizeO (tiOf P (elemK T.kind))) with
  |false=>simp[hag] at hb
  |true=>
   simp only[hag,cond_true] at hb
   cases hf:fillV (places (sizeO (tiOf P (elemK T.kind))) T.kind is) vs T.zero with
   |none=>simp[hf,aggV] at hb
   |some out=>
    simp only[hf,aggV,Option.some.injEq] at hb
    subst hb
    have hz0:=zero_CV (w:=w) (Im:=Im) (loc:=loc) (st:=st) e4 e6
    rw[e5] at hf hag
    have main: ∃arr',P.built t ps.toList=some arr'∧CV w Im loc st out arr':=by
     generalize hk:kindD P d=k at hf hag
     cases k with
     |struct fs=>
      obtain⟨gs,rfl,rfl,hall⟩:=kindD_struct hk
      rw[places_struct] at hf
      obtain⟨arr',r1,r2⟩:=fill_spec (place:=fun(i:Nat)=>(gs.toList.map (fun f=>(f.offset,sizeAt P f.type)))[i]?) is vs us _ _ out hz0 hv hf
      refine⟨arr', ?_,r2⟩
      have hpl:(fun(i:Nat)=>(gs.toList.map (fun f=>(f.offset,sizeAt P f.type))).toArray[i]?)=fun(i:Nat)=>(gs.toList.map (fun f=>(f.offset,sizeAt P f.type)))[i]? :=by funext i;simp
      simp only[Program.built,hi,hd,hz,mapM_places hall,hpl,hps]
      exact r1
     |arr l e=>
      obtain rfl:=kindD_arr hk
      rw[places_arr] at hf
      simp only[elemK] at hf
      obtain⟨arr',r1,r2⟩:=fill_spec (place:=fun i=>arrAt i (sizeO (tiOf P e))) is vs us _ _ out hz0 hv hf
      simp only[elemK] at hag
      cases hTe:tiOf P e with
      |none=>rw[hTe] at hag;cases hag
      |some Te=>
       obtain⟨ie,_,_,hie,_,_,f1,_⟩:=tiOf_some hTe
       rw[hTe] at r1
       refine⟨arr', ?_,r2⟩
       simp only[Program.built,hi,hd,hz,hie,hps]
       simp only[sizeO,arrAt,f1] at r1
       exact r1
     |_=>cases hag
    obtain⟨arr',m1,m2⟩:=main
    exact⟨.agg arr',run_build w t ps arr' m1,VR.mkAgg m2.size m2.one m2.vr⟩
end
end Go.Ev
set_option autoImplicit false
namespace Go.Ev
section
variable {P:Program} {w:World} {Im:Nat→Nat→Prop} {loc:Nat→Loc} {h:Map Obj} {st:Nat→Option (Nat×Nat)}
theorem fill_rows {sz:Nat}: ∀(us:List Value) (k:Nat) (is:List Nat) (arr:Array Value),inOrder k is=true→is.length=us.length→(∀u∈us,u.cells.size=sz)→(k+us.length)*sz≤arr.size→
 ∃out,Instr.fill (fun i=>some (i*sz,sz)) arr (is.zip us)=some out∧out.size=arr.size∧(∀q,q<k*sz→out[q]? =arr[q]?)∧
  ∀(i:Nat) u (j:Nat),us[i]? =some u→j<sz→out[(k+i)*sz+j]? =u.cells[j]?
 |[],k,[],arr,_,_,_,_=>⟨arr,by simp[Instr.fill],rfl,fun _ _=>rfl,fun i u j h=>by simp at h⟩
 |[],k,_::_,arr,_,hl,_,_=>by simp at hl
 |_::_,k,[],arr,_,hl,_,_=>by simp at hl
 |u::us,k,i::is,arr,ho,hl,hs,hfit=>by
  simp only[inOrder,Bool.and_eq_true,beq_iff_eq] at ho
  obtain⟨rfl,ho⟩:=ho
  have hu:=hs u (by simp)
  have h1:(i+1+us.length)*sz≤arr.size:=by
   rw[show i+1+us.length=i+(u::us).length by simp;omega]
   exact hfit
  have h2:i*sz+u.cells.size≤arr.size:=by
   rw[hu]
   have:(i+1)*sz≤(i+1+us.length)*sz:=Nat.mul_le_mul_right _ (by omega)
   rw[Nat.add_mul] at this
   omega
  have hget:=putA_get arr (i*sz) u.cells.toList (by simpa using h2)
  obtain⟨out,r1,r2,r3,r4⟩:=fill_rows us (i+1) is (putA arr (i*sz) u.cells.toList) ho (by simpa using hl) (fun v hv=>hs v (by simp[hv])) (by rw[putA_size];exact h1)
  refine⟨out,by rw[List.zip_cons_cons,fill_cons rfl hu h2];exact r1,r2.trans (putA_size _ _ _),fun q hq=> ?_,fun i' u' j hu' hj=> ?_⟩
  ·rw[r3 q (by rw[Nat.add_mul];omega),hget,if_neg (by omega)]
  ·cases i' with
   |zero=>
    simp only[List.getElem?_cons_zero,Option.some.injEq] at hu'
    subst hu'
    rw[Nat.add_zero,r3 _ (by rw[Nat.add_mul];omega),hget,if_pos (by simp[hu];omega),Nat.add_sub_cancel_left]
    simp
   |succ i'=>
    have:=r4 i' u' j (by simpa using hu') hj
    rw[←this,show i+(i'+1)=i+1+i' by omega]
theorem toDs_sized {sz:Nat} {xs:List D} {us:List Value} (hl:xs.length=us.length) (hd: ∀(j:Nat) x u,xs[j]? =some x→us[j]? =some u→DR w Im x u) (hs:Sized sz xs): ∀u∈us,u.cells.size=sz:=by
 intro u hu
 obtain⟨j,hj,rfl⟩:=List.getElem_of_mem hu
 have hj':j<xs.length:=by rw[hl];exact hj
 have:=(hd j xs[j] us[j] (by simp[hj']) (by simp[hj])).cells.1
 rw[this]
 exact hs j xs[j] (by simp[hj'])
theorem buildRow_ran (hM:Mem w Im loc h) {hs:Map Obj} (hsub: ∀r o,getM hs r=some o→getM h r=some o) {d n:Nat} {t:TypeId} {is:List Nat} {vs:List V} {us:List Value} {v:V} {ch:Map Obj} {news:List Obj} {h2:Map Obj}
 (hv:VRs w Im loc (stm h) vs us) (hb:buildRow d n hs is vs (esize P (elemT (kindOf (tiOf P t))))=some (v,ch,news)) {ps:Array (Nat×Value)} (hps:ps.toList=is.zip us) (hil:is.length=us.length)
 (hm:made d 0 (some (setAll h ch)) news=some h2):Ran P w Im loc h ((Instr.buildSlice t n ps).run P w) v h2:=by
 cases hsz:esize P (elemT (kindOf (tiOf P t))) with
 |none=>simp[hsz,buildRow] at hb
 |some sz=>
  obtain⟨e,i,z,g1,hi,hz,e1,e2,e3,e4,e5b⟩:=esize_some hsz
  have ht:=elemT_some g1
  simp only[hsz,buildRow] at hb
  cases hio:(inOrder 0 is&&lenIs is n) with
  |false=>simp[hio] at hb
  |true=>
   simp only[hio,cond_true] at hb
   simp only[Bool.and_eq_true] at hio
   obtain⟨ho,hn⟩:=hio
   have hn':=(lenIs_iff _ _).1 hn
   cases hD:toDs hs vs with
   |none=>simp[hD,rowOf] at hb
   |some p=>
    obtain⟨xs,c1⟩:=p
    simp only[hD,rowOf] at hb
    cases hsa:sizedAll sz xs with
    |false=>simp[hsa] at hb
    |true=>
     simp only[hsa,cond_true] at hb
     split at hb
     ·rename_i hroom
      simp only[Option.some.injEq,Prod.mk.injEq] at hb
      obtain⟨rfl,rfl,rfl⟩:=hb
      have hS:=sizedAll_spec hsa
      obtain⟨Im1,F,L1,D1⟩:=toDs_spec vs hM (fun k o hk=>⟨o,hsub k o hk, .inl rfl⟩) hv hD
      have hlen:xs.length=us.length:=L1.trans hv.1.symm
      have hus:=toDs_sized hlen D1 hS
      obtain⟨m1,rfl,m3⟩:=made_one hm
      have hnl:n=us.length:=by omega
      have hroom':n*i.size≤2^24:=by rw[e1,hnl,←hlen];exact hroom
      have hrun: ∃arr,(Instr.buildSlice t n ps).run P w= .ok (.slice (some ⟨w.heap.size,0,none⟩) n n) (w.alloc (.cells arr e))∧arr.size=n*sz∧∀(i:Nat) u (j:Nat),us[i]? =some u→j<sz→arr[i*sz+j]? =u.cells[j]? :=by
       obtain⟨out,o1,o2,o3,o4⟩:=fill_rows us 0 is ((Array.range (n*i.size)).map (fun q=>(if n*i.size=0 then #[] else z.cells)[q%(if n*i.size=0 then #[] else z.cells).size]!)) ho hil (fun u hu=>(hus u hu)) (by simp[e1,hnl])
       refine⟨out, ?_,by rw[o2];simp[e1],fun i u j hu hj=>by simpa using o4 i u j hu hj⟩
       have hle: ¬(n*i.size>2^24):=by omega
       rw[←e1] at o1
       simp only[Instr.buildSlice,Sem.run_bind,run_underlying ht,Result.andThen_ok,run_sizeOf' hi,hle,if_false,hps]
       by_cases h0:n*i.size=0
       ·simp only[if_pos h0] at o1 ⊢
        simp only[Sem.run_bind,Sem.run_pure,Result.andThen_ok,o1,run_newRow]
       ·simp only[if_neg h0] at o1 ⊢
        simp only[Sem.run_bind,Sem.run_pure,Result.andThen_ok,zeroValue,run_typeInfo' hi,hz,o1,run_newRow]
      obtain⟨arr,r1,r2,r3⟩:=hrun
      have hone: ∀(q:Nat) u,arr[q]? =some u→one u:=fun q u hq=>by
       have hlt:q<n*sz:=by rw[←r2];exact(Array.getElem?_eq_some_iff.1 hq).1
       have hi':q / sz<n:=Nat.div_lt_of_lt_mul (by rw[Nat.mul_comm];exact hlt)
       have hj':q%sz<sz:=Nat.mod_lt _ (by omega)
       have hu':q / sz<us.length:=by omega
       have e:q / sz*sz+q%sz=q:=Nat.div_add_mod' q sz
       have h3:=r3 (q / sz) us[q / sz] (q%sz) (by simp[hu']) hj'
       rw[e,hq] at h3
       have hx':q / sz<xs.length:=by omega
       have hc:=(D1 (q / sz) xs[q / sz] us[q / sz] (by simp[hx']) (by simp[hu'])).cells
       have hcl:q%sz<(cellsD xs[q / sz]).length:=by rw[hS (q / sz) xs[q / sz] (by simp[hx'])];exact hj'
       exact(hc.2 (q%sz) _ u (List.getElem?_eq_getElem hcl) h3.symm).2.1
      have hw1:Mem w Im1 loc (setAll h c1):=F.step.mem
      have hnr:=new_row (w:=w) (w0:=w) (k:=key d 0) (sz:=sz) (cap:=n) (xs:=xs) (arr:=arr) (t:=e) (f:=(0,0)) (chg:=false) hw1 m1 m3 rfl rfl rfl rfl e2 (fun o _ q=>by omega) hS (by omega) (by rw[r2];exact Nat.le_refl _) hone 0 false (fun i' x j y hx hy=>by
       have hj:j<sz:=by rw[←hS i' x hx];exact(List.getElem?_eq_some_iff.1 hy).1
       have hi':i'<us.length:=by rw[←hlen];exact(List.getElem?_eq_some_iff.1 hx).1
       have h3:=r3 i' us[i'] j (by simp[hi']) hj
       have hc:=(D1 i' x us[i'] hx (by simp[hi'])).cells
       have hcl:j<us[i'].cells.size:=by rw[hc.1,hS i' x hx];exact hj
       exact⟨us[i'].cells[j],by rw[h3];exact Array.getElem?_eq_getElem hcl,(hc.2 j y us[i'].cells[j] hy (Array.getElem?_eq_getElem hcl)).1,(hc.2 j y us[i'].cells[j] hy (Array.getElem?_eq_getElem hcl)).2.2⟩)
      refine⟨_,_,Im1,_,r1,F.step.trans hnr, .row _ _ _ _ _ trivial (by simp[locWith,isRowL]) ⟨0,xs.length,by simp[stm,getM_set,rowN],Nat.le_refl _,fun _=>⟨some (w.heap.size,0),n,sz,true,some ⟨w.heap.size,0,none⟩,by simp[locWith],by simp[hlen,hnl],by simp,by simp, .inr ⟨w.heap.size,0,rfl,by simp⟩⟩⟩⟩
     ·cases hb
end
end Go.Ev
set_option autoImplicit false
namespace Go.Ev
section
variable {P:Program} {w:World} {Im:Nat→Nat→Prop} {loc:Nat→Loc} {h:Map Obj} {st:Nat→Option (Nat×Nat)}
theorem zero2_cells {agg:Bool} {ds:List D} {x:D} (hf: ∀c∈ds,flatD c) (hz:zeroT.zero2 agg ds=some x):cellsD x=ds:=by
 cases agg with
 |true=>simp only[zeroT.zero2,Option.some.injEq] at hz;subst hz;rfl
 |false=>
  match ds,hz with
  |[y],hz=>
   simp only[zeroT.zero2,Option.some.injEq] at hz
   subst hz
   have:=hf y (by simp)
   cases y<;>first|rfl|exact this.elim
theorem make_ran (hM:Mem w Im loc h) {d:Nat} {t:TypeId} {a b v:V} {ua ub:Value} {ch:Map Obj} {news:List Obj} {h2:Map Obj} (ha:VR w Im loc (stm h) a ua) (hb:VR w Im loc (stm h) b ub)
 (hk: ∃e,kindOf (tiOf P t)= .slice e)
 (hv:makeV d (tiOf P (elemK (kindOf (tiOf P t)))) a b=some (v,ch,news)) (hm:made d 0 (some (setAll h ch)) news=some h2):Ran P w Im loc h ((Instr.makeSlice t ua ub).run P w) v h2:=by
 obtain⟨e,hk⟩:=hk
 obtain⟨dd,hd,hd'⟩:=kind_und hk (by simp)
 obtain rfl:=kindD_slice hd'
 rw[hk] at hv
 simp only[elemK] at hv
 unfold makeV at hv
 split at hv
 ·obtain rfl:=ha.int_inv
  obtain rfl:=hb.int_inv
  rename_i k1 n k2 c
  split at hv
  ·rename_i hnc
   subst hnc
   cases hT:tiOf P e with
   |none=>simp[hT,sizeT,zeroT,makeRow] at hv
   |some T=>
    obtain⟨i,de,z,hi,hde,hz,e1,e2,e3,e4,e5,e6,e7⟩:=tiOf_some hT
    rw[hT] at hv
    cases hsz:sizeT (some T) with
    |none=>simp[hsz,makeRow] at hv
    |some sz=>
     obtain⟨T',hT',s1,s2⟩:=sizeT_some hsz
     obtain rfl:=Option.some.inj hT'
     cases hzt:zeroT (some T) with
     |none=>simp[hsz,hzt,makeRow] at hv
     |some x=>
      simp only[hsz,hzt,makeRow] at hv
      by_cases hn:0≤n∧n.toNat*(bytesT (some T)+1)≤1099511627776
      ·rw[if_pos hn] at hv
       obtain⟨hn0,hroom⟩:=hn
       simp only[bytesT] at hroom
       simp only[Option.some.injEq,Prod.mk.injEq] at hv
       obtain⟨rfl,rfl,rfl⟩:=hv
       obtain⟨m1,rfl,m3⟩:=made_one hm
       have hzero: ∃ds Im',toDs [] T.zero=some (ds,[])∧Frz w Im loc [] h Im' h∧ds.length=z.cells.size∧(∀(j:Nat) y u,ds[j]? =some y→z.cells[j]? =some u→DR w Im' y u)∧zeroT.zero2 T.agg ds=some x:=by
        simp only[zeroT] at hzt
        cases hD:toDs [] T.zero with
        |none=>simp[hD,zeroT.zero1] at hzt
        |some p=>
         obtain⟨ds,c1⟩:=p
         simp only[hD,zeroT.zero1] at hzt
         have hz0:=zero_CV (w:=w) (Im:=Im) (loc:=loc) (st:=stm h) e4 e6
         obtain⟨Im',F,L,D⟩:=toDs_spec (hs:=[]) T.zero hM (fun k o hk=>by simp[getM] at hk) (us:=z.cells.toList) ⟨by simpa using hz0.size,fun j v u hv hu=>hz0.vr j v u hv (by simpa using hu)⟩ hD
         have hc1:c1=[]:=by
          have key: ∀(vs:List V) ds c,(∀v∈vs,∃u,v=ofValue u)→toDs [] vs=some (ds,c)→c=[]:=by
           intro vs
           induction vs with
           |nil=>intro ds c _ h;simp[toDs] at h;exact h.2
           |cons v vs ih=>
            intro ds c hall hh
            obtain⟨u,rfl⟩:=hall v (by simp)
            simp only[toDs] at hh
            cases h1:toD [] (ofValue u) with
            |none=>simp[h1,both] at hh
            |some p=>
             cases h2:toDs [] vs with
             |none=>simp[h1,h2,both] at hh
             |some q=>
              obtain⟨p1,p2⟩:=p
              obtain⟨q1,q2⟩:=q
              simp only[h1,h2,both,Option.some.injEq,Prod.mk.injEq] at hh
              obtain⟨_,rfl⟩:=hh
              have hq:=ih q1 q2 (fun v hv=>hall v (by simp[hv])) h2
              have hp:p2=[]:=by
               unfold ofValue at h1
               split at h1<;>simp[toD] at h1<;>exact h1.2
              rw[hp,hq];rfl
          refine key T.zero ds c1 (fun v hv=> ?_) hD
          rw[e4] at hv
          obtain⟨u,_,rfl⟩:=List.mem_map.1 hv
          exact⟨u,rfl⟩
         subst hc1
         exact⟨ds,Im',rfl,F,by rw[L];exact hz0.size.symm,fun j y u hy hu=>D j y u hy (by simpa using hu),hzt⟩
       obtain⟨ds,Im1,_,F,L,D,hz2⟩:=hzero
       have hM1:=F.step.mem
       have hflat: ∀c∈ds,flatD c:=fun c hc=>by
        obtain⟨j,hj,rfl⟩:=List.getElem_of_mem hc
        have hj':j<z.cells.size:=by omega
        exact flat_of_DR (D j ds[j] z.cells[j] (by simp[hj]) (by simp[hj'])) (one_of_isOne (List.all_eq_true.1 e6 _ (by simp)))
       have hxc:=zero2_cells hflat hz2
       have hzs:z.cells.size=sz:=by rw[e7,←e1,s1]
       have hsize:i.size=sz:=by rw[←e1,s1]
       have hrange:n.toNat*i.bytes+n.toNat≤1099511627776:=by rw[←e3,Nat.mul_add,Nat.mul_one] at*;exact hroom
       have hnn:n.toNat≤1099511627776:=by omega
       have hbn:n.toNat*i.bytes≤1099511627776:=by omega
       have hb48:(i.bytes:Int)*n≤281474976710656:=by
        have:(i.bytes:Int)*n=((n.toNat*i.bytes:Nat):Int):=by
         rw[Int.natCast_mul,Int.toNat_of_nonneg hn0,Int.mul_comm]
        rw[this];omega
       have hrun:=run_make (P:=P) w t e i z hd hi hz k1 k2 n n hn0 (Int.le_refl _) hb48 (by omega)
       have hget: ∀q,q<n.toNat*sz→(madeCells z.cells (n.toNat*i.size))[q]? =z.cells[q%sz]? :=fun q hq=>by
        have hlt:q%sz<z.cells.size:=by rw[hzs];exact Nat.mod_lt _ (by omega)
        rw[hsize]
        unfold madeCells
        rw[Array.getElem?_map]
        have:(Array.range (n.toNat*sz))[q]? =some q:=by simp[hq]
        rw[this,Option.map_some,hzs,getElem!_pos z.cells _ (by rw[hzs] at hlt;rw[hzs];exact hlt)]
        rw[Array.getElem?_eq_getElem hlt]
       have hms:(madeCells z.cells (n.toNat*i.size)).size=n.toNat*sz:=by rw[size_madeCells,hsize]
       have hzone: ∀(j:Nat) u,z.cells[j]? =some u→one u:=fun j u hu=>one_of_isOne (List.all_eq_true.1 e6 u (List.mem_of_getElem? (by simpa using hu)))
       have hnr:=new_row (w:=w) (w0:=w) (k:=key d 0) (sz:=sz) (cap:=n.toNat) (xs:=List.replicate n.toNat x) (arr:=madeCells z.cells (n.toNat*i.size)) (t:=e) (f:=(0,0)) (chg:=false) hM1 m1 m3 rfl rfl rfl rfl s2 (fun o _ q=>by omega)
        (fun i' y hy=>by
          rw[List.getElem?_replicate] at hy
          split at hy
          ·obtain rfl:=Option.some.inj hy;rw[hxc,L,hzs]
          ·cases hy) (by simp) (by rw[hms];exact Nat.le_refl _)
        (fun q u hq=>by
          have hlt:q<n.toNat*sz:=by rw[←hms];exact(Array.getElem?_eq_some_iff.1 hq).1
          rw[hget q hlt] at hq
          exact hzone _ u hq) 0 false
        (fun i' y j c hy hc=>by
          rw[List.getElem?_replicate] at hy
          split at hy
          ·rename_i hi'
           obtain rfl:=Option.some.inj hy
           rw[hxc] at hc
           have hj:j<sz:=by rw[←hzs,←L];exact(List.getElem?_eq_some_iff.1 hc).1
           have e1:(i'*sz+j)%sz=j:=by rw[Nat.add_comm,Nat.add_mul_mod_self_right,Nat.mod_eq_of_lt hj]
           rw[hget _ (in_row hi' hj),e1]
           have hj':j<z.cells.size:=by rw[hzs];exact hj
           exact⟨z.cells[j],Array.getElem?_eq_getElem hj',hflat c (List.mem_of_getElem? hc),D j c _ hc (Array.getElem?_eq_getElem hj')⟩
          ·cases hy)
       exact⟨_,_,Im1,_,hrun,F.step.trans hnr, .row _ _ _ _ _ trivial (by simp[locWith,isRowL]) ⟨0,n.toNat,by simp[stm,getM_set,rowN],Nat.le_refl _,fun _=>⟨some (w.heap.size,0),n.toNat,sz,true,some ⟨w.heap.size,0,none⟩,by simp[locWith],by simp,by simp,by simp, .inr ⟨w.heap.size,0,rfl,by simp⟩⟩⟩⟩
      ·rw[if_neg hn] at hv;cases hv
  ·cases hv
 ·cases hv
theorem strOf_spec: ∀{xs:List D} {s:List UInt8},strOf xs=some s→∃ns:List Int,xs=ns.map (.int .u8)∧s=ns.map (fun n=>UInt8.ofNat n.toNat)
 |[],s,h=>by simp[strOf] at h;exact⟨[],rfl,h⟩
 |x::xs,s,h=>by
  simp only[strOf] at h
  cases hs:strOf xs with
  |none=>
   rw[hs] at h
   unfold strOf.strOf1 at h
   split at h<;>simp_all
  |some s'=>
   rw[hs] at h
   obtain⟨ns,e1,e2⟩:=strOf_spec hs
   unfold strOf.strOf1 at h
   split at h
   ·rename_i n s2 hh
    obtain rfl:=Option.some.inj hh
    obtain rfl:=Option.some.inj h
    exact⟨n::ns,by simp[e1],by simp[e2]⟩
   ·cases h
theorem push_list (ns:List Int) (acc:ByteArray):(ns.foldl (fun(s:ByteArray) n=>s.push (UInt8.ofNat n.toNat)) acc).data.toList=acc.data.toList++ns.map (fun n=>UInt8.ofNat n.toNat):=by
 induction ns generalizing acc with
 |nil=>simp
 |cons n ns ih=>simp[ih]
theorem sized_ints (ns:List Int) (k:IntKind):Sized 1 (ns.map (D.int k)):=fun i x hx=>by
 simp only[List.getElem?_map,Option.map_eq_some_iff] at hx
 obtain⟨n,_,rfl⟩:=hx
 rfl
theorem bytes_str (hM:Mem w Im loc h) {hs:Map Obj} (hsub: ∀r o,getM hs r=some o→getM h r=some o) {x:V} {ux:Value} (hx:VR w Im loc (stm h) x ux) {xs:List D} (he:srcOf hs x=some xs) (hsl:isSlice ux) {s:List UInt8} (hs':strOf xs=some s):
 ∃b:ByteArray,b.data.toList=s∧(Conv.bytesToString ux).run P w= .ok (.string b) w:=by
 obtain⟨ns,rfl,rfl⟩:=strOf_spec hs'
 obtain⟨us,hc,hf⟩:=srcOf_spec (P:=P) hM hsub hx he (sized_ints ns .u8)
 obtain⟨h1,h2⟩:=hf w rfl
 have hus:us=ns.map (Value.int .u8):=by
  have hfl:flatC (ns.map (D.int .u8))=ns.map (D.int .u8):=by
   clear hs' he hc hf h1 h2
   induction ns with
   |nil=>rfl
   |cons n ns ih=>simp[flatC,cellsD] at ih ⊢;exact ih
  rw[hfl] at hc
  apply List.ext_getElem?
  intro q
  by_cases hq:q<ns.length
  ·have hq1:q<us.length:=by rw[hc.1];simpa using hq
   have:=(hc.2 q (.int .u8 ns[q]) us[q] (by simp[hq]) (by simp[hq1])).2.2
   have e:us[q]= .int .u8 ns[q]:=by
    revert this
    generalize us[q]=z
    intro this
    cases this
    rfl
   simp[hq,hq1,e]
  ·have hq1:us.length≤q:=by rw[hc.1];simpa using hq
   simp[List.getElem?_eq_none hq1,List.getElem?_eq_none (show ns.length≤q by omega)]
 cases ux with
 |slice a n c=>
  have hn:n=ns.length:=by
   simp[Builtin.lenOf] at h1
   exact h1
  subst hn
  cases a with
  |none=>
   have h3:=h2 ns.length (by simp)
   simp only[Builtin.firstCells] at h3
   have hz:ns=[]:=by
    have h4:(#[]:Array Value)=(us.take (ns.length*1)).toArray:=by
     simpa using h3
    have h5:=congrArg Array.size h4
    rw[hus] at h5
    simp at h5
    exact List.eq_nil_of_length_eq_zero h5.symm
   subst hz
   exact⟨.empty,rfl,by simp[Conv.bytesToString]⟩
  |some ad=>
   have h3:=h2 ns.length (by simp)
   simp only[Builtin.firstCells,Nat.mul_one] at h3
   rw[hus,show ns.length=(ns.map (Value.int IntKind.u8)).length by simp,List.take_length] at h3
   exact⟨_,push_list ns .empty,run_bytesToString w ad ns.length c ns (by simpa using h3)⟩
 |_=>exact hsl.elim
theorem isSl_spec {x:V} {u:Value} (hv:VR w Im loc st x u) (hs:isSl x=true):isSlice u:=by
 cases hv with
 |d _ _ hd=>cases hd<;>first|trivial|cases hs
 |row _ _ _ _ _ h0=>exact h0
 |nilsl=>trivial
 |_=>cases hs
theorem conv_run (hM:Mem w Im loc h) {hs:Map Obj} (hsub: ∀r o,getM hs r=some o→getM h r=some o) {s t:TypeId} {x v:V} {ux:Value} (hx:VR w Im loc (stm h) x ux)
 (hv:convV hs (kindOf (tiOf P s)) (kindOf (tiOf P t)) (kindOf (tiOf P (elemK (kindOf (tiOf P s))))) x=some v): ∃u,(convert s t ux).run P w= .ok u w∧VR w Im loc (stm h) v u:=by
 generalize hk1:kindOf (tiOf P s)=k1 at hv
 generalize hk2:kindOf (tiOf P t)=k2 at hv
 generalize hk3:kindOf (tiOf P (elemK k1))=k3 at hv
 unfold convV at hv
 split at hv
 ·obtain rfl:=hx.int_inv
  obtain rfl:=Option.some.inj hv
  obtain⟨d1,h1,h1'⟩:=kind_und hk1 (by simp)
  obtain⟨d2,h2,h2'⟩:=kind_und hk2 (by simp)
  rw[kindD_int h1'] at h1
  rw[kindD_int h2'] at h2
  exact⟨_,by simp[convert,run_underlying h1,run_underlying h2,Conv.intToInt], .d _ _ (.int _ _)⟩
 ·obtain⟨b,rfl,e⟩:=hx.str_inv
  obtain rfl:=Option.some.inj hv
  obtain⟨d1,h1,h1'⟩:=kind_und hk1 (by simp)
  obtain⟨d2,h2,h2'⟩:=kind_und hk2 (by simp)
  rw[kindD_str h1'] at h1
  rw[kindD_str h2'] at h2
  exact⟨.string b,by simp[convert,run_underlying h1,run_underlying h2],hx⟩
 ·rename_i e0
  cases hb:(isU8 k3&&isSl x) with
  |false=>simp[hb] at hv
  |true=>
   simp only[hb,cond_true] at hv
   simp only[Bool.and_eq_true] at hb
   cases hsr:srcOf hs x with
   |none=>simp[hsr,strL] at hv
   |some xs=>
    cases hst:strOf xs with
    |none=>simp[hsr,hst,strL,strV] at hv
    |some str=>
     simp only[hsr,hst,strL,strV,Option.some.injEq] at hv
     subst hv
     have hsl:=isSl_spec hx hb.2
     obtain⟨b,rfl,hrun⟩:=bytes_str (P:=P) hM hsub hx hsr hsl hst
     obtain⟨d1,h1,h1'⟩:=kind_und hk1 (by simp)
     obtain⟨d2,h2,h2'⟩:=kind_und hk2 (by simp)
     rw[kindD_slice h1'] at h1
     rw[kindD_str h2'] at h2
     have hk3':k3= .int .u8:=by
      have:=hb.1
      unfold isU8 at this
      split at this<;>first|rfl|cases this
     simp only[elemK] at hk3
     obtain⟨d3,h3,h3'⟩:=kind_und (hk3.trans hk3') (by simp)
     rw[kindD_int h3'] at h3
     cases ux with
     |slice a l c=>
      refine⟨.string b, ?_, .d _ _ (.str b)⟩
      rw[run_convert_bytes_string w s t _ a l c h1 h3 h2]
      exact hrun
     |_=>exact hsl.elim
 ·cases hv
end
end Go.Ev
