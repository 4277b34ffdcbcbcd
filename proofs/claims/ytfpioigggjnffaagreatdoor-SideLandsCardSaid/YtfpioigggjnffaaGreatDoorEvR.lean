/- EvR, EvT. -/
import Derived.Test.YtfpioigggjnffaaGreatDoorEvSb
import Derived.Below
import Derived.Deep.Slices
import Derived.DataReads
import Derived.ChangeArms
import Derived.WideShapes
import Derived.FnData
import Derived.OpenShut
import Derived.Test.YtfpioigggjnffaaGreatDoorEvA
import Derived.Attr
set_option linter.unnecessarySimpa false
set_option linter.unusedSimpArgs false
set_option linter.unusedVariables false
set_option autoImplicit false
namespace Go.Ev
open Go.RowKit
def imAll (w:World) (b _o:Nat):Prop:=b<w.heap.size
structure Cd (α:Type) where
 sz:Nat
 cells:α→List D
 d:α→D
 hd: ∀a,cellsD (d a)=cells a
 len: ∀a,(cells a).length=sz
def Cd.int (k:IntKind):Cd Int:=⟨1,fun n=>[.int k n],fun n=> .int k n,fun _=>rfl,fun _=>rfl⟩
def Cd.bool:Cd Bool:=⟨1,fun b=>[.bool b],fun b=> .bool b,fun _=>rfl,fun _=>rfl⟩
def Cd.str:Cd (List UInt8):=⟨1,fun s=>[.str s],fun s=> .str s,fun _=>rfl,fun _=>rfl⟩
def Cd.list {α:Type} (C:Cd α):Cd (List α):=⟨1,fun xs=>[.list (xs.map C.d)],fun xs=> .list (xs.map C.d),fun _=>rfl,fun _=>rfl⟩
def Cd.pair {α β:Type} (A:Cd α) (B:Cd β):Cd (α×β):=⟨A.sz+B.sz,fun p=>A.cells p.1++B.cells p.2,fun p=> .agg (A.cells p.1++B.cells p.2),fun _=>rfl,fun p=>by simp[A.len,B.len]⟩
def Cd.st {α β:Type} (C:Cd α) (f:β→α):Cd β:=⟨C.sz,fun b=>C.cells (f b),fun b=> .agg (C.cells (f b)),fun _=>rfl,fun b=>C.len _⟩
def CellsR (w:World) (ds:List D) (cs:List Value):Prop:=cs.length=ds.length∧∀(j:Nat) y u,ds[j]? =some y→cs[j]? =some u→flatD y∧DR w (imAll w) y u
theorem CellsR.one {w:World} {y:D} {u:Value} (hf:flatD y) (h:DR w (imAll w) y u):CellsR w [y] [u]:=⟨rfl,fun j y' u' h1 h2=>by
 cases j with
 |zero=>
  obtain rfl:=Option.some.inj h1
  obtain rfl:=Option.some.inj h2
  exact⟨hf,h⟩
 |succ j=>simp at h1⟩
theorem CellsR.append {w:World} {ds es:List D} {cs us:List Value} (h:CellsR w ds cs) (k:CellsR w es us):CellsR w (ds++es) (cs++us):=by
 refine⟨by simp[h.1,k.1],fun j y u h1 h2=> ?_⟩
 by_cases hj:j<ds.length
 ·rw[List.getElem?_append_left hj] at h1
  rw[List.getElem?_append_left (by rw[h.1];exact hj)] at h2
  exact h.2 j y u h1 h2
 ·rw[List.getElem?_append_right (by omega)] at h1
  rw[List.getElem?_append_right (by rw[h.1];omega),h.1] at h2
  exact k.2 _ y u h1 h2
def Reads (P:Program) (t:TypeId) {α:Type} (C:Cd α) (good:α→Prop):Prop:=
 ∀(H:Type) (enc:TypeId×Value→H) (w:World) (base:Nat) (spare:Nat→Bool) (held:Bool) (fuel:Nat) (cs:List Value) (x:DataW H×List MemPlace),
  DataW.trod enc P w base spare held fuel t cs=some x→∃a:α,CellsR w (C.cells a) cs∧good a
def rng (k:IntKind) (n:Int):Prop:=k.min≤n∧n≤k.max
theorem rng_u8 {n:Int} (h:rng .u8 n):0≤n∧n≤255:=⟨h.1,h.2⟩
theorem rng_u64 {n:Int} (h:rng .u64 n):0≤n∧n≤18446744073709551615:=⟨h.1,h.2⟩
theorem rng_wf {k:IntKind} {n:Int} (h:(Lit.int k n).wf=true):rng k n:=by
 simp only[Lit.wf,Bool.and_eq_true,decide_eq_true_eq] at h
 exact h
theorem reads_int {P:Program} {t:TypeId} {k:IntKind} (ht:P.underlying t=some (.int k)):Reads P t (Cd.int k) (rng k):=by
 intro H enc w base spare held fuel cs x h
 obtain⟨n,rfl,_,hw⟩:=DataW.trod_int ht h
 exact⟨n, .one trivial (.int k n),rng_wf hw⟩
theorem reads_bool {P:Program} {t:TypeId} (ht:P.underlying t=some .bool):Reads P t Cd.bool (fun _=>True):=by
 intro H enc w base spare held fuel cs x h
 obtain⟨n,rfl,_⟩:=DataW.trod_bool ht h
 exact⟨n, .one trivial (.bool n),trivial⟩
theorem reads_slice {P:Program} {t e:TypeId} {α:Type} {C:Cd α} {good:α→Prop} (ht:P.underlying t=some (.slice e)) (hsz:C.sz=P.cellsOf e) (hpos:C.sz≠0) (he:Reads P e C good):
 Reads P t (Cd.list C) (fun xs=>xs.length≤maxLen∧∀x∈xs,good x):=by
 intro H enc w base spare held fuel cs x h
 rcases Deep.open_slice ht h with⟨rfl,_⟩|⟨a,len,cap,m,n,D',Pl,rfl,hb,hl,hc,hm,_,hall⟩
 ·exact⟨[], .one trivial (.empty none 0),by simp[maxLen],fun x hx=>absurd hx (by simp)⟩
 ·have hlm:len≤m:=by rw[hm];split<;>omega
  have hex: ∀i,i<len→∃y:α×List Value,w.cells? base (a.add (i*P.cellsOf e)) (P.cellsOf e)=some y.2∧CellsR w (C.cells y.1) y.2∧good y.1:=fun i hi=>by
   obtain⟨cs',h1,h2⟩:=hall i (by omega)
   obtain⟨y,h3,h4⟩:=he H enc w base spare held n cs' _ h2
   exact⟨(y,cs'),h1,h3,h4⟩
  rcases Nat.eq_zero_or_pos len with h0|h0
  ·subst h0
   exact⟨[], .one trivial (.empty (some a) cap),by simp[maxLen],fun x hx=>absurd hx (by simp)⟩
  ·haveI:Inhabited (α×List Value):=⟨Classical.choose (hex 0 h0)⟩
   obtain⟨f,hf⟩:=Deep.choose_lt hex
   have hm9:maxLen=9223372036854775807:=rfl
   obtain⟨b,o,sp⟩:=a
   have hcell: ∀i,i<len→∀j,j<C.sz→w.cell? ((⟨b,o,sp⟩:Addr).add (i*C.sz+j))=(f i).2[j]? ∧j<(f i).2.length:=fun i hi j hj=>by
    obtain⟨h1,h2,_⟩:=hf i hi
    have h3:=(World.cells?_some h1).2.2 j (by omega)
    rw[Deep.add_add,←hsz] at h3
    exact⟨h3,by rw[h2.1,C.len];exact hj⟩
   have hsp:sp=none:=by
    obtain⟨h1,h2⟩:=hcell 0 h0 0 (by omega)
    rw[Nat.zero_mul,Nat.zero_add,List.getElem?_eq_getElem h2] at h1
    simp only[Addr.add,if_true,World.cell?] at h1
    split at h1
    ·split at h1
     ·cases h1
     ·rename_i hsp
      cases sp with
      |none=>rfl
      |some s=>exact absurd rfl hsp
    ·cases h1
   subst hsp
   have hblk:b<w.heap.size:=by
    obtain⟨h1,h2⟩:=hcell 0 h0 0 (by omega)
    rw[Nat.zero_mul,Nat.zero_add,List.getElem?_eq_getElem h2] at h1
    simp only[Addr.add,if_true,World.cell?] at h1
    split at h1
    ·rename_i hh
     exact(Array.getElem?_eq_some_iff.1 hh).1
    ·cases h1
   have hget: ∀(i:Nat) x,(((List.range len).map fun i=>(f i).1).map C.d)[i]? =some x→i<len∧x=C.d (f i).1:=fun i x hx=>by
    have hi:i<len:=by simpa using (List.getElem?_eq_some_iff.1 hx).1
    refine⟨hi, ?_⟩
    simp[hi] at hx
    exact hx.symm
   refine⟨(List.range len).map (fun i=>(f i).1), .one trivial ?_,by simp;omega,fun x hx=> ?_⟩
   ·have hlist:=DR.list (w:=w) (Im:=imAll w) (((List.range len).map fun i=>(f i).1).map C.d) b o C.sz cap (fun i j=>((f i).2[j]?).getD Go.undef) (by simpa using hl)
     (fun i x hx=>by obtain⟨hi,rfl⟩:=hget i x hx;rw[C.hd,C.len])
     (fun i x j y hx hy=>by
       obtain⟨hi,rfl⟩:=hget i x hx
       rw[C.hd] at hy
       have hj:j<C.sz:=by rw[←C.len (f i).1];exact(List.getElem?_eq_some_iff.1 hy).1
       obtain⟨h1,h2⟩:=hcell i hi j hj
       rw[List.getElem?_eq_getElem h2] at h1
       obtain⟨_,h4,_⟩:=hf i hi
       refine⟨(h4.2 j y _ hy (List.getElem?_eq_getElem h2)).1,hblk, ?_⟩
       rw[List.getElem?_eq_getElem h2,Option.getD_some,←h1]
       congr 1
       rw[Addr.add_lit,←Nat.add_assoc])
     (fun i x j y hx hy=>by
       obtain⟨hi,rfl⟩:=hget i x hx
       rw[C.hd] at hy
       have hj:j<C.sz:=by rw[←C.len (f i).1];exact(List.getElem?_eq_some_iff.1 hy).1
       obtain⟨h1,h2⟩:=hcell i hi j hj
       obtain⟨_,h4,_⟩:=hf i hi
       have:=(h4.2 j y _ hy (List.getElem?_eq_getElem h2)).2
       rw[List.getElem?_eq_getElem h2,Option.getD_some]
       exact this)
    simpa using hlist
   ·obtain⟨i,hi,rfl⟩:=List.mem_map.1 hx
    exact(hf i (by simpa using hi)).2.2
def ReadsF (P:Program) (fs:List Field) (off:Nat) {α:Type} (C:Cd α) (good:α→Prop):Prop:=
 ∀(H:Type) (enc:TypeId×Value→H) (w:World) (base:Nat) (spare:Nat→Bool) (held:Bool) (n:Nat) (cs:List Value),
  (∀f∈fs,∃y,DataW.trod enc P w base spare held n f.type ((cs.drop f.offset).take (P.cellsOf f.type))=some y)→cs.length=off+C.sz→∃a:α,CellsR w (C.cells a) (cs.drop off)∧good a
theorem readsF_last {P:Program} {f:Field} {α:Type} {C:Cd α} {good:α→Prop} (off:Nat) (ho:f.offset=off) (hsz:P.cellsOf f.type=C.sz) (hd:Reads P f.type C good):ReadsF P [f] off C good:=by
 intro H enc w base spare held n cs hall hl
 obtain⟨y,hy⟩:=hall f (by simp)
 rw[ho,hsz,List.take_of_length_le (by simp;omega)] at hy
 exact hd H enc w base spare held n _ y hy
theorem readsF_cons {P:Program} {f:Field} {fs:List Field} {α β:Type} {A:Cd α} {B:Cd β} {good:α→Prop} {Good:β→Prop} (off:Nat) (ho:f.offset=off) (hsz:P.cellsOf f.type=A.sz) (hd:Reads P f.type A good)
 (hD:ReadsF P fs (off+A.sz) B Good):ReadsF P (f::fs) off (Cd.pair A B) (fun x=>good x.1∧Good x.2):=by
 intro H enc w base spare held n cs hall hl
 have hl2:cs.length=off+A.sz+B.sz:=by
  have:(Cd.pair A B).sz=A.sz+B.sz:=rfl
  omega
 obtain⟨y,hy⟩:=hall f (by simp)
 rw[ho,hsz] at hy
 obtain⟨a,h1,h2⟩:=hd H enc w base spare held n _ y hy
 obtain⟨b,h3,h4⟩:=hD H enc w base spare held n cs (fun g hg=>hall g (List.mem_cons_of_mem _ hg)) hl2
 refine⟨(a,b), ?_,h2,h4⟩
 have:=h1.append h3
 rwa [←List.drop_drop,List.take_append_drop] at this
theorem reads_struct {P:Program} {t:TypeId} {fs:Array Field} {α β:Type} {C:Cd α} {good:α→Prop} (f:β→α) (g:α→β) (hfg: ∀x,f (g x)=x) (ht:P.underlying t=some (.struct fs)) (hsz:P.cellsOf t=C.sz) (hF:ReadsF P fs.toList 0 C good):
 Reads P t (Cd.st C f) (fun x=>good (f x)):=by
 intro H enc w base spare held fuel cs x h
 obtain⟨xs,n,rfl,_,hl,hlen,hall⟩:=DataW.trod_struct ht h
 obtain⟨a,h1,h2⟩:=hF H enc w base spare held n cs (fun f0 hf0=>by
  obtain⟨i,hi,he⟩:=List.getElem_of_mem hf0
  have hi2:i<xs.length:=by rw[hlen];simpa using hi
  refine⟨xs[i], ?_⟩
  rw[hall i f0 (by rw[←he];simp),List.getElem?_eq_getElem hi2]) (by omega)
 refine⟨g a, ?_,by show good (f (g a));rw[hfg];exact h2⟩
 show CellsR w (C.cells (f (g a))) cs
 rw[hfg]
 simpa using h1
section
variable {H:Type} {enc:TypeId×Value→H} {P:Program} {w:World} {base:Nat} {spare:Nat→Bool} {held:Bool} {dd:DataW H} {p:List MemPlace}
theorem arg_one {t:TypeId} {α:Type} {C:Cd α} {good:α→Prop} {v:Value} (hone:v.cells= #[v]) (hc: ∀a,C.cells a=[C.d a]) (he:Reads P t C good) (h:DataW.Trod enc P w base spare held t v dd p): ∃a,DR w (imAll w) (C.d a) v∧good a:=by
 obtain⟨fuel,hf⟩:=h
 rw[hone] at hf
 obtain⟨a,h1,h2⟩:=he H enc w base spare held fuel _ _ hf
 refine⟨a, ?_,h2⟩
 rw[hc] at h1
 exact(h1.2 0 _ _ rfl rfl).2
theorem arg_struct {t:TypeId} {α β:Type} {C:Cd α} {f:β→α} {good:β→Prop} {cs:Array Value} (he:Reads P t (Cd.st C f) good) (h:DataW.Trod enc P w base spare held t (.agg cs) dd p): ∃a,DR w (imAll w) ((Cd.st C f).d a) (.agg cs)∧good a:=by
 obtain⟨fuel,hf⟩:=h
 obtain⟨a,h1,h2⟩:=he H enc w base spare held fuel _ _ hf
 refine⟨a, ?_,h2⟩
 have h3:cs.toList.length=(C.cells (f a)).length:=h1.1
 exact .agg _ _ (by simpa using h3) (fun j y hy=>by
  have hj:j<cs.toList.length:=by rw[h3];exact(List.getElem?_eq_some_iff.1 hy).1
  exact(h1.2 j y _ hy (List.getElem?_eq_getElem hj)).1) (fun j y u hy hu=>(h1.2 j y u hy (by simpa[Value.cells] using hu)).2)
end
theorem run_law {P:Program} {glob:Nat→Option (List D)} {call:Calling} (hC:CallOk P glob call) {f:FuncId} {ds:List D} (h:call f (ds.map V.d) []=some (.d (.bool true),[])) {W:World} (hG:GlobOk glob W (imAll W)) {us:List Value}
 (hl:us.length=ds.length) (hd: ∀(j:Nat) d u,ds[j]? =some d→us[j]? =some u→DR W (imAll W) d u):Calls P f us.toArray W fun e W'=>e= .returned (.bool true)∧Below W.heap.size W W':=by
 have hk: ∀k,getM (keyed 0 ([]:List Obj)) k=none:=fun k=>rfl
 have hM:Mem W (imAll W) (fun _=> .none) (keyed 0 []):=⟨(fun r o e=>by rw[hk] at e;cases e),fun r _=>rfl,fun r r' b h=>h.elim,fun b o h=>h⟩
 obtain⟨_,hc⟩:=hC f _ [] _ _ h (by simp) (fun i o e=>by simp at e)
 refine(hc W (imAll W) (fun _=> .none) us hM hG ⟨by simpa using hl,fun j v u hv hu=> ?_⟩).mono fun e W' hq=> ?_
 ·rw[List.getElem?_map] at hv
  obtain⟨d,h1,rfl⟩:=Option.map_eq_some_iff.1 hv
  exact .d _ _ (hd j d u h1 hu)
 ·obtain⟨u,Im',loc',rfl,B,hu⟩:=hq
  refine⟨?_,B.os,B.tape,B.output,B.size,fun k hk=>B.old k hk (fun r h=>h.elim)⟩
  cases hu with
  |d _ _ hx=>cases hx;rfl
def valOf:D→Value
 | .int k n=> .int k n
 | .bool b=> .bool b
 |_=>Go.undef
def isLit:D→Bool
 | .int _ _=>true
 | .bool _=>true
 |_=>false
def Held (g:Nat) (cs:List Value) (w:World):Prop:=∃t fr,w.heap[g]? =some (.cells cs.toArray t fr)
theorem globOk {glob:Nat→Option (List D)} {W:World} (h: ∀g cs,glob g=some cs→cs.all isLit=true∧Held g (cs.map valOf) W):GlobOk glob W (imAll W):=by
 intro g cs e
 obtain⟨h1,t,fr,h2⟩:=h g cs e
 have hlt:=(Array.getElem?_eq_some_iff.1 h2).1
 have hf: ∀(k:Nat) y,cs[k]? =some y→isLit y=true:=fun k y hk=>List.all_eq_true.1 h1 y (List.mem_of_getElem? hk)
 refine⟨fun k=>((cs[k]?).map valOf).getD Go.undef,fun k y hk=>⟨?_,hlt, ?_⟩,fun k y hk=> ?_⟩
 ·have:=hf k y hk
  cases y<;>first|trivial|cases this
 ·simp[World.cell?,h2,hk]
 ·have:=hf k y hk
  simp only[hk,Option.map_some,Option.getD_some]
  cases y<;>first|exact .int _ _|exact .bool _|cases this
theorem held_of_laid {P:Program} {w:World} {n:String} {g:Nat} {cs:Array Value} {l:List Value} (hg:P.globalNamed n=some g) (hv:w.var? P n=some cs) (hl:cs.toList=l):Held g l w:=by
 subst hl
 simp only[World.var?,hg,Option.bind_some] at hv
 split at hv
 ·rename_i c t fr hh
  obtain rfl:=Option.some.inj hv
  exact⟨t,fr,by simpa using hh⟩
 ·cases hv
def litCell {H:Type}:DataW H→Value
 | .lit (.int k n)=> .int k n
 | .lit (.bool b)=> .bool b
 |_=>undef
def litCells {H:Type}:DataW H→List Value
 | .agg l=>l.map litCell
 |_=>[]
theorem row_exact {H:Type} {enc:TypeId×Value→H} {P:Program} {w:World} {base:Nat} {spare:Nat→Bool} {held:Bool} {fuel:Nat} {e:TypeId} {fs:Array Field} (hs:P.underlying e=some (.struct fs)) (hsz:P.cellsOf e=fs.size)
 (hf: ∀(i:Nat) (f:Field),fs[i]? =some f→f.offset=i∧P.cellsOf f.type=1∧((∃k,P.underlying f.type=some (.int k))∨P.underlying f.type=some .bool))
 {c:List Value} {x:DataW H×List MemPlace} (h:DataW.trod enc P w base spare held fuel e c=some x):c=litCells x.1:=by
 obtain⟨xs,n,rfl,rfl,hl,hlen,hall⟩:=DataW.trod_struct hs h
 refine List.ext_getElem? fun i=> ?_
 simp only[litCells,List.map_map,List.getElem?_map]
 rcases Nat.lt_or_ge i fs.size with hi|hi
 ·have hfi:fs[i]? =some fs[i]:=Array.getElem?_eq_getElem hi
  obtain⟨h1,h2,h3⟩:=hf i _ hfi
  have h4:=hall i _ hfi
  have hc:i<c.length:=by omega
  have hx:i<xs.length:=by omega
  rw[h1,h2,List.drop_eq_getElem_cons hc,List.take_succ_cons,List.take_zero,List.getElem?_eq_getElem hx] at h4
  rw[List.getElem?_eq_getElem hc,List.getElem?_eq_getElem hx]
  simp only[Option.map_some,Function.comp]
  rcases h3 with⟨k,h3⟩|h3
  ·obtain⟨m,h5,h6,_⟩:=DataW.trod_int h3 h4
   rw[h6]
   simpa[litCell] using h5
  ·obtain⟨m,h5,h6⟩:=DataW.trod_bool h3 h4
   rw[h6]
   simpa[litCell] using h5
 ·rw[List.getElem?_eq_none (by omega),List.getElem?_eq_none (by omega)]
  rfl
theorem chunks_flat {l:List (List Value)} {cs:List Value} {sz:Nat} (hl:cs.length=l.length*sz) (h: ∀(i:Nat) (c:List Value),l[i]? =some c→(cs.drop (i*sz)).take sz=c):cs=l.flatten:=by
 induction l generalizing cs with
 |nil=>simpa using hl
 |cons a l ih=>
  have h0:=h 0 a rfl
  rw[Nat.zero_mul,List.drop_zero] at h0
  have h1:=ih (cs:=cs.drop sz) (by simp[hl,Nat.add_mul]) (fun i c hc=>by
   have:=h (i+1) c (by simpa using hc)
   rw[Nat.add_mul,Nat.one_mul,Nat.add_comm,←List.drop_drop] at this
   exact this)
  rw[List.flatten_cons,←h0,←h1,List.take_append_drop]
theorem arr_exact {H:Type} {enc:TypeId×Value→H} {P:Program} {w:World} {base:Nat} {spare:Nat→Bool} {held:Bool} {fuel n:Nat} {t e:TypeId} {fs:Array Field} (ht:P.underlying t=some (.array n e)) (hsz0:P.cellsOf t=n*P.cellsOf e) (hs:P.underlying e=some (.struct fs)) (hsz:P.cellsOf e=fs.size)
 (hf: ∀(i:Nat) (f:Field),fs[i]? =some f→f.offset=i∧P.cellsOf f.type=1∧((∃k,P.underlying f.type=some (.int k))∨P.underlying f.type=some .bool))
 {cs:List Value} {l:List (DataW H)} {p:List MemPlace} (h:DataW.trod enc P w base spare held fuel t cs=some (.agg l,p)):cs=(l.map litCells).flatten:=by
 obtain⟨xs,m,rfl,hx,hl,hlen,hall⟩:=DataW.trod_array ht h
 simp only[Prod.mk.injEq,DataW.agg.injEq] at hx
 obtain⟨rfl,_⟩:=hx
 refine chunks_flat (sz:=P.cellsOf e) (by simp[hl,hsz0,hlen]) fun i c hc=> ?_
 simp only[List.map_map,List.getElem?_map] at hc
 obtain⟨y,hy,rfl⟩:=Option.map_eq_some_iff.1 hc
 have hi:i<n:=by rw[←hlen];exact(List.getElem?_eq_some_iff.1 hy).1
 have h1:=hall i hi
 rw[hy] at h1
 exact row_exact hs hsz hf h1
end Go.Ev
set_option autoImplicit false
namespace Go.Ev
theorem getM_i {α:Type} (k:Nat) (a:α) (m:Map α) (r:Nat):getM ((k,a)::m) r=if k=r then some a else getM m r:=by
 simp only[getM];cases h:(k==r)<;>simp_all
theorem setM_i {α:Type} (k:Nat) (b:α) (m:Map α) (r:Nat) (a:α):setM ((k,b)::m) r a=if r=k then(r,a)::m else if r<k then(r,a)::(k,b)::m else(k,b)::setM m r a:=by
 simp only[setM];cases h:(r==k)<;>by_cases h2:r<k<;>simp_all
theorem setT_i {α:Type} (k:Nat) (b:α) (m:Map α) (r:Nat) (a:α):setT ((k,b)::m) r a=if r=k then(r,a)::m else if k<r then(r,a)::(k,b)::m else(k,b)::setT m r a:=by
 simp only[setT];cases h:(r==k)<;>by_cases h2:k<r<;>simp_all
theorem reach_i (h:Map Obj) (n r:Nat) (todo seen:List Nat):reach h (n+1) (r::todo) seen=if seen.contains r=true then reach h n todo seen else reach h n (refsO (getM h r)++todo) (seen++[r]):=by
 simp only[reach];cases seen.contains r<;>simp
theorem posIn_i (k:Nat) (ks:List Nat) (r i:Nat):posIn (k::ks) r i=if k=r then some i else posIn ks r (i+1):=by
 simp only[posIn];cases h:(k==r)<;>simp_all
attribute [go_sem] getM.eq_1 getM_i setM.eq_1 setM_i setT.eq_1 setT_i reach.eq_1 reach.eq_2 reach_i posIn.eq_1 posIn_i
attribute [go_sem] getT.eq_1 globV.eq_1 globV.eq_2 ev.eq_1 ev.eq_2 ev.eq_3 ev.eq_4 evs.eq_1 evs.eq_2 opnds.eq_1 opnds.eq_2 opnds.eq_3 opnds.eq_4 opnds.eq_5 opnds.eq_6 opnds.eq_7 opnds.eq_8 opnds.eq_9 opnds.eq_10 opnds.eq_11 opnds.eq_12 opnds.eq_13 opnds.eq_14 opnds.eq_15 opnds.eq_16 opnds.eq_17 opnds.eq_18 opnds.eq_19 opnds.eq_20 opnds.eq_21 opnds.eq_22 opnds.eq_23 refsV.eq_1 refsV.eq_2 refsV.eq_3 refsV.eq_4 refsV.eq_5 refsV.eq_6 refsV.eq_7 refsL.eq_1 refsL.eq_2 refsO.eq_1 refsO.eq_2 renRow.eq_1 renRow.eq_2 renE.eq_1 renE.eq_2 renP.eq_1 renP.eq_2 renV.eq_1 renV.eq_2 renV.eq_3 renV.eq_4 renV.eq_5 renV.eq_6 renV.eq_7 renV.eq_8 renV.eq_9 renV.eq_10 renV.eq_11 renV.eq_12 renV.eq_13 renL.eq_1 renL.eq_2 stampOf.eq_1 stampOf.eq_2 good.eq_1 good.eq_2 stamp0.eq_1 renO.eq_1 renO.eq_2 takeObjs.eq_1 takeObjs.eq_2 takeObjs.takeObj.eq_1 takeObjs.takeObj.eq_2 allD.eq_1 allD.eq_2 allD.allD1.eq_1 allD.allD1.eq_2 mkAgg1.eq_1 mkAgg1.eq_2 mkAgg.eq_1 cellsD.eq_1 cellsD.eq_2 lenIs.eq_1 lenIs.eq_2 lenIs.eq_3 takeN.eq_1 takeN.eq_2 takeN.eq_3 okLen.eq_1 cellsOk.eq_1 cellsOk.eq_2 cellsOk.eq_3 cellsOk.eq_4 cellsOk.eq_5 cellsOk.eq_6 cellsOk.eq_7 cellsOk.eq_8 cellsOk.eq_9 cellsOk.eq_10 cellsOk.eq_11 cellsOk.eq_12 cellsOk.eq_13 cellsOk.eq_14 cellsOk.eq_15 cellsOk.eq_16 cellsOk.eq_17 cellsOkD.eq_1 cellsOkD.eq_2 cellsOkD.eq_3 cellsOkD.eq_4 cellsOkD.eq_5 putL.eq_1 putL.eq_2 putL.eq_3 putL.eq_4 putL.eq_5 ret1.eq_1 ret1.eq_2 key.eq_1 aggV.eq_1 aggV.eq_2 partV.eq_1 aggD.eq_1 aggD.eq_2 oneD.eq_1 oneD.eq_2 partD.eq_1 ldO.eq_1 ldO.eq_2 ldX.eq_1 ldX.eq_2 ldX.ldX1.eq_1 ldX.ldX1.eq_2 ldE.eq_1 ldE.eq_2 ldV.eq_1 ldV.eq_2 ldV.eq_3 ldV.eq_4 subL.eq_1 toRow.eq_1 toRow.eq_2 aggOf.eq_1 aggOf.eq_2 both.eq_1 both.eq_2 toD.eq_1 toD.eq_2 toD.eq_3 toD.eq_4 toD.eq_5 toDs.eq_1 toDs.eq_2 stO.eq_1 stO.eq_2 stO.stO1.eq_1 stO.stO1.eq_2 rebuild.eq_1 rebuild.eq_2 rebuild.eq_3 stE.eq_1 stE.eq_2 stE1.eq_1 stE1.eq_2 stE2.eq_1 stE2.eq_2 stE3.eq_1 stE3.eq_2 stE4.eq_1 stE4.eq_2 stV.eq_1 stV.eq_2 stV.eq_3 intOp.eq_1 intOp.eq_2 intOp.eq_3 intOp.eq_4 intOp.eq_5 intOp.eq_6 intOp.eq_7 intOp.eq_8 intOp.eq_9 intOp.eq_10 intOp.eq_11 intOp.eq_12 intOp.eq_13 intOp.eq_14 intOp.eq_15 intOp.eq_16 shOp.eq_1 shOp.eq_2 shOp.eq_3 isShift.eq_1 isShift.eq_2 isShift.eq_3 sameKind.eq_1 boolOp.eq_1 boolOp.eq_2 boolOp.eq_3 strOp.eq_1 strOp.eq_2 strOp.eq_3 strOp.eq_4 nilOp.eq_1 nilOp.eq_2 nilOp.eq_3 consOp.eq_1 consOp.eq_2 binV.eq_1 binV.eq_2 binV.eq_3 binV.eq_4 binV.eq_5 binV.eq_6 binV.eq_7 binV.eq_8 binV.eq_9 binV.eq_10 binV.eq_11 binV.eq_12 binV.eq_13 binV.eq_14 eqC1.eq_1 eqC1.eq_2 eqCells.eq_1 eqCells.eq_2 eqCells.eq_3 aggOp.eq_1 aggOp.eq_2 binS.eq_1 binS.eq_2 binT.eq_1 binT.eq_2 binT.eq_3 binT.eq_4 binT.eq_5 binT.eq_6 binT.eq_7 binT.eq_8 binT.eq_9 unV.eq_1 unV.eq_2 unV.eq_3 unV.eq_4 strV.eq_1 strV.eq_2 isU8.eq_1 isU8.eq_2 strL.eq_1 strL.eq_2 isSl.eq_1 isSl.eq_2 isSl.eq_3 isSl.eq_4 convV.eq_1 convV.eq_2 convV.eq_3 convV.eq_4 fOff.eq_1 fOff.eq_2 fOff.fOff1.eq_1 fOff.fOff1.eq_2 fieldA.eq_1 fieldA.eq_2 fieldA.fieldA1.eq_1 fieldA.fieldA1.eq_2 fieldA.fieldA1.eq_3 fieldA.fieldA1.eq_4 kindOf.eq_1 kindOf.eq_2 sizeT.eq_1 sizeT.eq_2 idxC.eq_1 idxC.eq_2 idxD.eq_1 idxD.eq_2 idxRow.eq_1 idxRow.eq_2 indexA.eq_1 indexA.eq_2 indexA.eq_3 indexA.eq_4 indexA.eq_5 elemK.eq_1 elemK.eq_2 elemK.eq_3 indexAV.eq_1 indexAV.eq_2 indexV.eq_1 indexV.eq_2 oneB.eq_1 oneB.eq_2 indexS.eq_1 indexS.eq_2 indexK.eq_1 indexK.eq_2 indexK.eq_3 lo0.eq_1 lo0.eq_2 lenV.eq_1 lenV.eq_2 lenV.eq_3 lenV.eq_4 lenV.eq_5 cutV.eq_1 cutV.eq_2 cutV.eq_3 cutV.eq_4 cutV.eq_5 cut1.eq_1 cut1.eq_2 hiOf.eq_1 hiOf.eq_2 loOf.eq_1 loOf.eq_2 sliceV.eq_1 sliceV.eq_2 sliceV.eq_3 sameV.eq_1 sameV.eq_2 cutRow.eq_1 cutRow.eq_2 isCut.eq_1 isCut.eq_2 isCut.eq_3 slT.eq_1 srcOf.eq_1 srcOf.eq_2 srcOf.eq_3 srcOf.eq_4 srcOf.eq_5 srcOf.srcRow.eq_1 srcOf.srcRow.eq_2 sizedAll.eq_1 sizedAll.eq_2 appRow.eq_1 appRow.eq_2 appV.eq_1 appV.eq_2 appV.eq_3 app1.eq_1 app1.eq_2 copyTo.eq_1 copyTo.eq_2 copyV.eq_1 copyV.eq_2 copyV.copy1.eq_1 copyV.copy1.eq_2 copyV.copy1.eq_3 bytesT.eq_1 bytesT.eq_2 zeroT.eq_1 zeroT.eq_2 zeroT.zero1.eq_1 zeroT.zero1.eq_2 zeroT.zero2.eq_1 zeroT.zero2.eq_2 zeroT.zero2.eq_3 makeRow.eq_1 makeRow.eq_2 makeV.eq_1 makeV.eq_2 makeS.eq_1 makeS.eq_2 fillO.eq_1 fillO.eq_2 fillB.eq_1 fillB.eq_2 fillV.eq_1 fillV.eq_2 fillV.eq_3 places.eq_1 places.eq_2 places.eq_3 places.eq_4 buildV.eq_1 buildV.eq_2 arrAt.eq_1 arrAt.eq_2 isAggK.eq_1 isAggK.eq_2 isAggK.eq_3 sizeO.eq_1 sizeO.eq_2 inOrder.eq_1 inOrder.eq_2 rowOf.eq_1 rowOf.eq_2 buildRow.eq_1 buildRow.eq_2 argV.eq_1 argV.eq_2 argV.eq_3 argV.eq_4 argV.eq_5 argV.eq_6 argV.eq_7 argV.eq_8 argV.argR.eq_1 argV.argR.eq_2 argVs.eq_1 argVs.eq_2 argVs.join.eq_1 setAll.eq_1 setAll.eq_2 backR.eq_1 stampB.eq_1 stampB.stampB1.eq_1 stampB.stampB1.eq_2 stampB.stampB1.eq_3 backS.eq_1 backO.eq_1 backO.eq_2 chgOf.eq_1 chgOf.eq_2 backOld.eq_1 backOld.eq_2 backOld.eq_3 backNew.eq_1 backNew.eq_2 callB.eq_1 callB.callB1.eq_1 callB.callB1.eq_2 callR.eq_1 callR.eq_2 callI.eq_1 callI.eq_2 callH.eq_1 withCh.eq_1 withCh.eq_2 callA.eq_1 callV.eq_1 callV.eq_2 maxV.eq_1 maxV.eq_2 minV.eq_1 minV.eq_2 foldV.eq_1 foldV.eq_2 foldV.eq_3 lenE.eq_1 lenE.eq_2 elemT.eq_1 elemT.eq_2 small.eq_1 esize.eq_1 esize.eq_2 isSrc.eq_1 isSrc.eq_2 isSrc.eq_3 isIntK.eq_1 isIntK.eq_2 zeroL.eq_1 zeroL.eq_2 appZ1.eq_1 appZ1.eq_2 appZ.eq_1 appZ.eq_2 appT.eq_1 appT.eq_2 capV.eq_1 capV.eq_2 capT.eq_1 capT.eq_2 copyT.eq_1 copyT.eq_2 fieldP.eq_1 fieldP.eq_2 fieldV.eq_1 fieldV.eq_2 intsD1.eq_1 intsD1.eq_2 intsD.eq_1 intsD.eq_2 zeroA1.eq_1 zeroA1.eq_2 zeroA.eq_1 zeroA.eq_2 zeroAt.eq_1 zeroAt.eq_2 clearRow.eq_1 clearRow.eq_2 clearV.eq_1 clearV.eq_2 clearT.eq_1 clearT.eq_2 isLen.eq_1 isLen.eq_2 isLen.eq_3 isLen.eq_4 isLen.eq_5 lenRow.eq_1 lenRow.eq_2 lenH.eq_1 lenH.eq_2 lenH.eq_3 lenH.eq_4 lenH.eq_5 lenT.eq_1 lenT.eq_2 builtinV.eq_1 builtinV.eq_2 builtinV.eq_3 builtinV.eq_4 builtinV.eq_5 builtinV.eq_6 builtinV.eq_7 builtinV.eq_8 notNil.eq_1 notNil.eq_2 notNil.eq_3 notNil.eq_4 notNil.eq_5 pickV.eq_1 pickV.eq_2 extractV.eq_1 extractV.eq_2 boxV.eq_1 boxV.eq_2 boxV.boxV1.eq_1 boxV.boxV1.eq_2 allocV.eq_1 allocV.eq_2 splitFn.eq_1 sl3.eq_1 sl3.eq_2 sl3.eq_3 sl3.eq_4 sl3.eq_5 sl3.eq_6 sl3.eq_7 opv.eq_1 opv.eq_2 opv.eq_3 opv.eq_4 opv.eq_5 opv.eq_6 opv.eq_7 opv.eq_8 opv.eq_9 opv.eq_10 opv.eq_11 opv.eq_12 opv.eq_13 opv.eq_14 opv.eq_15 opv.eq_16 opv.eq_17 opv.eq_18 opv.eq_19 opv.eq_20 opv.eq_21 opv.eq_22 opv.eq_23 opv.eq_24 restrict.eq_1 restrict.eq_2 restrict.addM.eq_1 restrict.addM.eq_2 foot.eq_1 foot.eq_2 foot.eq_3 foot.eq_4 foot.eq_5 foot.eq_6 foot.eq_7 foot.eq_8 foot.eq_9 turned.eq_1 turned.eq_2 made.eq_1 made.eq_2 made.eq_3 made.made1.eq_1 made.made1.eq_2 put.eq_1 put.eq_2 nameB.eq_1 nameB.eq_2 nameB.nameB1.eq_1 nameB.nameB1.eq_2 opE.eq_1 opE.eq_2 opE.opE1.eq_1 opE.opE1.eq_2 opF.eq_1 opG.eq_1 op1.eq_1 guardB.eq_1 guardB.eq_2 guardB.eq_3 guardV.eq_1 guardV.eq_2 guardO.eq_1 guardO.eq_2 step1.eq_1 step1.eq_2 step1.eq_3 step.eq_1 evOps.eq_1 evOps.eq_2 evOps.next.eq_1 evOps.next.eq_2 evOps.addR.eq_1 evOps.addR.eq_2 quietR.eq_1 keepT.eq_1 keepT.eq_2 keepT1.eq_1 keepT1.eq_2 refsM.eq_1 refsM.eq_2 mapM'.eq_1 mapM'.eq_2 keepH.eq_1 keepH.eq_2 keepH.keepO.eq_1 keepH.keepO.eq_2 norm2.eq_1 norm1.eq_1 norm.eq_1 idOf.eq_1 idOf.eq_2 idOf.eq_3 idOf.eq_4 idOf.eq_5 idOf.eq_6 rnd.eq_1 rnd.eq_2 rnd.eq_3 rnd.eq_4 reg.eq_1 reg.eq_2 regD.eq_1 regD.eq_2 dropE.eq_1 dropE.eq_2 dropE.eq_3 inBlock.eq_1 inBlock.eq_2 inBlock.eq_3 inBlock.eq_4 boolV.eq_1 boolV.eq_2 evThen.eq_1 evThen.eq_2 evThen.eq_3 evThen.eq_4 evIf.eq_1 evIf.eq_2 evIf.eq_3 evC.eq_1 evC.eq_2 evC.eq_3 evC.eq_4 evC.eq_5 evC.eq_6 evC.eq_7 evC.eq_8 evC.eq_9 evC.eq_10 evC.eq_11 evC.eq_12 resV.eq_1 resV.eq_2 resVs.eq_1 resVs.eq_2 resVs.cons1.eq_1 resVs.cons1.eq_2 outV.eq_1 outV.eq_2 outV.eq_3 outV.outN.eq_1 outV.outN.eq_2 outVs.eq_1 outVs.eq_2 outVs.eq_3 szO.eq_1 szO.eq_2 szs.eq_1 szs.eq_2 tupV.eq_1 tupV.eq_2 retO.eq_1 retO.retO1.eq_1 retO.retO1.eq_2 retH.eq_1 retH.refsH.eq_1 retH.refsH.eq_2 retN.eq_1 ret.eq_1 ret.eq_2 endF.eq_1 endF.eq_2 endF.eq_3 keyed.eq_1 keyed.eq_2 ofValue.eq_1 ofValue.eq_2 ofValue.eq_3 ofValue.eq_4 ofValue.eq_5 ofValue.eq_6 ofValue.eq_7 nats.eq_1 nats.eq_2 posAt.eq_1 always.eq_1 notOld.eq_1 stay.eq_1
attribute [go_sem] List.map List.getElem?_cons_zero List.getElem?_cons_succ cond_true cond_false Bool.not_true Bool.not_false Option.getD_some Option.getD_none Option.map_some Option.map_none List.cons_append List.nil_append List.append_nil List.contains_cons List.contains_nil Bool.or_true Bool.or_false Bool.true_or Bool.false_or Bool.and_true Bool.and_false Bool.true_and Bool.false_and beq_self_eq_true Nat.add_zero Nat.zero_add List.drop_zero List.take_length List.length_cons List.length_nil List.take_succ_cons List.take_zero List.drop_succ_cons List.all_cons List.all_nil List.any_cons List.any_nil List.isEmpty_nil List.isEmpty_cons Option.toList List.range_zero List.flatMap if_true if_false decide_true decide_false eq_self and_self and_true true_and and_false false_and or_true true_or or_false false_or Int.natCast_nonneg Int.toNat_natCast not_true_eq_false not_false_eq_true List.size_toArray Array.size_empty List.getElem?_nil
end Go.Ev
