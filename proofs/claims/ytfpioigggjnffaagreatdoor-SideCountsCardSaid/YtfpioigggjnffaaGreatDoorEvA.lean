/- EvA. -/
import GoSem.Step
set_option linter.unnecessarySimpa false
set_option linter.unusedSimpArgs false
set_option linter.unusedVariables false
set_option autoImplicit false
namespace Go.Ev
inductive D where
 |bool (b:Bool)
 |int (k:IntKind) (n:Int)
 |str (s:List UInt8)
 |list (xs:List D)
 |agg (cs:List D)
inductive V where
 |d (x:D)
 |ptr (r off:Nat)
 |eptr (r st i j:Nat)
 |cp (cs:List D) (j:Nat)
 |row (r st off len:Nat)
 |agg (cs:List V)
 |tup (vs:List V)
 |fn (f:Fn) (first cap:List V)
 |nilp
 |nilfn
 |nilsl
 |undef
 |dead
inductive Obj where
 |cells (cs:List V)
 |row (sz:Nat) (xs:List D) (st:Nat) (fz chg:Bool)
abbrev Map (α:Type):=List (Nat×α)
def getM {α:Type}:Map α→Nat→Option α
 |[],_=>none
 |(k,a)::m,r=>bif k==r then some a else getM m r
def setM {α:Type}:Map α→Nat→α→Map α
 |[],r,a=>[(r,a)]
 |(k,b)::m,r,a=>bif r==k then(r,a)::m else bif decide (r<k) then(r,a)::(k,b)::m else(k,b)::setM m r a
def setT {α:Type}:Map α→Nat→α→Map α
 |[],r,a=>[(r,a)]
 |(k,b)::m,r,a=>bif r==k then(r,a)::m else bif decide (k<r) then(r,a)::(k,b)::m else(k,b)::setT m r a
structure St where
 tmps:Map V
 heap:Map Obj
inductive TK where
 |int (k:IntKind)|bool|str|slice (e:Nat)|ptr (e:Nat)|struct (fs:List (Nat×Nat))|arr (n e:Nat)|func|other
structure TI where
 size:Nat
 agg:Bool
 bytes:Nat
 zero:List V
 kind:TK
abbrev Res:=V×List Obj
abbrev Calling:=FuncId→List V→List Obj→Option Res
structure Ctx where
 P:Program
 call:Calling
 fuel:Nat
 keep:Nat→List Nat
 m:Nat
 glob:Nat→Option (List D)
 own:FuncId→Bool
 live:Nat→List Nat
def ofValue:Value→V
 | .bool b=> .d (.bool b)
 | .int k n=> .d (.int k n)
 | .string s=> .d (.str s.data.toList)
 | .slice none 0 0=> .nilsl
 | .pointer none=> .nilp
 | .nilFunc=> .nilfn
 |_=> .dead
def aggB:TypeDesc→Bool
 | .struct _=>true
 | .array _ _=>true
 |_=>false
def sizeAt (P:Program) (t:TypeId):Nat:=match P.info? t with
 |some i=>i.size
 |none=>0
def kindD (P:Program):TypeDesc→TK
 | .int k=> .int k
 | .bool=> .bool
 | .string=> .str
 | .slice e=> .slice e
 | .pointer e=> .ptr e
 | .struct fs=>bif fs.toList.all (fun f=>(P.info? f.type).isSome) then .struct (fs.toList.map (fun f=>(f.offset,sizeAt P f.type))) else .other
 | .array n e=> .arr n e
 | .func _ _ _=> .func
 |_=> .other
def isOne:Value→Bool
 | .agg _=>false
 | .tuple _=>false
 |_=>true
def tiOf (P:Program) (t:TypeId):Option TI:=
 match P.info? t,P.underlying t with
 |some i,some u=>
  match i.zero with
  |none=>none
  |some z=>bif z.cells.toList.all isOne&&z.cells.size==i.size then some {size:=i.size,agg:=aggB u,bytes:=i.bytes,zero:=z.cells.toList.map ofValue,kind:=kindD P u} else none
 |_,_=>none
def getT (m:Map V) (t:Nat):V:=match getM m t with
 |some v=>v
 |none=> .dead
def globV (cs:Option (List D)):V:=match cs with
 |some cs=> .cp cs 0
 |none=> .dead
def ev (c:Ctx) (s:St):Operand→V
 | .tmp t=>getT s.tmps t
 | .const v=>ofValue v
 | .func f=> .fn (.func f) [] []
 | .global g=>globV (c.glob g)
def evs (c:Ctx) (s:St):List Operand→List V
 |[]=>[]
 |x::xs=>ev c s x::evs c s xs
def opnds:Op→List Operand
 | .move x=>[x]
 | .assign x=>[x]
 | .box _ x=>[x]
 | .load _ x=>[x]
 | .nilCheck x=>[x]
 | .unOp _ _ x=>[x]
 | .convert _ _ x=>[x]
 | .makeInterface _ x=>[x]
 | .fieldAddr _ x _=>[x]
 | .field _ x _=>[x]
 | .extract x _=>[x]
 | .pick x a b=>[x,a,b]
 | .build _ ps=>ps.toList.map (·.2)
 | .buildSlice _ _ ps=>ps.toList.map (·.2)
 | .store _ a v=>[a,v]
 | .binOp _ _ a v _=>[a,v]
 | .makeSlice _ a v=>[a,v]
 | .indexAddr _ a v=>[a,v]
 | .index _ a v=>[a,v]
 | .makeFunc _ f b=>f.toList++b.toList
 | .slice _ x l h m=>x::(l.toList++(h.toList++m.toList))
 | .call k=>match k.callee with
   | .value f=>f::k.args.toList
   | .invoke r _=>r::k.args.toList
   | .builtin _=>k.args.toList
 |_=>[]
mutual
def refsV:V→List Nat
 | .ptr r _=>[r]
 | .eptr r _ _ _=>[r]
 | .row r _ _ _=>[r]
 | .agg cs=>refsL cs
 | .tup cs=>refsL cs
 | .fn _ a b=>refsL a++refsL b
 |_=>[]
def refsL:List V→List Nat
 |[]=>[]
 |v::vs=>refsV v++refsL vs
end
def refsO:Option Obj→List Nat
 |some (.cells cs)=>refsL cs
 |_=>[]
def reach (h:Map Obj):Nat→List Nat→List Nat→List Nat
 |0,_,seen=>seen
 |_+1,[],seen=>seen
 |n+1,r::todo,seen=>bif seen.contains r then reach h n todo seen else reach h n (refsO (getM h r)++todo) (seen++[r])
def renRow (off len:Nat):Option Nat→Option Nat→V
 |some r,some st=> .row r st off len
 |_,_=> .dead
def renE (i j:Nat):Option Nat→Option Nat→V
 |some r,some st=> .eptr r st i j
 |_,_=> .dead
def renP (off:Nat):Option Nat→V
 |some r=> .ptr r off
 |none=> .dead
mutual
def renV (fr:Nat→Option Nat) (fs:Nat→Nat→Option Nat):V→V
 | .d x=> .d x
 | .ptr r off=>renP off (fr r)
 | .eptr r st i j=>renE i j (fr r) (fs r st)
 | .cp cs j=> .cp cs j
 | .row r st off len=>renRow off len (fr r) (fs r st)
 | .agg cs=> .agg (renL fr fs cs)
 | .tup vs=> .tup (renL fr fs vs)
 | .fn f a b=> .fn f (renL fr fs a) (renL fr fs b)
 | .nilp=> .nilp
 | .nilfn=> .nilfn
 | .nilsl=> .nilsl
 | .undef=> .undef
 | .dead=> .dead
def renL (fr:Nat→Option Nat) (fs:Nat→Nat→Option Nat):List V→List V
 |[]=>[]
 |v::vs=>renV fr fs v::renL fr fs vs
end
def nats:Nat→Nat→List Nat
 |_,0=>[]
 |k,n+1=>k::nats (k+1) n
def posIn:List Nat→Nat→Nat→Option Nat
 |[],_,_=>none
 |k::ks,r,i=>bif k==r then some i else posIn ks r (i+1)
def posAt (rs:List Nat) (r:Nat):Option Nat:=posIn rs r 0
def always (_:Nat):Bool:=true
def notOld (m r:Nat):Bool:= !decide (r<m)
def stampOf:Option Obj→Option Nat
 |some (.row _ _ st _ _)=>some st
 |_=>none
def good (a:Option Nat) (st:Nat):Option Nat:=match a with
 |some b=>if st=b then some 0 else none
 |none=>none
def stamp0 (h:Map Obj) (r st:Nat):Option Nat:=good (stampOf (getM h r)) st
def renO (fr:Nat→Option Nat) (h:Map Obj) (new:Bool):Obj→Obj
 | .cells cs=> .cells (renL fr (stamp0 h) cs)
 | .row sz xs _ fz chg=> .row sz xs 0 fz (bif new then false else chg)
def takeObjs (h:Map Obj) (fr:Nat→Option Nat) (new:Nat→Bool):List Nat→Option (List Obj)
 |[]=>some []
 |r::rs=>takeObj h fr new r rs (getM h r) (takeObjs h fr new rs)
where takeObj (h:Map Obj) (fr:Nat→Option Nat) (new:Nat→Bool) (r:Nat) (_:List Nat):Option Obj→Option (List Obj)→Option (List Obj)
 |some o,some os=>some (renO fr h (new r) o::os)
 |_,_=>none
def allD:List V→Option (List D)
 |[]=>some []
 |v::vs=>allD1 v (allD vs)
where allD1:V→Option (List D)→Option (List D)
 | .d x,some xs=>some (x::xs)
 |_,_=>none
def mkAgg1 (cs:List V):Option (List D)→V
 |some xs=> .d (.agg xs)
 |none=> .agg cs
def mkAgg (cs:List V):V:=mkAgg1 cs (allD cs)
def cellsD:D→List D
 | .agg cs=>cs
 |x=>[x]
def lenIs {α:Type}:List α→Nat→Bool
 |[],0=>true
 |_::xs,n+1=>lenIs xs n
 |_,_=>false
def takeN {α:Type}:List α→Nat→Option (List α)
 |_,0=>some []
 |[],_+1=>none
 |x::xs,n+1=>(takeN xs n).map (x:: ·)
def okLen {α:Type} (n:Nat) (cs:List α):Option (List α):=bif lenIs cs n then some cs else none
def cellsOk (n:Nat):V→Option (List V)
 | .d (.agg cs)=>okLen n (cs.map .d)
 | .d (.bool b)=>okLen n [.d (.bool b)]
 | .d (.int k a)=>okLen n [.d (.int k a)]
 | .d (.str s)=>okLen n [.d (.str s)]
 | .d (.list xs)=>okLen n [.d (.list xs)]
 | .ptr r off=>okLen n [.ptr r off]
 | .eptr r st i j=>okLen n [.eptr r st i j]
 | .cp cs j=>okLen n [.cp cs j]
 | .row r st off len=>okLen n [.row r st off len]
 | .agg cs=>okLen n cs
 | .fn f a b=>okLen n [.fn f a b]
 | .nilp=>okLen n [.nilp]
 | .nilfn=>okLen n [.nilfn]
 | .nilsl=>okLen n [.nilsl]
 | .tup _=>none
 | .undef=>none
 | .dead=>none
def cellsOkD (n:Nat):D→Option (List D)
 | .agg cs=>okLen n cs
 | .bool b=>okLen n [.bool b]
 | .int k a=>okLen n [.int k a]
 | .str s=>okLen n [.str s]
 | .list xs=>okLen n [.list xs]
def putL {α:Type}:List α→Nat→List α→Option (List α)
 |cs,0,[]=>some cs
 |cs,0,v::vs=>match cs with
  |[]=>none
  |_::cs'=>(putL cs' 0 vs).map (v:: ·)
 |[],_+1,_=>none
 |c::cs,n+1,vs=>(putL cs n vs).map (c:: ·)
abbrev Eff:=V×Map Obj×List Obj
def ret1:Option V→Option Eff
 |some v=>some (v,[],[])
 |none=>none
def key (d g:Nat):Nat:=(d+1)*64+g
def aggV:Option (List V)→Option V
 |some cs=>some (mkAgg cs)
 |none=>none
def partV (t:TI) (cs:List V) (off:Nat):Option V:=bif t.agg then aggV (takeN (cs.drop off) t.size) else cs[off]?
def aggD:Option (List D)→Option V
 |some cs=>some (.d (.agg cs))
 |none=>none
def oneD:Option D→Option V
 |some x=>some (.d x)
 |none=>none
def partD (t:TI) (cs:List D) (off:Nat):Option V:=bif t.agg then aggD (takeN (cs.drop off) t.size) else oneD cs[off]?
def ldO (t:TI) (off:Nat):Option Obj→Option V
 |some (.cells cs)=>partV t cs off
 |_=>none
def ldX (t:TI) (j sz:Nat):Option D→Option V
 |some x=>ldX1 t j (cellsOkD sz x)
 |none=>none
where ldX1 (t:TI) (j:Nat):Option (List D)→Option V
 |some cs=>partD t cs j
 |none=>none
def ldE (t:TI) (st i j:Nat):Option Obj→Option V
 |some (.row sz xs st' _ _)=>if st=st' then ldX t j sz xs[i]? else none
 |_=>none
def ldV (h:Map Obj):Option TI→V→Option V
 |some t, .ptr r off=>ldO t off (getM h r)
 |some t, .eptr r st i j=>ldE t st i j (getM h r)
 |some t, .cp cs j=>partD t cs j
 |_,_=>none
def subL (xs:List D) (off len:Nat):List D:=(xs.drop off).take len
def toRow (r st off len:Nat):Option Obj→Option (D×Map Obj)
 |some (.row sz xs st' fz chg)=>if st=st' then some (.list (subL xs off len),bif fz then[] else[(r, .row sz xs st' true chg)]) else none
 |_=>none
def aggOf:Option (List D×Map Obj)→Option (D×Map Obj)
 |some (xs,ch)=>some (.agg xs,ch)
 |none=>none
def both:Option (D×Map Obj)→Option (List D×Map Obj)→Option (List D×Map Obj)
 |some (x,ch),some (xs,ch')=>some (x::xs,ch++ch')
 |_,_=>none
mutual
def toD (h:Map Obj):V→Option (D×Map Obj)
 | .d x=>some (x,[])
 | .row r st off len=>toRow r st off len (getM h r)
 | .nilsl=>some (.list [],[])
 | .agg cs=>aggOf (toDs h cs)
 |_=>none
def toDs (h:Map Obj):List V→Option (List D×Map Obj)
 |[]=>some ([],[])
 |v::vs=>both (toD h v) (toDs h vs)
end
def stO (r off:Nat):Option Obj→Option (List V)→Option Eff
 |some (.cells cs),some vs=>stO1 r (putL cs off vs)
 |_,_=>none
where stO1 (r:Nat):Option (List V)→Option Eff
 |some cs=>some (.undef,[(r, .cells cs)],[])
 |none=>none
def rebuild:D→List D→Option D
 | .agg _,cs=>some (.agg cs)
 |_,[x]=>some x
 |_,_=>none
def stE4 (y:D):Option (List D)→Option D
 |some cs=>rebuild y cs
 |none=>none
def stE3 (j:Nat) (cs:List D) (y:D):Option (List D)→Option D
 |some old=>stE4 y (putL old j cs)
 |none=>none
def stE2 (j sz:Nat):Option D→Option (List D)→Option D
 |some y,some cs=>stE3 j cs y (cellsOkD sz y)
 |_,_=>none
def stE1 (r sz:Nat) (xs:List D) (st:Nat) (chg:Bool) (i:Nat) (ch:Map Obj):Option Obj→Option D→Option Eff
 |none,some y=>some (.undef,ch++[(r, .row sz (xs.set i y) st false chg)],[])
 |_,_=>none
def stE (t:TI) (r st i j:Nat):Option Obj→Option (D×Map Obj)→Option Eff
 |some (.row sz xs st' fz chg),some (x,ch)=>if st=st' then bif fz then none else stE1 r sz xs st chg i ch (getM ch r) (stE2 j sz xs[i]? (cellsOkD t.size x)) else none
 |_,_=>none
def stV (h:Map Obj) (v:V):Option TI→V→Option Eff
 |some t, .ptr r off=>stO r off (getM h r) (cellsOk t.size v)
 |some t, .eptr r st i j=>stE t r st i j (getM h r) (toD h v)
 |_,_=>none
def bits2 (op:BinOp) (k:IntKind) (x y:Int):Int:=
 let a:=BitVec.ofInt k.bits x
 let b:=BitVec.ofInt k.bits y
 match op with
 | .and=>k.wrap (a&&&b).toNat
 | .or=>k.wrap (a|||b).toNat
 | .xor=>k.wrap (a^^^b).toNat
 |_=>k.wrap (a&&& ~~~b).toNat
def shl (k:IntKind) (x y:Int):Int:=k.wrap (x*2^(min y.toNat k.bits))
def shr (k:IntKind) (x y:Int):Int:=x.fdiv (2^(min y.toNat k.bits))
def intOp (k:IntKind) (x y:Int):BinOp→Option V
 | .add=>some (.d (.int k (k.wrap (x+y))))
 | .sub=>some (.d (.int k (k.wrap (x-y))))
 | .mul=>some (.d (.int k (k.wrap (x*y))))
 | .quo=>if y=0 then none else some (.d (.int k (k.wrap (x.tdiv y))))
 | .rem=>if y=0 then none else some (.d (.int k (x.tmod y)))
 | .and=>some (.d (.int k (bits2 .and k x y)))
 | .or=>some (.d (.int k (bits2 .or k x y)))
 | .xor=>some (.d (.int k (bits2 .xor k x y)))
 | .andNot=>some (.d (.int k (bits2 .andNot k x y)))
 | .eql=>some (.d (.bool (decide (x=y))))
 | .neq=>some (.d (.bool (!decide (x=y))))
 | .lss=>some (.d (.bool (decide (x<y))))
 | .leq=>some (.d (.bool (decide (x≤y))))
 | .gtr=>some (.d (.bool (decide (y<x))))
 | .geq=>some (.d (.bool (decide (y≤x))))
 |_=>none
def shOp (k:IntKind) (x y:Int):BinOp→Option V
 | .shl=>if y<0 then none else some (.d (.int k (shl k x y)))
 | .shr=>if y<0 then none else some (.d (.int k (shr k x y)))
 |_=>none
def isShift:BinOp→Bool
 | .shl=>true
 | .shr=>true
 |_=>false
def sameKind (j k:IntKind):Bool:=decide (j=k)
def boolOp (x y:Bool):BinOp→Option V
 | .eql=>some (.d (.bool (x==y)))
 | .neq=>some (.d (.bool (x !=y)))
 |_=>none
def strOp (x y:List UInt8):BinOp→Option V
 | .eql=>some (.d (.bool (decide (x=y))))
 | .neq=>some (.d (.bool (!decide (x=y))))
 | .add=>if x.length+y.length≤1099511627776 then some (.d (.str (x++y))) else none
 |_=>none
def nilOp (b:Bool):BinOp→Option V
 | .eql=>some (.d (.bool b))
 | .neq=>some (.d (.bool (!b)))
 |_=>none
def consOp (op:BinOp):List D→Option V
 |_::_=>nilOp false op
 |[]=>none
def binV (op:BinOp):TK→V→V→Option V
 |_, .d (.int j x), .d (.int k y)=>bif isShift op then shOp j x y op else bif sameKind j k then intOp j x y op else none
 | .bool, .d (.bool x), .d (.bool y)=>boolOp x y op
 |_, .d (.str x), .d (.str y)=>strOp x y op
 | .ptr _, .nilp, .nilp=>nilOp true op
 | .ptr _, .ptr _ _, .nilp=>nilOp false op
 | .ptr _, .eptr _ _ _ _, .nilp=>nilOp false op
 | .ptr _, .cp _ _, .nilp=>nilOp false op
 | .ptr _, .nilp, .ptr _ _=>nilOp false op
 | .ptr _, .nilp, .cp _ _=>nilOp false op
 | .slice _, .nilsl, .nilsl=>nilOp true op
 | .slice _, .d (.list xs), .nilsl=>consOp op xs
 | .func, .nilfn, .nilfn=>nilOp true op
 | .func, .fn _ _ _, .nilfn=>nilOp false op
 |_,_,_=>none
def eqC1:D→D→Option Bool→Option Bool
 | .int j a, .int k b,some r=>bif sameKind j k then some (decide (a=b)&&r) else none
 |_,_,_=>none
def eqCells:List D→List D→Option Bool
 |[],[]=>some true
 |x::xs,y::ys=>eqC1 x y (eqCells xs ys)
 |_,_=>none
def eqTy (P:Program) (t:TypeId):Bool:=match P.underlying t with
 |some (.int _)=>true
 |_=>false
def eqFs (P:Program):Nat→List Field→Bool
 |_,[]=>true
 |o,f::fs=> !(f.name== "_")&&(f.offset==o&&(eqTy P f.type&&eqFs P (o+1) fs))
def eqOk (P:Program) (t:TypeId) (n:Nat):Bool:=match P.underlying t with
 |some (.struct fs)=> !P.stoodInHeld t&&(!P.eqGuardType P.depth t&&(lenIs fs.toList n&&eqFs P 0 fs.toList))
 |_=>false
def aggOp (op:BinOp):Option Bool→Option V
 |some b=>nilOp b op
 |none=>none
def binS (P:Program) (op:BinOp) (t:TypeId):V→V→Option V
 | .d (.agg xs), .d (.agg ys)=>bif eqOk P t xs.length then aggOp op (eqCells xs ys) else none
 |_,_=>none
def binT (P:Program) (op:BinOp) (t:TypeId) (x y:V):TK→Option V
 | .struct _=>binS P op t x y
 | .int k=>binV op (.int k) x y
 | .bool=>binV op .bool x y
 | .str=>binV op .str x y
 | .slice e=>binV op (.slice e) x y
 | .ptr e=>binV op (.ptr e) x y
 | .arr n e=>binV op (.arr n e) x y
 | .func=>binV op .func x y
 | .other=>binV op .other x y
def unV:UnOp→V→Option V
 | .not, .d (.bool b)=>some (.d (.bool (!b)))
 | .neg, .d (.int k n)=>some (.d (.int k (k.wrap (0-n))))
 | .xor, .d (.int k n)=>some (.d (.int k (bits2 .xor k (if k.signed then-1 else k.max) n)))
 |_,_=>none
def byteD (b:UInt8):D:= .int .u8 b.toNat
def strOf:List D→Option (List UInt8)
 |[]=>some []
 |x::xs=>strOf1 x (strOf xs)
where strOf1:D→Option (List UInt8)→Option (List UInt8)
 | .int .u8 n,some s=>some (UInt8.ofNat n.toNat::s)
 |_,_=>none
def strV:Option (List UInt8)→Option V
 |some s=>some (.d (.str s))
 |none=>none
def room (n:Nat):Prop:=n≤1099511627776
instance (n:Nat):Decidable (room n):=inferInstanceAs (Decidable (n≤_))
def fOff (f:Nat):TK→Option Nat
 | .struct fs=>fOff1 fs[f]?
 |_=>none
where fOff1:Option (Nat×Nat)→Option Nat
 |some (o,_+1)=>some o
 |_=>none
def fieldA (x:V):Option Nat→Option V
 |some o=>fieldA1 o x
 |none=>none
where fieldA1 (o:Nat):V→Option V
 | .ptr r off=>some (.ptr r (off+o))
 | .cp cs j=>some (.cp cs (j+o))
 | .eptr r st i j=>some (.eptr r st i (j+o))
 |_=>none
def kindOf:Option TI→TK
 |some t=>t.kind
 |none=> .other
def sizeT:Option TI→Option Nat
 |some t=>match t.size with
  |0=>none
  |n+1=>some (n+1)
 |none=>none
def idx (xs:List D) (n:Int):Option D:=if 0≤n then xs[n.toNat]? else none
def idxC:Option (List D)→Option V
 |some cs=>some (.cp cs 0)
 |none=>none
def idxD (sz:Nat):Option D→Option V
 |some x=>idxC (cellsOkD sz x)
 |none=>none
def idxRow (r st off len:Nat) (n:Int) (sz:Nat):Option Obj→Option V
 |some (.row sz' _ st' _ _)=>if st=st' then bif sz==sz' then if 0≤n∧n<len then some (.eptr r st (off+n.toNat) 0) else none else none else none
 |_=>none
def indexA (h:Map Obj) (n:Int):TK→Option Nat→V→Option V
 | .slice _,some sz, .d (.list xs)=>idxD sz (idx xs n)
 | .slice _,some sz, .row r st off len=>idxRow r st off len n sz (getM h r)
 | .arr len _,some sz, .ptr r off=>if 0≤n∧n<len then some (.ptr r (off+n.toNat*sz)) else none
 | .arr len _,some sz, .cp cs j=>if 0≤n∧n<len then some (.cp cs (j+n.toNat*sz)) else none
 |_,_,_=>none
def elemK:TK→Nat
 | .slice e=>e
 | .arr _ e=>e
 |_=>0
def indexAV (P:Program) (h:Map Obj) (k:TK) (x:V):V→Option V
 | .d (.int _ n)=>indexA h n k (sizeT (tiOf P (elemK k))) x
 |_=>none
def indexV (len:Nat) (n:Int):Option TI→V→Option V
 |some t, .d (.agg cs)=>if 0≤n∧n<len then partD t cs (n.toNat*t.size) else none
 |_,_=>none
def oneB:Option UInt8→Option V
 |some b=>some (.d (byteD b))
 |none=>none
def indexS (n:Int):V→Option V
 | .d (.str s)=>if 0≤n then oneB s[n.toNat]? else none
 |_=>none
def indexK (P:Program) (x:V):TK→V→Option V
 | .arr len e, .d (.int _ n)=>indexV len n (tiOf P e) x
 | .str, .d (.int _ n)=>indexS n x
 |_,_=>none
def sizedAll (sz:Nat):List D→Bool
 |[]=>true
 |x::xs=>(match cellsOkD sz x with|some _=>true|none=>false)&&sizedAll sz xs
def lo0:V→Option Int
 | .d (.int _ n)=>some n
 |_=>none
def lenV:V→Option Nat
 | .d (.list xs)=>some xs.length
 | .d (.str s)=>some s.length
 | .row _ _ _ n=>some n
 | .nilsl=>some 0
 |_=>none
def cutRow (r st off:Nat) (l h:Int) (sz:Nat):Option Obj→Option Eff
 |some (.row sz' xs st' _ _)=>if st=st' then bif sz'==sz||(sz'==0&&lenIs xs 0) then some (.row r st (off+l.toNat) (h-l).toNat,[],[]) else none else none
 |_=>none
def cutV (d:Nat) (m:Map Obj) (l h:Int) (full:Bool) (n:Nat):Option Nat→V→Option Eff
 |some sz, .d (.list xs)=>if 0≤l∧l≤h∧h≤n then bif sizedAll sz xs then
   bif full then some (.row (key d 0) 0 0 (h-l).toNat,[],[.row sz (subL xs l.toNat (h-l).toNat) 0 true false])
   else some (.d (.list (subL xs l.toNat (h-l).toNat)),[],[]) else none else none
 |none, .d (.str s)=>if 0≤l∧l≤h∧h≤n then bif full then none else some (.d (.str ((s.drop l.toNat).take (h-l).toNat)),[],[]) else none
 |some sz, .row r st off _=>if 0≤l∧l≤h∧h≤n then bif full then none else cutRow r st off l h sz (getM m r) else none
 |some _, .nilsl=>if l=0∧h=0 then some (.nilsl,[],[]) else none
 |_,_=>none
def cut1 (d:Nat) (m:Map Obj) (x:V) (full:Bool) (sz:Option Nat):Option Int→Option Int→Option Nat→Option Eff
 |some l,some h,some n=>cutV d m l h full n sz x
 |_,_,_=>none
def hiOf (x:V):Option V→Option Int
 |some v=>lo0 v
 |none=>match lenV x with
  |some n=>some n
  |none=>none
def loOf:Option V→Option Int
 |some v=>lo0 v
 |none=>some 0
def sameV:V→V→Bool
 | .d (.int _ a), .d (.int _ b)=>decide (a=b)
 |_,_=>false
def sliceV (d:Nat) (m:Map Obj) (x:V) (sz:Option Nat):Option V→Option V→Option V→Option Eff
 |l,h,none=>cut1 d m x false sz (loOf l) (hiOf x h) (lenV x)
 |l,some h,some k=>bif sameV h k then cut1 d m x true sz (loOf l) (lo0 h) (lenV x) else none
 |_,none,some _=>none
def isCut:TK→Option Nat→Bool
 | .slice _,some _=>true
 | .str,none=>true
 |_,_=>false
def srcOf (h:Map Obj):V→Option (List D)
 | .d (.list xs)=>some xs
 | .d (.str s)=>some (s.map byteD)
 | .nilsl=>some []
 | .row r st off len=>srcRow off len st (getM h r)
 |_=>none
where srcRow (off len st:Nat):Option Obj→Option (List D)
 |some (.row _ xs st' _ _)=>if st=st' then some (subL xs off len) else none
 |_=>none
def isU8:TK→Bool
 | .int .u8=>true
 |_=>false
def strL:Option (List D)→Option V
 |some xs=>strV (strOf xs)
 |none=>none
def isSl:V→Bool
 | .d (.list _)=>true
 | .row _ _ _ _=>true
 | .nilsl=>true
 |_=>false
def convV (h:Map Obj):TK→TK→TK→V→Option V
 | .int _, .int k,_, .d (.int _ n)=>some (.d (.int k (k.wrap n)))
 | .str, .str,_, .d (.str s)=>some (.d (.str s))
 | .slice _, .str,e,x=>bif isU8 e&&isSl x then strL (srcOf h x) else none
 |_,_,_,_=>none
def appRow (r st off len sz:Nat) (ys:List D):Option Obj→Option Eff
 |some (.row sz' xs st' fz _)=>if st=st' then bif sz'==sz||(sz'==0&&lenIs xs 0) then
   if room (len+ys.length) then bif !fz||decide (xs.length≤off+len) then
    some (.row r (st+1) 0 (len+ys.length),[(r, .row sz (subL xs off len++ys) (st+1) fz true)],[]) else none else none else none else none
 |_=>none
def appV (d sz:Nat) (h:Map Obj) (ys:List D):V→Option Eff
 | .nilsl=>if room ys.length then some (.row (key d 0) 0 0 ys.length,[],[.row sz ys 0 false false]) else none
 | .row r st off len=>appRow r st off len sz ys (getM h r)
 |_=>none
def app1 (d:Nat) (h:Map Obj) (s:V):Option Nat→Option (List D)→Option Eff
 |some sz,some ys=>bif sizedAll sz ys then appV d sz h ys s else none
 |_,_=>none
def copyTo (r off:Nat) (n:Nat) (ys:List D) (sz:Nat):Option Obj→Nat→Option Eff
 |some (.row sz' xs st' fz chg),st=>if st=st' then bif fz then none else bif sz'==sz then
   some (.d (.int .i64 n),[(r, .row sz (xs.take off++(ys.take n++xs.drop (off+n))) st fz chg)],[]) else none else none
 |_,_=>none
def copyV (h:Map Obj) (s:V):Option Nat→Option (List D)→Option Eff
 |some sz,some ys=>bif sizedAll sz ys then copy1 h sz ys s else none
 |_,_=>none
where copy1 (h:Map Obj) (sz:Nat) (ys:List D):V→Option Eff
 | .row r st off len=>copyTo r off (min ys.length len) ys sz (getM h r) st
 | .nilsl=>some (.d (.int .i64 0),[],[])
 |_=>none
def makeRow (d:Nat) (n:Int) (bytes:Nat):Option Nat→Option D→Option Eff
 |some sz,some z=>if 0≤n∧n.toNat*(bytes+1)≤1099511627776 then some (.row (key d 0) 0 0 n.toNat,[],[.row sz (List.replicate n.toNat z) 0 false false]) else none
 |_,_=>none
def bytesT:Option TI→Nat
 |some t=>t.bytes
 |none=>1
def zeroT:Option TI→Option D
 |some ⟨_,agg,_,zs,_⟩=>zero1 agg (toDs [] zs)
 |none=>none
where
 zero1 (agg:Bool):Option (List D×Map Obj)→Option D
  |some (ds,_)=>zero2 agg ds
  |none=>none
 zero2:Bool→List D→Option D
  |true,ds=>some (.agg ds)
  |false,[x]=>some x
  |false,_=>none
def makeV (d:Nat) (t:Option TI):V→V→Option Eff
 | .d (.int _ n), .d (.int _ c)=>if n=c then makeRow d n (bytesT t) (sizeT t) (zeroT t) else none
 |_,_=>none
def makeS (d:Nat) (t:Option TI) (n k:V):TK→Option Eff
 | .slice _=>makeV d t n k
 |_=>none
def fillO (o:Nat) (cs:List V):Option (List V)→Option (List V)
 |some us=>putL cs o us
 |none=>none
def fillB (k:List V→Option (List V)):Option (List V)→Option (List V)
 |some cs=>k cs
 |none=>none
def fillV:List (Option (Nat×Nat))→List V→List V→Option (List V)
 |[],[],cs=>some cs
 |some (o,n)::ps,v::vs,cs=>fillB (fillV ps vs) (fillO o cs (cellsOk n v))
 |_,_,_=>none
def arrAt (i:Nat):Option Nat→Option (Nat×Nat)
 |some n=>some (i*n,n)
 |none=>none
def places (n:Option Nat):TK→List Nat→List (Option (Nat×Nat))
 |_,[]=>[]
 | .struct fs,i::is=>fs[i]? ::places n (.struct fs) is
 | .arr l e,i::is=>arrAt i n::places n (.arr l e) is
 |k,_::is=>none::places n k is
def isAggK:TK→Option Nat→Bool
 | .struct _,_=>true
 | .arr _ _,some _=>true
 |_,_=>false
def buildV (t:Option TI) (esz:Option Nat) (is:List Nat) (vs:List V):Option V:=match t with
 |some t=>bif isAggK t.kind esz then aggV (fillV (places esz t.kind is) vs t.zero) else none
 |none=>none
def sizeO:Option TI→Option Nat
 |some t=>some t.size
 |none=>none
def inOrder:Nat→List Nat→Bool
 |_,[]=>true
 |n,i::is=>i==n&&inOrder (n+1) is
def rowOf (d sz:Nat):Option (List D×Map Obj)→Option Eff
 |some (xs,ch)=>bif sizedAll sz xs then if xs.length*sz≤16777216 then some (.row (key d 0) 0 0 xs.length,ch,[.row sz xs 0 false false]) else none else none
 |none=>none
def buildRow (d n:Nat) (h:Map Obj) (is:List Nat) (vs:List V):Option Nat→Option Eff
 |some sz=>bif inOrder 0 is&&lenIs is n then rowOf d sz (toDs h vs) else none
 |none=>none
def argV (own:Bool) (h:Map Obj):V→V×Map Obj
 | .ptr r off=>(.ptr r off,[])
 | .eptr r st i j=>(.eptr r st i j,[])
 | .fn f a b=>(.fn f a b,[])
 | .row r st off len=>bif own then(.row r st off len,[]) else argR (.row r st off len) (toRow r st off len (getM h r))
 | .d x=>(.d x,[])
 | .nilsl=>bif own then(.nilsl,[]) else(.d (.list []),[])
 | .agg cs=>argR (.agg cs) (aggOf (toDs h cs))
 |v=>(v,[])
where argR (v:V):Option (D×Map Obj)→V×Map Obj
 |some (x,ch)=>(.d x,ch)
 |none=>(v,[])
def argVs (own:Bool) (h:Map Obj):List V→List V×Map Obj
 |[]=>([],[])
 |v::vs=>join (argV own h v) (argVs own h vs)
where join:V×Map Obj→List V×Map Obj→List V×Map Obj
 |(v,ch),(vs,ch')=>(v::vs,ch++ch')
def setAll (h:Map Obj):Map Obj→Map Obj
 |[]=>h
 |(k,o)::ch=>setAll (setM h k o) ch
def backR (rs:List Nat) (m d:Nat) (r:Nat):Option Nat:=match rs[r]? with
 |some k=>some k
 |none=>some (key d (r-m))
def stampB (h:Map Obj) (rs:List Nat) (objs:List Obj) (r:Nat):Nat:=match rs[r]? with
 |some k=>stampB1 (stampOf (getM h k)) objs[r]?
 |none=>0
where stampB1:Option Nat→Option Obj→Nat
 |some st,some (.row _ _ _ _ true)=>st+1
 |some st,_=>st
 |none,_=>0
def backS (h:Map Obj) (rs:List Nat) (objs:List Obj) (r st:Nat):Option Nat:=if st=0 then some (stampB h rs objs r) else none
def backO (fr:Nat→Option Nat) (fs:Nat→Nat→Option Nat) (st:Nat) (chg:Bool):Obj→Obj
 | .cells cs=> .cells (renL fr fs cs)
 | .row sz xs _ fz c=> .row sz xs st fz (c||chg)
def chgOf:Option Obj→Bool
 |some (.row _ _ _ _ c)=>c
 |_=>false
def backOld (h:Map Obj) (fr:Nat→Option Nat) (fs:Nat→Nat→Option Nat) (all:List Nat) (objs:List Obj):Nat→List Nat→List Obj→Option (Map Obj)
 |_,[],_=>some []
 |i,k::ks,o::os=>(backOld h fr fs all objs (i+1) ks os).map ((k,backO fr fs (stampB h all objs i) (chgOf (getM h k)) o):: ·)
 |_,_,_=>none
def backNew (fr:Nat→Option Nat) (fs:Nat→Nat→Option Nat):List Obj→List Obj
 |[]=>[]
 |o::os=>backO fr fs 0 false o::backNew fr fs os
def callB (h:Map Obj) (rs:List Nat) (d:Nat) (v:V) (objs:List Obj):Option Eff:=
 callB1 (renV (backR rs rs.length d) (backS h rs objs) v) (backOld h (backR rs rs.length d) (backS h rs objs) rs objs 0 rs objs) (backNew (backR rs rs.length d) (backS h rs objs) (objs.drop rs.length))
where callB1 (v:V):Option (Map Obj)→List Obj→Option Eff
 |some ch,news=>some (v,ch,news)
 |none,_=>none
def callR (h:Map Obj) (rs:List Nat) (d:Nat):Option Res→Option Eff
 |some (v,objs)=>callB h rs d v objs
 |none=>none
def callI (c:Ctx) (f:FuncId) (h:Map Obj) (rs:List Nat) (d:Nat) (args:List V):Option (List Obj)→Option Eff
 |some objs=>callR h rs d (c.call f (renL (posAt rs) (stamp0 h) args) objs)
 |none=>none
def callH (c:Ctx) (f:FuncId) (d:Nat) (h:Map Obj) (args:List V) (rs:List Nat):Option Eff:=
 callI c f h rs d args (takeObjs h (posAt rs) always rs)
def withCh (ch:Map Obj):Option Eff→Option Eff
 |some (v,ch',news)=>some (v,ch++ch',news)
 |none=>none
def callA (c:Ctx) (f:FuncId) (d:Nat) (h:Map Obj):List V×Map Obj→Option Eff
 |(args,ch)=>withCh ch (callH c f d (setAll h ch) args (reach (setAll h ch) 64 (refsL args) []))
def callV (c:Ctx) (d:Nat) (h:Map Obj) (args:List V):V→Option Eff
 | .fn (.func f) first cap=>callA c f d h (argVs (c.own f) h (first++(args++cap)))
 |_=>none
def maxV:V→V→Option V
 | .d (.int k x), .d (.int _ y)=>some (.d (.int k (max x y)))
 |_,_=>none
def minV:V→V→Option V
 | .d (.int k x), .d (.int _ y)=>some (.d (.int k (min x y)))
 |_,_=>none
def foldV (f:V→V→Option V):Option V→List V→Option V
 |v,[]=>v
 |some v,u::us=>foldV f (f v u) us
 |none,_=>none
def lenE:Option Nat→Option V
 |some n=>some (.d (.int .i64 n))
 |none=>none
def elemT:TK→Option Nat
 | .slice e=>some e
 |_=>none
def small (n:Nat) (k:Option Nat):Option Nat:=bif decide (n≤128) then k else none
def esize (P:Program):Option Nat→Option Nat
 |some e=>small (bytesT (tiOf P e)) (sizeT (tiOf P e))
 |none=>none
def isSrc:TK→Bool
 | .slice _=>true
 | .str=>true
 |_=>false
def isIntK:TK→Bool
 | .int _=>true
 |_=>false
def zeroL:Option TI→List V
 |some t=>t.zero
 |none=>[]
def appZ1 (d:Nat) (n:Int) (sz:Nat):List V→Option Eff
 |[.d (.int k z)]=>if 0≤n∧n≤1099511627776 then some (.row (key d 0) 0 0 n.toNat,[],[.row sz (List.replicate n.toNat (.int k z)) 0 false false]) else none
 |_=>none
def appZ (d:Nat) (t:Option TI):V→V→Option Nat→Option Eff
 | .nilsl, .d (.int _ n),some sz=>appZ1 d n sz (zeroL t)
 |_,_,_=>none
def appT (c:Ctx) (d:Nat) (h:Map Obj) (s x:V):List TypeId→Option Eff
 |[t,u]=>bif isSrc (kindOf (tiOf c.P u)) then app1 d h s (esize c.P (elemT (kindOf (tiOf c.P t)))) (srcOf h x) else
    bif isIntK (kindOf (tiOf c.P u)) then appZ d (tiOf c.P (elemK (kindOf (tiOf c.P t)))) s x (esize c.P (elemT (kindOf (tiOf c.P t)))) else none
 |_=>none
def capV:TK→V→Option V
 | .slice _, .nilsl=>some (.d (.int .i64 0))
 |_,_=>none
def capT (c:Ctx) (x:V):List TypeId→Option V
 |t::_=>capV (kindOf (tiOf c.P t)) x
 |[]=>none
def copyT (c:Ctx) (h:Map Obj) (s x:V):List TypeId→Option Eff
 |t::_=>copyV h s (esize c.P (elemT (kindOf (tiOf c.P t)))) (srcOf h x)
 |[]=>none
def intsD1:V→Option (List D)→Option (List D)
 | .d (.int k n),some ds=>some (.int k n::ds)
 |_,_=>none
def intsD:List V→Option (List D)
 |[]=>some []
 |v::vs=>intsD1 v (intsD vs)
def zeroA1:Bool→Option (List D)→Option D
 |true,some ds=>some (.agg ds)
 |_,_=>none
def zeroA:Option TI→Option D
 |some t=>zeroA1 t.agg (intsD t.zero)
 |none=>none
def zeroAt (P:Program):Option Nat→Option D
 |some e=>zeroA (tiOf P e)
 |none=>none
def clearRow (r st off len sz:Nat) (z:D):Option Obj→Option Eff
 |some (.row sz' xs st' fz chg)=>if st=st' then bif fz then none else bif sz'==sz then
   some (.tup [],[(r, .row sz (xs.take off++(List.replicate len z++xs.drop (off+len))) st fz chg)],[]) else none else none
 |_=>none
def clearV (h:Map Obj):V→Option Nat→Option D→Option Eff
 | .row r st off len,some sz,some z=>clearRow r st off len sz z (getM h r)
 |_,_,_=>none
def clearT (c:Ctx) (h:Map Obj) (x:V):List TypeId→Option Eff
 |t::_=>clearV h x (esize c.P (elemT (kindOf (tiOf c.P t)))) (zeroAt c.P (elemT (kindOf (tiOf c.P t))))
 |[]=>none
def isLen:TK→V→Bool
 | .slice _, .d (.list _)=>true
 | .slice _, .row _ _ _ _=>true
 | .slice _, .nilsl=>true
 | .str, .d (.str _)=>true
 |_,_=>false
def lenRow (st n:Nat):Option Obj→Option Nat
 |some (.row _ _ st' _ _)=>if st=st' then some n else none
 |_=>none
def lenH (h:Map Obj):V→Option Nat
 | .row r st _ n=>lenRow st n (getM h r)
 | .d (.list xs)=>some xs.length
 | .d (.str s)=>some s.length
 | .nilsl=>some 0
 |_=>none
def lenT (c:Ctx) (h:Map Obj) (x:V):List TypeId→Option V
 |t::_=>bif isLen (kindOf (tiOf c.P t)) x then lenE (lenH h x) else none
 |[]=>none
def builtinV (c:Ctx) (d:Nat) (h:Map Obj) (ts:List TypeId):Builtin→List V→Option Eff
 | .len,[x]=>ret1 (lenT c h x ts)
 | .cap,[x]=>ret1 (capT c x ts)
 | .append,[s,x]=>appT c d h s x ts
 | .copy,[s,x]=>copyT c h s x ts
 | .clear,[x]=>clearT c h x ts
 | .max,x::xs=>ret1 (foldV maxV (some x) xs)
 | .min,x::xs=>ret1 (foldV minV (some x) xs)
 |_,_=>none
def notNil:V→Option V
 | .ptr r off=>some (.ptr r off)
 | .eptr r st i j=>some (.eptr r st i j)
 | .cp cs j=>some (.cp cs j)
 | .fn (.func f) a b=>some (.fn (.func f) a b)
 |_=>none
def pickV (a b:V):V→Option V
 | .d (.bool t)=>some (bif t then a else b)
 |_=>none
def extractV (i:Nat):V→Option V
 | .tup vs=>vs[i]?
 |_=>none
def boxV (d:Nat):Option TI→V→Option Eff
 |some t,v=>boxV1 d (cellsOk t.size v)
 |none,_=>none
where boxV1 (d:Nat):Option (List V)→Option Eff
 |some cs=>some (.ptr (key d 0) 0,[],[.cells cs])
 |none=>none
def allocV (d:Nat):Option TI→Option Eff
 |some t=>some (.ptr (key d 0) 0,[],[.cells t.zero])
 |none=>none
def splitFn (n:Nat) (f:Fn) (vs:List V):V:= .fn f (vs.take n) (vs.drop n)
def sl3 (d:Nat) (m:Map Obj) (sz:Option Nat):Option Operand→Option Operand→Option Operand→List V→Option Eff
 |none,none,none,[x]=>sliceV d m x sz none none none
 |some _,none,none,[x,l]=>sliceV d m x sz (some l) none none
 |none,some _,none,[x,h]=>sliceV d m x sz none (some h) none
 |some _,some _,none,[x,l,h]=>sliceV d m x sz (some l) (some h) none
 |none,some _,some _,[x,h,k]=>sliceV d m x sz none (some h) (some k)
 |some _,some _,some _,[x,l,h,k]=>sliceV d m x sz (some l) (some h) (some k)
 |_,_,_,_=>none
def slT (d:Nat) (m:Map Obj) (k:TK) (sz:Option Nat) (l h x:Option Operand) (vs:List V):Option Eff:=bif isCut k sz then sl3 d m sz l h x vs else none
def fieldT1:Option Field→Option (TypeId×Nat)
 |some f=>some (f.type,f.offset)
 |none=>none
def fieldT2 (f:Nat):Option TypeDesc→Option (TypeId×Nat)
 |some (.struct fs)=>fieldT1 fs[f]?
 |_=>none
def fieldT (P:Program) (t:TypeId) (f:Nat):Option (TypeId×Nat):=fieldT2 f (P.underlying t)
def fieldP (off:Nat):Option TI→V→Option V
 |some T, .d (.agg cs)=>partD T cs off
 |_,_=>none
def fieldV (P:Program) (x:V):Option (TypeId×Nat)→Option V
 |some (e,off)=>fieldP off (tiOf P e) x
 |none=>none
def opv (c:Ctx) (d:Nat) (h:Map Obj):Op→List V→Option Eff
 | .move _,[v]=>some (v,[],[])
 | .assign _,[v]=>some (v,[],[])
 | .pick _ _ _,[t,a,b]=>ret1 (pickV a b t)
 | .alloc t,[]=>allocV d (tiOf c.P t)
 | .box t _,[v]=>boxV d (tiOf c.P t) v
 | .build t ps,vs=>ret1 (buildV (tiOf c.P t) (sizeO (tiOf c.P (elemK (kindOf (tiOf c.P t))))) (ps.toList.map (·.1)) vs)
 | .buildSlice t n ps,vs=>buildRow d n h (ps.toList.map (·.1)) vs (esize c.P (elemT (kindOf (tiOf c.P t))))
 | .load t _,[a]=>ret1 (ldV h (tiOf c.P t) a)
 | .store t _ _,[a,v]=>stV h v (tiOf c.P t) a
 | .nilCheck _,[x]=>ret1 (notNil x)
 | .binOp op t _ _ _,[x,y]=>ret1 (binT c.P op t x y (kindOf (tiOf c.P t)))
 | .unOp op _ _,[x]=>ret1 (unV op x)
 | .convert s t _,[x]=>ret1 (convV h (kindOf (tiOf c.P s)) (kindOf (tiOf c.P t)) (kindOf (tiOf c.P (elemK (kindOf (tiOf c.P s))))) x)
 | .makeFunc f a _,vs=>some (splitFn a.size f vs,[],[])
 | .makeSlice t _ _,[n,k]=>makeS d (tiOf c.P (elemK (kindOf (tiOf c.P t)))) n k (kindOf (tiOf c.P t))
 | .slice t _ l hi m,vs=>slT d h (kindOf (tiOf c.P t)) (esize c.P (elemT (kindOf (tiOf c.P t)))) l hi m vs
 | .fieldAddr t _ f,[x]=>ret1 (fieldA x (fOff f (kindOf (tiOf c.P t))))
 | .indexAddr t _ _,[x,i]=>ret1 (indexAV c.P h (kindOf (tiOf c.P t)) x i)
 | .index t _ _,[x,i]=>ret1 (indexK c.P x (kindOf (tiOf c.P t)) i)
 | .extract _ i,[x]=>ret1 (extractV i x)
 | .field t _ f,[x]=>ret1 (fieldV c.P x (fieldT c.P t f))
 | .call ⟨.builtin b,_,ts⟩,vs=>builtinV c d h ts.toList b vs
 | .call ⟨.value _,_,_⟩,f::args=>callV c d h args f
 |_,_=>none
def restrict (h:Map Obj):List Nat→Map Obj
 |[]=>[]
 |r::rs=>addM r (getM h r) (restrict h rs)
where addM (r:Nat):Option Obj→Map Obj→Map Obj
 |some o,m=>setM m r o
 |none,m=>m
def foot (h:Map Obj):Op→List V→List Nat
 | .load _ _,vs=>refsL vs
 | .store _ _ _,vs=>refsL vs
 | .buildSlice _ _ _,vs=>refsL vs
 | .convert _ _ _,vs=>refsL vs
 | .indexAddr _ _ _,vs=>refsL vs
 | .slice _ _ _ _ _,vs=>refsL vs
 | .call ⟨.builtin _,_,_⟩,vs=>refsL vs
 | .call ⟨.value _,_,_⟩,vs=>reach h 64 (refsL vs) []
 |_,_=>[]
def turned (rs:List Nat):Map Obj→Map Obj→Option (Map Obj)
 |h,[]=>some h
 |h,(k,o)::ch=>bif rs.contains k then turned rs (setM h k o) ch else none
def made.made1 (d g:Nat) (h:Map Obj) (o:Obj) (next:Nat→Option (Map Obj)→Option (Map Obj)):Option Obj→Option (Map Obj)
 |none=>next (g+1) (some (setM h (key d g) o))
 |some _=>none
def made (d:Nat):Nat→Option (Map Obj)→List Obj→Option (Map Obj)
 |_,h,[]=>h
 |g,some h,o::os=>bif decide (g<64) then made.made1 d g h o (fun g' h'=>made d g' h' os) (getM h (key d g)) else none
 |_,none,_::_=>none
def put (tm:Map V) (dst:Option Tmp) (v:V):Map V:=match dst with
 |some t=>setT tm t v
 |none=>tm
structure Rec where
 foot:List Nat
 wrote:List Nat
 news:Nat
def nameB:Bool→Map Obj→Nat→Nat
 |false,_,d=>d
 |true,h,d=>nameB1 d (getM h (key d 0))
where nameB1 (d:Nat):Option Obj→Nat
 |none=>d
 |some _=>d+3000
def opE (s:St) (b:Nat) (dst:Option Tmp) (rs:List Nat):Option Eff→Option (St×Rec)
 |some (v,ch,news)=>opE1 s.tmps dst v ⟨rs,ch.map (·.1),news.length⟩ (made b 0 (turned rs s.heap ch) news)
 |none=>none
where opE1 (tm:Map V) (dst:Option Tmp) (v:V) (r:Rec):Option (Map Obj)→Option (St×Rec)
 |some h=>some (⟨put tm dst v,h⟩,r)
 |none=>none
def opF (c:Ctx) (b:Nat) (o:Oper) (s:St) (vs:List V) (rs:List Nat):Option (St×Rec):=
 opE s b o.dst rs (opv c b (restrict s.heap rs) o.op vs)
def opG (c:Ctx) (al:Bool) (o:Oper) (s:St) (vs:List V):Option (St×Rec):=opF c (nameB al s.heap (o.dst.getD 0)) o s vs (foot s.heap o.op vs)
def op1 (c:Ctx) (al:Bool) (o:Oper) (s:St):Option (St×Rec):=opG c al o s (evs c s (opnds o.op))
def guardB (w:Bool):V→Option Bool
 | .d (.bool b)=>some (b==w)
 | .undef=>some false
 |_=>none
def guardV (s:St) (w:Bool):Option (Option Tmp)→Option Bool
 |some (some t)=>guardB w (getT s.tmps t)
 |_=>none
def guardO (ops:List Oper) (s:St):Option (Nat×Bool)→Option Bool
 |none=>some true
 |some (j,w)=>guardV s w ((ops[j]?).map (·.dst))
def step1 (c:Ctx) (al:Bool) (o:Oper) (s:St):Option Bool→Option (St×Rec)
 |some true=>op1 c al o s
 |some false=>some (⟨put s.tmps o.dst .undef,s.heap⟩,⟨[],[],0⟩)
 |none=>none
def step (c:Ctx) (al:Bool) (ops:List Oper) (o:Oper) (s:St):Option (St×Rec):=step1 c al o s (guardO ops s o.guard)
def evOps.addR (r:Rec):Option (St×List Rec)→Option (St×List Rec)
 |some (s,rs)=>some (s,r::rs)
 |none=>none
def evOps.next (rest:St→Option (St×List Rec)):Option (St×Rec)→Option (St×List Rec)
 |some (s,r)=>evOps.addR r (rest s)
 |none=>none
def evOps (c:Ctx) (al:Bool) (ops:List Oper):List Oper→St→Option (St×List Rec)
 |[],s=>some (s,[])
 |o::os,s=>evOps.next (evOps c al ops os) (step c al ops o s)
def meets (a b:List Nat):Bool:=a.any fun x=>b.contains x
def free2 (da db:Nat) (a b:Rec):Bool:=
 !meets a.wrote b.foot&& !meets b.wrote a.foot&&(List.range b.news).all (fun g=> !a.foot.contains (key db g))&&(List.range a.news).all (fun g=> !b.foot.contains (key da g))
def quietR (rs:List Rec):Bool:=rs.all fun r=>r.wrote.isEmpty&&r.news==0
def befO (acc:List Nat):List Edge→Nat
 |[]=>0
 |e::es=>bif Region.binds .any e then 2^e.on|||(acc.getD e.on 0|||befO acc es) else befO acc es
def befs (acc:List Nat):List Oper→List Nat
 |[]=>[]
 |o::os=>befO acc o.after.toList::befs (acc++[befO acc o.after.toList]) os
def freeWith (i:Nat) (oi:Oper) (ri:Rec):List Oper→List Nat→List Rec→Bool
 |o::os,b::bs,r::rs=>(b.testBit i||free2 (oi.dst.getD 0) (o.dst.getD 0) ri r)&&freeWith i oi ri os bs rs
 |[],_,[]=>true
 |_,_,_=>false
def freeAll (i:Nat):List Oper→List Nat→List Rec→Bool
 |o::os,_::bs,r::rs=>freeWith i o r os bs rs&&freeAll (i+1) os bs rs
 |[],_,[]=>true
 |_,_,_=>false
def isFree (ops:Array Oper) (rs:List Rec):Bool:=freeAll 0 ops.toList (befs [] ops.toList) rs
inductive Ex where
 |normal|exit (i:Nat)|ret
def keepT1 (k:Nat):Option V→Map V→Map V
 |some v,m=>(k,v)::m
 |none,m=>m
def keepT:List Nat→Map V→Map V
 |[],_=>[]
 |k::ks,m=>keepT1 k (getM m k) (keepT ks m)
def refsM:Map V→List Nat
 |[]=>[]
 |(_,v)::m=>refsV v++refsM m
def mapM' (fr:Nat→Option Nat) (fs:Nat→Nat→Option Nat):Map V→Map V
 |[]=>[]
 |(k,v)::m=>(k,renV fr fs v)::mapM' fr fs m
def stay (rs:List Nat) (r:Nat):Option Nat:=bif rs.contains r then some r else none
def keepH (h:Map Obj) (rs:List Nat):Map Obj→Map Obj
 |[]=>[]
 |(k,o)::m=>bif rs.contains k then(k,keepO h rs o)::keepH h rs m else keepH h rs m
where keepO (h:Map Obj) (rs:List Nat):Obj→Obj
 | .cells cs=> .cells (renL (stay rs) (stamp0 h) cs)
 | .row sz xs _ fz chg=> .row sz xs 0 fz chg
def norm2 (tm:Map V) (h:Map Obj) (rs:List Nat):St:=⟨mapM' (stay rs) (stamp0 h) tm,keepH h rs h⟩
def norm1 (m:Nat) (h:Map Obj) (tm:Map V):St:=norm2 tm h (reach h 64 (refsM tm++nats 0 m) [])
def idOf:Code→Nat
 | .region i _ _=>i
 | .seq a _=>idOf a
 | .block _ b=>idOf b
 | .loop b=>idOf b
 | .scope b=>idOf b
 |_=>0
def norm (c:Ctx) (k:Nat) (s:St):St:=norm1 c.m s.heap (keepT (c.keep k) s.tmps)
def rnd (c:Ctx) (k:Nat):Option (Ex×St)→Option (Ex×St)
 |some (.normal,s)=>some (.normal,norm c (3*k) s)
 |some (.exit i,s)=>some (.exit i,norm c (3*k+1) s)
 |some (.ret,s)=>some (.ret,norm c (3*k+2) s)
 |none=>none
def loopN.loopN1 (next:St→Option (Ex×St)):Option (Ex×St)→Option (Ex×St)
 |some (.normal,s)=>next s
 |some (.exit i,s)=>some (.exit i,s)
 |some (.ret,s)=>some (.ret,s)
 |none=>none
def loopN (c:Ctx) (k:Nat) (body:St→Option (Ex×St)):Nat→St→Option (Ex×St)
 |0,_=>none
 |n+1,s=>loopN.loopN1 (loopN c k body n) (rnd c k (body s))
def reg (s:Option (St×List Rec)):Option (Ex×St):=match s with
 |some (s,_)=>some (.normal,s)
 |none=>none
def regD (ops:Array Oper):Option (St×List Rec)→Option (Ex×St)
 |some (s,rs)=>bif quietR rs||isFree ops rs then some (.normal,s) else none
 |none=>none
def dropE:List Nat→Option (Ex×St)→Option (Ex×St)
 |[],r=>r
 |k::ks,some (x,s)=>some (x,⟨keepT (k::ks) s.tmps,s.heap⟩)
 |_::_,none=>none
def inBlock (i:Nat):Option (Ex×St)→Option (Ex×St)
 |some (.exit j,s)=>bif j==i then some (.normal,s) else some (.exit j,s)
 |some (.normal,s)=>some (.normal,s)
 |some (.ret,s)=>some (.ret,s)
 |none=>none
def boolV:V→Option Bool
 | .d (.bool b)=>some b
 |_=>none
def evThen (k:St→Option (Ex×St)):Option (Ex×St)→Option (Ex×St)
 |some (.normal,s)=>k s
 |some (.exit i,s)=>some (.exit i,s)
 |some (.ret,s)=>some (.ret,s)
 |none=>none
def evIf (a b:St→Option (Ex×St)) (s:St):Option Bool→Option (Ex×St)
 |some true=>a s
 |some false=>b s
 |none=>none
def evC (c:Ctx):Code→St→Option (Ex×St)
 | .skip,s=>some (.normal,s)
 | .region i ops false,s=>dropE (c.live i) (reg (evOps c true ops.toList ops.toList s))
 | .region i ops true,s=>dropE (c.live i) (regD ops (evOps c false ops.toList ops.toList s))
 | .seq a b,s=>evThen (evC c b) (evC c a s)
 | .cond x a b,s=>evIf (evC c a) (evC c b) s (boolV (ev c s x))
 | .block i b,s=>inBlock i (evC c b s)
 | .loop b,s=>loopN c (idOf b) (evC c b) c.fuel (norm c (3*idOf b) s)
 | .exit i,s=>some (.exit i,s)
 | .label _,s=>some (.normal,s)
 | .scope b,s=>evC c b s
 | .ret,s=>some (.ret,s)
 |_,_=>none
def resV (P:Program) (s:St):ResultVar→Option V
 | .tmp t=>some (getT s.tmps t)
 | .cell a t=>ldV s.heap (tiOf P t) (getT s.tmps a)
def resVs (P:Program) (s:St):List ResultVar→Option (List V)
 |[]=>some []
 |r::rs=>cons1 (resV P s r) (resVs P s rs)
where cons1:Option V→Option (List V)→Option (List V)
 |some v,some vs=>some (v::vs)
 |_,_=>none
def outV (o:Bool) (h:Map Obj) (d z:Nat):V→V×Map Obj
 | .agg cs=>bif o then(.agg cs,[]) else argV.argR (.agg cs) (aggOf (toDs h cs))
 | .nilsl=>outN d z (getM h (key d 0))
 |v=>(v,[])
where outN (d z:Nat):Option Obj→V×Map Obj
 |none=>(.row (key d 0) 0 0 0,[(key d 0, .row z [] 0 false false)])
 |some _=>(.dead,[])
def outVs (o:Bool) (h:Map Obj):Nat→List Nat→List V→List V×Map Obj
 |_,_,[]=>([],[])
 |d,[],v::vs=>argVs.join (outV o h d 0 v) (outVs o h (d+1) [] vs)
 |d,z::zs,v::vs=>argVs.join (outV o h d z v) (outVs o h (d+1) zs vs)
def szO:Option Nat→Nat
 |some n=>n
 |none=>0
def szs (P:Program):List TypeId→List Nat
 |[]=>[]
 |t::ts=>szO (esize P (elemT (kindOf (tiOf P t))))::szs P ts
def tupV:List V→V
 |[v]=>v
 |vs=> .tup vs
def retO (h:Map Obj) (v:V) (m:Nat) (rs:List Nat):Option Res:=
 retO1 (renV (posAt rs) (stamp0 h) v) (takeObjs h (posAt rs) (notOld m) rs)
where retO1 (v:V):Option (List Obj)→Option Res
 |some os=>some (v,os)
 |none=>none
def retH (h:Map Obj) (m:Nat) (vs:List V):Option Res:=retO h (tupV vs) m (reach h 64 (refsH h (nats 0 m)++refsL vs) (nats 0 m))
where refsH (h:Map Obj):List Nat→List Nat
 |[]=>[]
 |r::rs=>refsO (getM h r)++refsH h rs
def retN (h:Map Obj) (m:Nat):List V×Map Obj→Option Res
 |(vs,ch)=>retH (setAll h ch) m vs
def ret (o:Bool) (s:St) (zs:List Nat) (m:Nat):Option (List V)→Option Res
 |some vs=>retN s.heap m (outVs o s.heap 4000 zs vs)
 |none=>none
def endF (o:Bool) (P:Program) (ts:List TypeId) (rs:List ResultVar) (m:Nat):Option (Ex×St)→Option Res
 |some (.normal,s)=>ret o s (szs P ts) m (resVs P s rs)
 |some (.ret,s)=>ret o s (szs P ts) m (resVs P s rs)
 |_=>none
def keyed {α:Type}:Nat→List α→Map α
 |_,[]=>[]
 |n,a::as=>(n,a)::keyed (n+1) as
structure Cfg where
 P:Program
 fuel:Nat
 keep:FuncId→Nat→List Nat
 glob:Nat→Option (List D)
 own:FuncId→Bool
 ext:FuncId→Option (List V→List Obj→Option Res)
 live:FuncId→Nat→List Nat
def evB (g:Cfg) (call:Calling) (f:FuncId) (args:List V) (objs:List Obj):Option Func→Option Res
 |some ⟨_,_,_,_,rts,_,_,res,some body,_,_,_,_,_,_,_⟩=>endF (g.own f) g.P rts.toList res.toList objs.length (evC ⟨g.P,call,g.fuel,g.keep f,objs.length,g.glob,g.own,g.live f⟩ body ⟨keyed 0 args,keyed 0 objs⟩)
 |_=>none
def evX (g:Cfg) (call:Calling) (f:FuncId) (args:List V) (objs:List Obj):Option (List V→List Obj→Option Res)→Option Res
 |some x=>x args objs
 |none=>evB g call f args objs g.P.funcs[f]?
def evF (g:Cfg):Nat→Calling
 |0,_,_,_=>none
 |n+1,f,args,objs=>evX g (evF g n) f args objs (g.ext f)
end Go.Ev
