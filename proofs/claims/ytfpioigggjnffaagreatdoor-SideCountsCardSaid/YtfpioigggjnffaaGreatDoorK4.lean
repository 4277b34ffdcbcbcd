/- K4, L4. -/
import Derived.Test.YtfpioigggjnffaaGreatDoorL3
set_option linter.unnecessarySimpa false
set_option linter.unusedSimpArgs false
set_option linter.unusedVariables false
set_option autoImplicit false
namespace Go.Proofs.YtfpioigggjnffaaGreatDoor.E
open Go.Ev
theorem uleb_num {v:Int} (h:Num v) (m:List Int):rdU (uleb v++m)= .ok (uleb v)∧val (uleb v)=v:=rdU_uleb h.1 (by have:=h.2;omega) m
theorem drop_left {α:Type} (a b:List α):(a++b).drop a.length=b:=by simp
theorem rdL_flat (ls:List Int) (h: ∀x∈ls,Num x) (m:List Int):rdL ls.length (ls.flatMap uleb++m)= .ok (ls,(ls.flatMap uleb).length):=by
 induction ls with
 |nil=>rfl
 |cons c l ih=>
  have hc:=uleb_num (h c (by simp)) (l.flatMap uleb++m)
  rw[List.flatMap_cons,List.append_assoc,List.length_cons,rdL,hc.1]
  dsimp only
  rw[drop_left,ih (fun x hx=>h x (List.mem_cons_of_mem _ hx)),hc.2]
  simp
theorem Num_val {m ds:List Int} (hb:Bs m) (h:rdU m= .ok ds):Num (val ds):=⟨val_nonneg ds,by have:=rdU_lt hb h;omega⟩
theorem uleb_le {m ds:List Int} (h:rdU m= .ok ds):(uleb (val ds)).length≤ds.length:=by
 obtain⟨h1,h2,_,_,_⟩:=scan_ok (rdU_scan h)
 exact uleb_least ds 10 h1 (by omega)
theorem rdL_ok {n:Nat}: ∀{m ls:List Int} {c:Nat},Bs m→rdL n m= .ok (ls,c)→ls.length=n∧(∀x∈ls,Num x)∧(ls.flatMap uleb).length≤c∧c≤m.length:=by
 induction n with
 |zero=>
  intro m ls c _ h
  injection h with h
  injection h with h1 h2
  subst h1
  subst h2
  exact⟨rfl,fun _ h=>absurd h (by simp),Nat.le_refl _,Nat.zero_le _⟩
 |succ n ih=>
  intro m ls c hb h
  rw[rdL] at h
  split at h
  ·cases h
  ·rename_i ds h1
   split at h
   ·cases h
   ·rename_i l' c' h2
    injection h with h
    injection h with h3 h4
    subst h3
    subst h4
    obtain⟨i1,i2,i3,i4⟩:=ih (hb.drop _) h2
    rw[List.length_drop] at i4
    have:=rdU_len h1
    have:=uleb_le h1
    refine⟨by simp[i1], ?_,by rw[List.flatMap_cons,List.length_append];omega,by omega⟩
    intro x hx
    rcases List.mem_cons.1 hx with rfl|hx
    ·exact Num_val hb h1
    ·exact i2 x hx
theorem s32_in {c:Int} (h0:0≤c) (h1:c≤4294967295):inS false (s32 c)∧s32 c%4294967296=c:=by
 unfold inS s32
 simp only[Bool.false_eq_true,if_false]
 split<;>omega
theorem s64_in {c:Int} (h0:0≤c) (h1:c<18446744073709551616):inS true (s64 c)∧s64 c%18446744073709551616=c:=by
 unfold inS s64
 simp only[if_true]
 split<;>omega
theorem s32_back {v:Int} (h:inS false v):s32 (v%4294967296)=v:=by
 unfold inS at h
 simp only[Bool.false_eq_true,if_false] at h
 unfold s32
 split<;>omega
theorem s64_back {v:Int} (h:inS true v):s64 (v%18446744073709551616)=v:=by
 unfold inS at h
 simp only[if_true] at h
 unfold s64
 split<;>omega
theorem decT_tl {i:TInstr} (h:San i) (hc:Cok i) (m:List Int):decT i.op (tl i++m)= .ok (i,(tl i).length):=by
 obtain⟨op,a,b,c,ls⟩:=i
 obtain⟨h0,h1,h2,h3,h4,h5,h6,h7,h8,h9,h10⟩:=h
 dsimp only[Cok] at*
 unfold decT tl
 rcases kd_in op with e|e|e|e|e|e|e|e|e|e<;>simp only[e,Int.reduceEq,if_true,if_false]
 ·exact absurd e h0
 ·obtain⟨rfl,rfl,rfl⟩:=h4 (.inl e)
  obtain rfl:=h3 (by omega)
  rfl
 ·obtain⟨rfl,rfl,h51⟩:=h5 e
  obtain rfl:=h3 (by omega)
  rcases h51 with rfl|rfl|rfl<;>rfl
 ·obtain⟨rfl,rfl⟩:=h6 (.inl e)
  obtain rfl:=h3 (by omega)
  rw[(uleb_num h1 m).1]
  dsimp only
  rw[(uleb_num h1 m).2]
 ·obtain⟨rfl,rfl,h71,h72⟩:=h7 e
  have hn:Num (ls.length:Int):=⟨by omega,by omega⟩
  have h73:=uleb_num hn ((ls.flatMap uleb++uleb a)++m)
  rw[List.append_assoc,h73.1]
  dsimp only
  rw[h73.2,if_pos (by omega),drop_left,Int.toNat_natCast,List.append_assoc,rdL_flat ls h72]
  dsimp only
  rw[drop_left,(uleb_num h1 m).1]
  dsimp only
  rw[(uleb_num h1 m).2]
  simp[Nat.add_assoc]
 ·obtain⟨rfl,rfl⟩:=h6 (.inr e)
  obtain rfl:=h3 (by omega)
  rw[List.append_assoc,(uleb_num h1 _).1]
  dsimp only
  rw[drop_left,(uleb_num h1 []).2]
  simp
 ·obtain rfl:=h8 e
  obtain rfl:=h3 (by omega)
  rw[List.append_assoc,(uleb_num h1 _).1]
  dsimp only
  rw[drop_left,(uleb_num h2 _).1,(uleb_num h1 []).2]
  dsimp only
  rw[(uleb_num h2 []).2]
  simp
 ·obtain⟨rfl,rfl,rfl⟩:=h4 (.inr e)
  obtain rfl:=h3 (by omega)
  rfl
 ·obtain⟨rfl,rfl,h91⟩:=h9 e
  obtain rfl:=h3 (by omega)
  obtain⟨i1,i2⟩:=s32_in hc.1 h91
  rw[(rdS_sleb i1 m).1]
  dsimp only
  rw[(rdS_sleb i1 m).2,i2]
 ·obtain⟨rfl,rfl⟩:=h10 e
  obtain rfl:=h3 (by omega)
  obtain⟨i1,i2⟩:=s64_in hc.1 hc.2
  rw[(rdS_sleb i1 m).1]
  dsimp only
  rw[(rdS_sleb i1 m).2,i2]
theorem dec_enc {i:TInstr} (h:San i) (hc:Cok i) (m:List Int):dec (enc i++m)= .ok (i,(enc i).length):=by
 unfold enc
 rw[List.cons_append,dec,decT_tl h hc m]
 rfl
theorem decT_ok {op:Int} {m:List Int} (hb:Bs m) {i:TInstr} {n:Nat} (h:decT op m= .ok (i,n)):San i∧Cok i∧i.op=op∧(tl i).length≤n∧n≤m.length:=by
 have z:Num 0:=by decide
 unfold decT at h
 rcases kd_in op with e|e|e|e|e|e|e|e|e|e<;>simp only[e,Int.reduceEq,if_true,if_false] at h
 ·cases h
 ·injection h with h
  injection h with h h'
  subst h
  subst h'
  exact⟨by simp[San,e,z],by simp[Cok],rfl,by simp[tl,e],by omega⟩
 ·split at h
  ·cases h
  ·split at h
   ·injection h with h
    injection h with h h'
    subst h
    subst h'
    exact⟨by simp[San,e,z],by simp[Cok],rfl,by simp[tl,e],by simp⟩
   ·split at h
    ·rename_i c _ _ h1
     injection h with h
     injection h with h h'
     subst h
     subst h'
     have:Num c:=by unfold Num;omega
     exact⟨by simp[San,e,z,this,h1],by simp[Cok],rfl,by simp[tl,e],by simp⟩
    ·cases h
 ·split at h
  ·cases h
  ·rename_i ds h1
   injection h with h
   injection h with h h'
   subst h
   subst h'
   exact⟨by simp[San,e,z,Num_val hb h1],by simp[Cok],rfl,by simpa[tl,e] using uleb_le h1,rdU_len h1⟩
 ·split at h
  ·cases h
  ·rename_i ds h1
   split at h
   ·rename_i h2
    split at h
    ·cases h
    ·rename_i ls c h3
     split at h
     ·cases h
     ·rename_i d2 h4
      injection h with h
      injection h with h h'
      subst h
      subst h'
      have hv0:=val_nonneg ds
      obtain⟨i1,i2,i3,i4⟩:=rdL_ok (hb.drop _) h3
      have h5:=Num_val ((hb.drop _).drop _) h4
      have h6:=uleb_le h1
      have h7:=uleb_le h4
      have h8:=rdU_len h1
      have h9:=rdU_len h4
      rw[List.length_drop] at i4
      rw[List.length_drop,List.length_drop] at h9
      refine⟨by simp[San,e,z,h5];exact⟨by omega,i2⟩,by simp[Cok],rfl, ?_,by omega⟩
      simp only[tl,e,Int.reduceEq,if_true,if_false]
      rw[i1,Int.toNat_of_nonneg hv0,List.length_append,List.length_append]
      omega
   ·cases h
 ·split at h
  ·cases h
  ·rename_i ds h1
   split at h
   ·cases h
   ·rename_i c l h2
    split at h
    ·injection h with h
     injection h with h h'
     subst h
     subst h'
     have h3:=congrArg List.length h2
     rw[List.length_drop] at h3
     simp only[List.length_cons] at h3
     exact⟨by simp[San,e,z,Num_val hb h1],by simp[Cok],rfl,by simpa[tl,e] using uleb_le h1,by omega⟩
    ·cases h
 ·split at h
  ·cases h
  ·rename_i ds h1
   split at h
   ·cases h
   ·rename_i d2 h2
    injection h with h
    injection h with h h'
    subst h
    subst h'
    have h3:=uleb_le h1
    have h4:=uleb_le h2
    have h5:=rdU_len h1
    have h6:=rdU_len h2
    rw[List.length_drop] at h6
    exact⟨by simp[San,e,z,Num_val hb h1,Num_val (hb.drop _) h2],by simp[Cok],rfl,by simp[tl,e];omega,by omega⟩
 ·split at h
  ·cases h
  ·split at h
   ·injection h with h
    injection h with h h'
    subst h
    subst h'
    exact⟨by simp[San,e,z],by simp[Cok],rfl,by simp[tl,e],by simp⟩
   ·cases h
 ·split at h
  ·cases h
  ·rename_i ds h1
   injection h with h
   injection h with h h'
   subst h
   subst h'
   obtain⟨i1,i2,_,i3,i4,_⟩:=rdS_in hb h1
   refine⟨by simp[San,e,z];omega,by simp[Cok];omega,rfl, ?_,i3⟩
   simp only[tl,e,Int.reduceEq,if_true,if_false]
   rw[s32_back i1]
   exact sleb_least ds 10 i2 i4
 ·split at h
  ·cases h
  ·rename_i ds h1
   injection h with h
   injection h with h h'
   subst h
   subst h'
   obtain⟨i1,i2,_,i3,i4,_⟩:=rdS_in hb h1
   refine⟨by simp[San,e,z],by simp[Cok];omega,rfl, ?_,i3⟩
   simp only[tl,e,Int.reduceEq,if_true,if_false]
   rw[s64_back i1]
   exact sleb_least ds 10 i2 i4
theorem dec_ok {m:List Int} (hb:Bs m) {i:TInstr} {n:Nat} (h:dec m= .ok (i,n)):San i∧Cok i∧(enc i).length≤n∧n≤m.length∧0<n∧∃l,m=i.op::l:=by
 cases m with
 |nil=>cases h
 |cons op l=>
  rw[dec] at h
  split at h
  ·cases h
  ·rename_i j c h1
   injection h with h
   injection h with h h'
   subst h
   subst h'
   obtain⟨i1,i2,i3,i4,i5⟩:=decT_ok (fun x hx=>hb x (List.mem_cons_of_mem _ hx)) h1
   exact⟨i1,i2,by simp[enc];omega,by simp;omega,by omega,l,by rw[i3]⟩
theorem enc_bs {i:TInstr} (h:San i) (hc:Cok i):Bs (enc i):=by
 have ub: ∀{v},Num v→Bs (uleb v):=fun h=>ulebF_bs 10 _ h.1
 have sb: ∀{v},Bs (sleb v):=slebF_bs 10 _
 have z:Bs [0]:=Bs.cons (by omega) Bs.nil
 obtain⟨op,a,b,c,ls⟩:=i
 obtain⟨h0,h1,h2,h3,h4,h5,h6,h7,h8,h9,h10⟩:=h
 dsimp only at*
 refine Bs.cons (kd_byte h0) ?_
 unfold tl
 rcases kd_in op with e|e|e|e|e|e|e|e|e|e<;>simp only[e,Int.reduceEq,if_true,if_false]
 ·exact absurd e h0
 ·exact Bs.nil
 ·refine Bs.cons ?_ Bs.nil
  have:=(h5 e).2.2
  split<;>omega
 ·exact ub h1
 ·obtain⟨_,_,h71,h72⟩:=h7 e
  refine(ub ⟨by omega,by omega⟩).append (Bs.append ?_ (ub h1))
  intro x hx
  obtain⟨y,hy,hx⟩:=List.mem_flatMap.1 hx
  exact ub (h72 y hy) x hx
 ·exact(ub h1).append z
 ·exact(ub h1).append (ub h2)
 ·exact z
 ·exact sb
 ·exact sb
theorem decT_err {op:Int} {m:List Int} {e:Int} (h:decT op m= .error e):e≠0:=by
 unfold decT at h
 rcases kd_in op with e|e|e|e|e|e|e|e|e|e<;>simp only[e,Int.reduceEq,if_true,if_false] at h
 ·injection h with h
  omega
 ·cases h
 ·split at h
  ·injection h with h
   omega
  ·split at h
   ·cases h
   ·split at h
    ·cases h
    ·injection h with h
     omega
 ·split at h
  ·rename_i h1
   injection h with h
   subst h
   exact rdU_err h1
  ·cases h
 ·split at h
  ·rename_i h1
   injection h with h
   subst h
   exact rdU_err h1
  ·split at h
   ·split at h
    ·rename_i h1
     injection h with h
     subst h
     exact rdL_err h1
    ·split at h
     ·rename_i h1
      injection h with h
      subst h
      exact rdU_err h1
     ·cases h
   ·injection h with h
    omega
 ·split at h
  ·rename_i h1
   injection h with h
   subst h
   exact rdU_err h1
  ·split at h
   ·injection h with h
    omega
   ·split at h
    ·cases h
    ·injection h with h
     omega
 ·split at h
  ·rename_i h1
   injection h with h
   subst h
   exact rdU_err h1
  ·split at h
   ·rename_i h1
    injection h with h
    subst h
    exact rdU_err h1
   ·cases h
 ·split at h
  ·injection h with h
   omega
  ·split at h
   ·cases h
   ·injection h with h
    omega
 ·split at h
  ·rename_i h1
   injection h with h
   subst h
   exact rdS_err h1
  ·cases h
 ·split at h
  ·rename_i h1
   injection h with h
   subst h
   exact rdS_err h1
  ·cases h
theorem dec_err {m:List Int} {e:Int} (h:dec m= .error e):e≠0:=by
 cases m with
 |nil=>
  injection h with h
  omega
 |cons op l=>
  rw[dec] at h
  split at h
  ·rename_i h1
   injection h with h
   subst h
   exact decT_err h1
  ·cases h
end Go.Proofs.YtfpioigggjnffaaGreatDoor.E
set_option autoImplicit false
set_option maxRecDepth 100000
set_option maxHeartbeats 4000000
set_option pp.maxSteps 20000
namespace Go.Proofs.YtfpioigggjnffaaGreatDoor.E
open Go.Ev
abbrev rdr (l:List Int) (p e:Int):Go.Ev.Obj:= .cells [.d (.list (byt l)), .d (.int .i64 p), .d (.int .i64 e)]
theorem byte_bad (fu n:Nat) (l:List Int) (p e:Int) (he:e≠0):evF (G fu) (n+1) 86 [.ptr 0 0] [rdr l p e]=some (.d (.int .i64 0),[rdr l p e]):=by
 rw[evF.eq_2,evX.eq_def,Gext,exts_no _ (f:=86) (by decide),GP,Tryz.func86];simp only[Tryz.f86,evB]
 simp only[go_sem,seval, -Nat.reduceSubDiff,↓reduceIte,reduceCtorEq,rdr,he]
theorem byte_end (fu n:Nat) (l:List Int) (x:Nat) (h:l.length≤x):evF (G fu) (n+1) 86 [.ptr 0 0] [rdr l x 0]=some (.d (.int .i64 0),[rdr l x 2]):=by
 have h':(l.length:Int)≤x:=by omega
 rw[evF.eq_2,evX.eq_def,Gext,exts_no _ (f:=86) (by decide),GP,Tryz.func86];simp only[Tryz.f86,evB]
 simp only[go_sem,seval, -Nat.reduceSubDiff,↓reduceIte,reduceCtorEq,rdr,byt_len,h']
theorem byte_yes (fu n:Nat) (l:List Int) (hb:Bs l) (x:Nat) (h:x<l.length) (hl:l.length<1099511627000):evF (G fu) (n+1) 86 [.ptr 0 0] [rdr l x 0]=some (.d (.int .i64 (l.getD x 0)),[rdr l ((x+1:Nat):Int) 0]):=by
 have h': ¬(l.length:Int)≤x:=by omega
 have h2:(x:Int)<l.length:=by omega
 have hg:(byt l)[x]? =some (.int .u8 (l.getD x 0)):=getD_map h
 have w1:=wrap_i64 (show-9223372036854775808≤(x:Int)+1 by omega) (by omega)
 have hc:=hb (l.getD x 0) (by rw[List.getD_eq_getElem?_getD,List.getElem?_eq_getElem h];exact List.getElem_mem h)
 have w2:=wrap_i64 (show-9223372036854775808≤l.getD x 0 by omega) (by omega)
 have w3:IntKind.wrap .i64 ((x:Int)+1-1)=x:=by rw[wrap_i64 (by omega) (by omega)];omega
 rw[evF.eq_2,evX.eq_def,Gext,exts_no _ (f:=86) (by decide),GP,Tryz.func86];simp only[Tryz.f86,evB]
 simp only[go_sem,seval, -Nat.reduceSubDiff,↓reduceIte,reduceCtorEq,rdr,byt_len,h',h2,idx,hg,w1,w2,w3]
 rfl
theorem must_bad (fu n:Nat) (l:List Int) (p e v:Int) (b:Bool) (he:e≠0):evF (G fu) (n+1) 87 [.ptr 0 0, .d (.bool b), .d (.int .i64 v)] [rdr l p e]=some (.tup [],[rdr l p e]):=by
 rw[evF.eq_2,evX.eq_def,Gext,exts_no _ (f:=87) (by decide),GP,Tryz.func87];simp only[Tryz.f87,evB]
 cases b<;>simp only[go_sem,seval, -Nat.reduceSubDiff,↓reduceIte,reduceCtorEq,rdr,he]
theorem must_ok (fu n:Nat) (l:List Int) (p v:Int) (b:Bool):evF (G fu) (n+1) 87 [.ptr 0 0, .d (.bool b), .d (.int .i64 v)] [rdr l p 0]=some (.tup [],[rdr l p (if b then 0 else v)]):=by
 rw[evF.eq_2,evX.eq_def,Gext,exts_no _ (f:=87) (by decide),GP,Tryz.func87];simp only[Tryz.f87,evB]
 cases b<;>simp only[go_sem,seval, -Nat.reduceSubDiff,↓reduceIte,reduceCtorEq,rdr]
theorem u_bad (fu n:Nat) (l:List Int) (p e:Int) (he:e≠0):evF (G fu) (n+5) 89 [.ptr 0 0] [rdr l p e]=some (.d (.int .i64 0),[rdr l p e]):=by
 rw[evF.eq_2,evX.eq_def,Gext,exts_no _ (f:=89) (by decide),GP,Tryz.func89];simp only[Tryz.f89,evB]
 simp only[go_sem,seval, -Nat.reduceSubDiff,↓reduceIte,reduceCtorEq,rdr,he]
def uRes (l:List Int) (x:Nat):Except Int (List Int)→Option Res
 | .error e=>some (.d (.int .i64 0),[rdr l 0 e])
 | .ok ds=>some (.d (.int .i64 (val ds)),[rdr l ((x+ds.length:Nat):Int) 0])
theorem u_ok (fu n:Nat) (l:List Int) (hb:Bs l) (x:Nat) (hf:10<fu) (hx:x≤l.length) (hl:l.length<1099511627000):evF (G fu) (n+5) 89 [.ptr 0 0] [rdr l x 0]=uRes l x (rdU (l.drop x)):=by
 have hr:=ReadU_ev fu n l hb x hf hx hl
 rw[evF.eq_2,evX.eq_def,Gext,exts_no _ (f:=89) (by decide),GP,Tryz.func89];simp only[Tryz.f89,evB]
 cases hs:rdU (l.drop x) with
 |error e=>
  rw[hs] at hr
  simp only[rdUR] at hr
  simp only[go_sem,seval, -Nat.reduceSubDiff,↓reduceIte,reduceCtorEq,rdr,hr,uRes,show IntKind.wrap .i64 0=0 from rfl]
 |ok ds=>
  rw[hs] at hr
  simp only[rdUR] at hr
  have h1:=rdU_lt (hb.drop x) hs
  have h2:=val_nonneg ds
  have w:=wrap_i64 (show-9223372036854775808≤val ds by omega) (by omega)
  simp only[go_sem,seval, -Nat.reduceSubDiff,↓reduceIte,reduceCtorEq,rdr,hr,uRes,w]
  rfl
def sRes (l:List Int) (x:Nat):Except Int (List Int)→Option Res
 | .error e=>some (.d (.int .i64 0),[rdr l 0 e])
 | .ok ds=>some (.d (.int .i64 (sval ds)),[rdr l ((x+ds.length:Nat):Int) 0])
theorem s_ok (w:Bool) (fu n:Nat) (l:List Int) (hb:Bs l) (x:Nat) (hf:10<fu) (hx:x≤l.length) (hl:l.length<1099511627000):evF (G fu) (n+5) 92 [.ptr 0 0, .d (.int .i64 (if w then 64 else 32))] [rdr l x 0]=sRes l x (rdS w (l.drop x)):=by
 have hr:=ReadS_ev w fu n l hb x hf hx hl
 generalize(if w then(64:Int) else 32)=v at*
 rw[evF.eq_2,evX.eq_def,Gext,exts_no _ (f:=92) (by decide),GP,Tryz.func92];simp only[Tryz.f92,evB]
 cases hs:rdS w (l.drop x) with
 |error e=>
  rw[hs] at hr
  simp only[rdSR] at hr
  simp only[go_sem,seval, -Nat.reduceSubDiff,↓reduceIte,reduceCtorEq,rdr,hr,sRes]
 |ok ds=>
  rw[hs] at hr
  simp only[rdSR] at hr
  simp only[go_sem,seval, -Nat.reduceSubDiff,↓reduceIte,reduceCtorEq,rdr,hr,sRes]
  rfl
theorem zero_bad (fu n:Nat) (l:List Int) (p e:Int) (he:e≠0):evF (G fu) (n+2) 91 [.ptr 0 0] [rdr l p e]=some (.tup [],[rdr l p e]):=by
 have h1:=byte_bad fu n l p e he
 have h2:=must_bad fu n l p e 3 true he
 simp only[rdr] at h1 h2 ⊢
 rw[evF.eq_2,evX.eq_def,Gext,exts_no _ (f:=91) (by decide),GP,Tryz.func91];simp only[Tryz.f91,evB]
 simp only[go_sem,seval, -Nat.reduceSubDiff,↓reduceIte,reduceCtorEq,h1,h2]
def zRes (l:List Int) (x:Nat):List Int→Option Res
 |[]=>some (.tup [],[rdr l x 2])
 |c::_=>some (.tup [],[rdr l ((x+1:Nat):Int) (if c=0 then 0 else 3)])
theorem zero_ok (fu n:Nat) (l:List Int) (hb:Bs l) (x:Nat) (hx:x≤l.length) (hl:l.length<1099511627000):evF (G fu) (n+2) 91 [.ptr 0 0] [rdr l x 0]=zRes l x (l.drop x):=by
 rcases Nat.lt_or_ge x l.length with h|h
 ·have h1:=byte_yes fu n l hb x h hl
  have hd:l.drop x=l.getD x 0::l.drop (x+1):=by
   rw[List.drop_eq_getElem_cons h,List.getD_eq_getElem?_getD,List.getElem?_eq_getElem h];rfl
  rw[hd]
  generalize l.getD x 0=c at*
  by_cases hc:c=0
  ·have h2:=must_ok fu n l ((x+1:Nat):Int) 3 true
   simp only[rdr] at h1 h2
   rw[evF.eq_2,evX.eq_def,Gext,exts_no _ (f:=91) (by decide),GP,Tryz.func91];simp only[Tryz.f91,evB]
   simp only[go_sem,seval, -Nat.reduceSubDiff,↓reduceIte,reduceCtorEq,rdr,h1,hc,h2,zRes]
  ·have h2:=must_ok fu n l ((x+1:Nat):Int) 3 false
   simp only[rdr] at h1 h2
   rw[evF.eq_2,evX.eq_def,Gext,exts_no _ (f:=91) (by decide),GP,Tryz.func91];simp only[Tryz.f91,evB]
   simp only[go_sem,seval, -Nat.reduceSubDiff,↓reduceIte,reduceCtorEq,rdr,h1,hc,h2,zRes]
 ·have h1:=byte_end fu n l x h
  have h2:=must_bad fu n l x 2 3 true (by decide)
  rw[List.drop_eq_nil_of_le h]
  simp only[rdr] at h1 h2
  rw[evF.eq_2,evX.eq_def,Gext,exts_no _ (f:=91) (by decide),GP,Tryz.func91];simp only[Tryz.f91,evB]
  simp only[go_sem,seval, -Nat.reduceSubDiff,↓reduceIte,reduceCtorEq,rdr,h1,h2,zRes]
def bRes (l:List Int) (x:Nat):List Int→Option Res
 |[]=>some (.d (.int .i64 0),[rdr l x 2])
 |c::_=>some (.d (.int .i64 (if c=64 then 0 else c)),[rdr l ((x+1:Nat):Int) (if c=64∨c=127∨c=126 then 0 else 3)])
theorem block_ok (fu n:Nat) (l:List Int) (hb:Bs l) (x:Nat) (hx:x≤l.length) (hl:l.length<1099511627000):evF (G fu) (n+2) 88 [.ptr 0 0] [rdr l x 0]=bRes l x (l.drop x):=by
 rcases Nat.lt_or_ge x l.length with h|h
 ·have h1:=byte_yes fu n l hb x h hl
  have hd:l.drop x=l.getD x 0::l.drop (x+1):=by
   rw[List.drop_eq_getElem_cons h,List.getD_eq_getElem?_getD,List.getElem?_eq_getElem h];rfl
  rw[hd]
  generalize l.getD x 0=c at*
  have h2:=must_ok fu n l ((x+1:Nat):Int) 3 true
  have h3:=must_ok fu n l ((x+1:Nat):Int) 3 false
  simp only[rdr] at h1 h2 h3
  rw[evF.eq_2,evX.eq_def,Gext,exts_no _ (f:=88) (by decide),GP,Tryz.func88];simp only[Tryz.f88,evB]
  by_cases c1:c=64
  ·simp only[go_sem,seval, -Nat.reduceSubDiff,↓reduceIte,reduceCtorEq,rdr,h1,c1,h2,bRes]
  ·by_cases c2:c=127
   ·simp only[go_sem,seval, -Nat.reduceSubDiff,↓reduceIte,reduceCtorEq,rdr,h1,c1,c2,h2,bRes]
   ·by_cases c3:c=126
    ·simp only[go_sem,seval, -Nat.reduceSubDiff,↓reduceIte,reduceCtorEq,rdr,h1,c1,c2,c3,h2,bRes]
    ·simp only[go_sem,seval, -Nat.reduceSubDiff,↓reduceIte,reduceCtorEq,rdr,h1,c1,c2,c3,h3,bRes]
 ·have h1:=byte_end fu n l x h
  have h2:=must_bad fu n l x 2 3 false (by decide)
  rw[List.drop_eq_nil_of_le h]
  simp only[rdr] at h1 h2
  rw[evF.eq_2,evX.eq_def,Gext,exts_no _ (f:=88) (by decide),GP,Tryz.func88];simp only[Tryz.f88,evB]
  simp only[go_sem,seval, -Nat.reduceSubDiff,↓reduceIte,reduceCtorEq,rdr,h1,h2,bRes]
end Go.Proofs.YtfpioigggjnffaaGreatDoor.E
