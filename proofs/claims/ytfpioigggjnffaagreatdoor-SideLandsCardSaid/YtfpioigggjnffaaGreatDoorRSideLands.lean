/- THE LAW SideLands ANSWERS TRUE, WHATEVER CAME IN: the tied card of the given seat. No further condition. -/
import Derived.Test.YtfpioigggjnffaaGreatDoorRows
import Derived.Test.YtfpioigggjnffaaGreatDoorTie
import Derived.Test.YtfpioigggjnffaaGreatDoorCards
import Derived.Test.YtfpioigggjnffaaGreatDoorEvD
import Derived.Test.YtfpioigggjnffaaGreatDoorEvO3
import Derived.Test.YtfpioigggjnffaaGreatDoorLSideLands
import Derived.WalkKit
import Derived.ProofKit
import Derived.OpenShut
import Derived.ShutString
import Derived.ChangeOld
import Derived.Below
import Derived.LaidMore
import Derived.Stop.Joined
import Derived.SevenTiedAt
set_option linter.unnecessarySimpa false
set_option linter.unusedSimpArgs false
set_option linter.unusedVariables false
namespace Go.Proofs.YtfpioigggjnffaaGreatDoor.sideLands
open Go.ChangeShapes Go.WideShapes Go.ChangeAt Go.RowKit Go.Ev Go.Proofs.YtfpioigggjnffaaGreatDoor.E
open Go.ChangeMaps (open_string shut_string)
theorem own:ownKnob Tryz.prog.godebug=none:=by kernel_rfl
theorem laidOut:laidOutB Tryz.prog=true:=by kernel_rfl
theorem mixed:Tryz.prog.follows .mixedOrders=true:=by kernel_rfl
theorem okAll:(Tryz.prog.funcs.toList.all okFn)=true:=by kernel_rfl
theorem okF (f:FuncId) (fn:Func) (h:Tryz.prog.funcs[f]? =some fn):okFn fn=true:=List.all_eq_true.1 okAll fn (List.mem_of_getElem? (by rw[Array.getElem?_toList];exact h))
theorem read (fu n:Nat):CallOk Tryz.prog globs (evF (G fu) n):=evF_ok (g:=G fu) mixed okF (Ghext mixed okF fu) n
theorem g0:Tryz.prog.globalNamed "avocet/instr.spans"=some 0:=by kernel_rfl
theorem g1:Tryz.prog.globalNamed "avocet/instr.rows"=some 1:=by kernel_rfl
theorem t0:(Tryz.prog.globals[0]?).map (·.type)=some 171:=by kernel_rfl
theorem t1:(Tryz.prog.globals[1]?).map (·.type)=some 271:=by kernel_rfl
theorem door_met (os:Os) (args:Array Value):laidMetH Tryz.prog [("avocet/instr.spans",Rows.laid_avocet_instr_spans),("avocet/instr.rows",Rows.laid_avocet_instr_rows)] ((World.doorLaid Tryz.prog 400 os).forCall (fun _ _=>0) ⟨#[],args,[]⟩).memory:=
 laidMetH_of_parts3 (fuel:=8) (laidMet_of_run' 8 (by kernel_rfl) (by kernel_rfl)) (by kernel_rfl) (by kernel_rfl)
theorem of_laid {W:World} (h:laidMetH Tryz.prog [("avocet/instr.spans",Rows.laid_avocet_instr_spans),("avocet/instr.rows",Rows.laid_avocet_instr_rows)] W):GlobOk globs W (imAll W):=by
 rw[MakeChecks.laidMetH_plain _ _ _ (by kernel_rfl)] at h
 obtain⟨ps,⟨g0',t0',cs0,f0,p0,q0,hg0,ht0,hv0,hd0,⟨g1',t1',cs1,f1,p1,q1,hg1,ht1,hv1,hd1,_,_⟩,_⟩,_,_⟩:=h
 obtain rfl:=Option.some.inj (g0.symm.trans hg0)
 obtain rfl:=Option.some.inj (t0.symm.trans ht0)
 have e0:=arr_exact (fs:=_) Tryz.underlying171 (by kernel_rfl) Tryz.underlying170 (by kernel_rfl) (fun i f hf=>by
  match i,hf with
  |0,hf=>exact(by cases hf;exact⟨rfl,by kernel_rfl, .inl ⟨_,Tryz.underlying3⟩⟩)
  |1,hf=>exact(by cases hf;exact⟨rfl,by kernel_rfl, .inl ⟨_,Tryz.underlying3⟩⟩)
  |2,hf=>exact(by cases hf;exact⟨rfl,by kernel_rfl, .inl ⟨_,Tryz.underlying3⟩⟩)
  |_+3,hf=>cases hf) hd0
 have H0:Held 0 (tab0.map Go.Ev.valOf) W:=held_of_laid g0 hv0 (e0.trans (by kernel_rfl))
 obtain rfl:=Option.some.inj (g1.symm.trans hg1)
 obtain rfl:=Option.some.inj (t1.symm.trans ht1)
 have e1:=arr_exact (fs:=_) Tryz.underlying271 (by kernel_rfl) Tryz.underlying270 (by kernel_rfl) (fun i f hf=>by
  match i,hf with
  |0,hf=>exact(by cases hf;exact⟨rfl,by kernel_rfl, .inl ⟨_,Tryz.underlying5⟩⟩)
  |1,hf=>exact(by cases hf;exact⟨rfl,by kernel_rfl, .inl ⟨_,Tryz.underlying3⟩⟩)
  |2,hf=>exact(by cases hf;exact⟨rfl,by kernel_rfl, .inr Tryz.underlying4⟩)
  |3,hf=>exact(by cases hf;exact⟨rfl,by kernel_rfl, .inr Tryz.underlying4⟩)
  |_+4,hf=>cases hf) hd1
 have H1:Held 1 (tab1.map Go.Ev.valOf) W:=held_of_laid g1 hv1 (e1.trans (by kernel_rfl))
 refine globOk fun g cs e=> ?_
 unfold globs at e
 split at e
 ·obtain rfl:=Option.some.inj e;exact⟨by kernel_rfl,H0⟩
 ·obtain rfl:=Option.some.inj e;exact⟨by kernel_rfl,H1⟩
 ·cases e
set_option maxRecDepth 100000 in
theorem lifted (os:Os) (started:os.Started) (H:Type) (enc:TypeId×Value→H):
 ReturnsInHanded {} Tryz.checked os 7 .any (fun w args=>(Rows.sideLandsSpec.pre enc Tryz.prog Tryz.f7 [] false w args∧laidMetH Tryz.prog [("avocet/instr.spans",Rows.laid_avocet_instr_spans),("avocet/instr.rows",Rows.laid_avocet_instr_rows)] w)∧sizedMet enc Tryz.prog Tryz.f7 (OpenSpec.ofChange Rows.sideLandsSpec) false w args)
  (Rows.sideLandsSpec.post enc Tryz.prog Tryz.f7 false true false false):=by
 refine returnsInHanded_of_change_and (C:=Tryz.checked) (X:=fun w _=>laidMetH Tryz.prog [("avocet/instr.spans",Rows.laid_avocet_instr_spans),("avocet/instr.rows",Rows.laid_avocet_instr_rows)] w) (fun _ _ _ hh h=>h.of_heap hh) own started (by kernel_rfl) Tryz.func7
  (ChangeSpec.witness_shaped (enc:=enc) (C:=Tryz.checked) (os:=os) (X:=fun w _=>laidMetH Tryz.prog [("avocet/instr.spans",Rows.laid_avocet_instr_spans),("avocet/instr.rows",Rows.laid_avocet_instr_rows)] w) false (World.doorLaid Tryz.prog 400 os) #[.agg #[.slice none 0 0, .slice none 0 0, .int .i64 0, .int .i64 0, .slice none 0 0, .slice none 0 0, .slice none 0 0], .slice none 0 0, .slice none 0 0] 8 rfl (World.shaped_of_RefB (by kernel_rfl) (by kernel_rfl)) (by kernel_rfl) (by kernel_rfl) (by kernel_rfl) (door_met os _)) ?_
 intro W base args ds gs before hval0 hW _ _ hL _
 have hval: ∀(j:Nat) t v,Tryz.f7.params[j]? =some t→args[j]? =some v→Value.okWide Tryz.prog W .any base t v:=hval0
 have hW':=hW
 obtain⟨p,q,hA0,hV,rfl,hfz,hnd⟩:=hW
 have hA:DataW.TrodAll enc Tryz.prog W 0 (fun _=>true) true Tryz.f7.params.toList args.toList ds p:=hA0
 rw[Tryz.params7] at hA hval
 obtain⟨v0,vs0,d0,ds0,p0,q0,hargs,rfl,rfl,h0,r0⟩:=trodAll_cons hA
 obtain⟨v1,vs1,d1,ds1,p1,q1,rfl,rfl,rfl,h1,r1⟩:=trodAll_cons r0
 obtain⟨v2,vs2,d2,ds2,p2,q2,rfl,rfl,rfl,h2,r2⟩:=trodAll_cons r1
 obtain⟨rfl,rfl,rfl⟩:=trodAll_nil r2
 obtain rfl:args= #[v0,v1,v2]:=by cases args;simp_all
 obtain⟨rfl,rfl⟩:=trodVars_none hV
 have k0:=h0
 have lt0: ∀x∈p0,x.block<W.heap.size:=by obtain⟨m,hm⟩:=k0;exact DataW.trod_lt m _ _ _ hm
 obtain⟨u0,rfl,_⟩:=okWide_struct Tryz.underlying27 (hval 0 27 v0 rfl rfl)
 obtain⟨x0,D0,y0⟩:=arg_struct Tavocetref10_Env.reads h0
 have k1:=h1
 have lt1: ∀x∈p1,x.block<W.heap.size:=by obtain⟨m,hm⟩:=k1;exact DataW.trod_lt m _ _ _ hm
 obtain⟨u1,l1,c1,rfl⟩:=okWide_slice Tryz.underlying58 (hval 1 58 v1 rfl rfl)
 obtain⟨x1,D1,y1⟩:=arg_one (C:=(Cd.list TInstr.C)) rfl (fun _=>rfl) (reads_slice Tryz.underlying58 (by kernel_rfl) (by decide) TInstr.reads) h1
 have k2:=h2
 have lt2: ∀x∈p2,x.block<W.heap.size:=by obtain⟨m,hm⟩:=k2;exact DataW.trod_lt m _ _ _ hm
 obtain⟨u2,l2,c2,rfl⟩:=okWide_slice Tryz.underlying25 (hval 2 25 v2 rfl rfl)
 obtain⟨x2,D2,y2⟩:=arg_one (C:=(Cd.list (Cd.int .u8))) rfl (fun _=>rfl) (reads_slice Tryz.underlying25 (by kernel_rfl) (by decide) (reads_int Tryz.underlying5)) h2
 have hG:=of_laid hL
 clear hA0 hval0 hval hL
 obtain⟨fu,n,hk⟩:=SideLands.pure x0 y0 x1 y1 x2 y2
 refine(run_law (ds:=[Tavocetref10_Env.C.d x0,(Cd.list TInstr.C).d x1,(Cd.list (Cd.int .u8)).d x2]) (read fu n) hk hG (us:=[_,_,_]) rfl (fun j d u hd hu=> ?_)).mono fun e W' he=> ?_
 ·match j,hd,hu with
  |0,hd,hu=>obtain rfl:=Option.some.inj hd;obtain rfl:=Option.some.inj hu;exact D0
  |1,hd,hu=>obtain rfl:=Option.some.inj hd;obtain rfl:=Option.some.inj hu;exact D1
  |2,hd,hu=>obtain rfl:=Option.some.inj hd;obtain rfl:=Option.some.inj hu;exact D2
  |_+3,hd,hu=>simp at hd
 obtain⟨rfl,bel⟩:=he
 exact⟨_,rfl,_,_,_,[],_,[],hW',trodAll_mk1 (shut_bool Tryz.underlying4 _),(trodAll_cons_mk (Below.trod laidOut (by kernel_rfl) (of_decide_eq_true (by kernel_rfl)) k0 bel lt0) (trodAll_cons_mk (Below.trod laidOut (by kernel_rfl) (of_decide_eq_true (by kernel_rfl)) k1 bel lt1) (trodAll_cons_mk (Below.trod laidOut (by kernel_rfl) (of_decide_eq_true (by kernel_rfl)) k2 bel lt2) trodAll_mk0))),rfl,bel.frame _,fun h=>by cases h⟩
theorem over:Rows.sideLandsRow.holds Tryz.pinned (OpenSpec.ofChange Rows.sideLandsSpec):=
 OpenClaim.holds_of_wide 7 Tryz.f7 rfl rfl rfl rfl rfl rfl rfl ⟨rfl,rfl,rfl,rfl,rfl⟩ rfl rfl rfl rfl rfl (by kernel_rfl) Tryz.func7 (by kernel_rfl)
  (of_decide_eq_true (by kernel_rfl)) (by unfold Func.isWrapper;first|(rw[if_pos (by decide+kernel)];kernel_rfl)|(rw[if_neg (by decide+kernel)];exact⟨rfl,rfl⟩))
  (fun os started H enc _=>lifted os started H enc)
theorem proved:Rows.SideLandsSaid:=over
theorem card:Rows.SideLandsCardSaid:=
 Claim7.holds_tied_plain_at .later [] [.data, .data] true (true,"e9181e910716d7009dd7b2fd6ac3a7de6152ae4641aee237ebc00dfbf8a83c59") false
  proved (fun _ h=>by cases h) (by kernel_rfl) (fun _ h=>by cases h) sideLands_row_tie rfl ⟨rfl,rfl⟩ (by kernel_rfl) rfl
  (fun f fn hf hfn=>by
    obtain rfl:f=7:=Option.some.inj ((show Tryz.prog.funcNamed "avocet/avocetlaw12.SideLands"=some 7 by kernel_rfl).symm.trans hf)|>.symm
    obtain rfl:fn=Tryz.f7:=(Option.some.inj (Tryz.func7.symm.trans hfn)).symm
    exact⟨by kernel_rfl,fun j t ht=>by
     rw[Tryz.params7] at ht
     have hm:t∈[27,58,25]:=by simpa using Array.mem_of_getElem? ht
     have hall:([27,58,25].all fun u=> !Tryz.prog.wantsStandIn u)=true:=by kernel_rfl
     exact(show Tryz.prog.wantsStandIn t=false by simpa using List.all_eq_true.1 hall t hm)⟩)
  (by kernel_rfl)
#print axioms card
end Go.Proofs.YtfpioigggjnffaaGreatDoor.sideLands
namespace Go.Proofs.YtfpioigggjnffaaGreatDoor
theorem sideLands_holds:Rows.SideLandsCardSaid:=sideLands.card
end Go.Proofs.YtfpioigggjnffaaGreatDoor
