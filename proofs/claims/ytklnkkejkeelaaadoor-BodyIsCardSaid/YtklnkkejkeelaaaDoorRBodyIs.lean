/- THE LAW BodyIs ANSWERS TRUE, WHATEVER CAME IN: the tied card of the given seat. No further condition. -/
import Derived.Test.YtklnkkejkeelaaaDoorRows
import Derived.Test.YtklnkkejkeelaaaDoorTie
import Derived.Test.YtklnkkejkeelaaaDoorCards
import Derived.Test.YtklnkkejkeelaaaDoorEvD
import Derived.Test.YtklnkkejkeelaaaDoorLBodyIs
import Derived.WalkKit
import Derived.ProofKit
import Derived.OpenShut
import Derived.ShutString
import Derived.ChangeOld
import Derived.Below
import Derived.LaidMore
import Derived.Stop.Joined
import Derived.SevenTiedAt
set_option linter.unnecessarySimpa false
set_option linter.unusedSimpArgs false
set_option linter.unusedVariables false
namespace Go.Proofs.YtklnkkejkeelaaaDoor.bodyIs
open Go.ChangeShapes Go.WideShapes Go.ChangeAt Go.RowKit Go.Ev Go.Proofs.YtklnkkejkeelaaaDoor.E
open Go.ChangeMaps (open_string shut_string)
set_option linter.unusedVariables false
theorem own : ownKnob Tryd.prog.godebug = none := by kernel_rfl
theorem laidOut : laidOutB Tryd.prog = true := by kernel_rfl
theorem mixed : Tryd.prog.follows .mixedOrders = true := by kernel_rfl
theorem okAll : (Tryd.prog.funcs.toList.all okFn) = true := by kernel_rfl
theorem read (fu n : Nat) : CallOk Tryd.prog globs (evF (G fu) n) := evF_ok (g := G fu) mixed (fun f fn h => List.all_eq_true.1 okAll fn (List.mem_of_getElem? (by rw [Array.getElem?_toList]; exact h))) (Ghext mixed fu) n
theorem g0 : Tryd.prog.globalNamed "avocet/instr.spans" = some 0 := by kernel_rfl
theorem t0 : (Tryd.prog.globals[0]?).map (·.type) = some 88 := by kernel_rfl
theorem door_met (os : Os) (args : Array Value) : laidMetH Tryd.prog [("avocet/instr.spans", Rows.laid_avocet_instr_spans)] ((World.doorLaid Tryd.prog 400 os).forCall (fun _ _ => 0) ⟨#[], args, []⟩).memory :=
  laidMetH_of_parts3 (fuel := 8) (laidMet_of_run' 8 (by kernel_rfl) (by kernel_rfl)) (by kernel_rfl) (by kernel_rfl)
theorem of_laid {W : World} (h : laidMetH Tryd.prog [("avocet/instr.spans", Rows.laid_avocet_instr_spans)] W) : GlobOk globs W (imAll W) := by
  rw [MakeChecks.laidMetH_plain _ _ _ (by kernel_rfl)] at h
  obtain ⟨ps, ⟨g0', t0', cs0, f0, p0, q0, hg0, ht0, hv0, hd0, _, _⟩, _, _⟩ := h
  obtain rfl := Option.some.inj (g0.symm.trans hg0)
  obtain rfl := Option.some.inj (t0.symm.trans ht0)
  have e0 := arr_exact (fs := _) Tryd.underlying88 (by kernel_rfl) Tryd.underlying87 (by kernel_rfl) (fun i f hf => by
    match i, hf with
    | 0, hf => exact (by cases hf; exact ⟨rfl, by kernel_rfl, .inl ⟨_, Tryd.underlying3⟩⟩)
    | 1, hf => exact (by cases hf; exact ⟨rfl, by kernel_rfl, .inl ⟨_, Tryd.underlying3⟩⟩)
    | 2, hf => exact (by cases hf; exact ⟨rfl, by kernel_rfl, .inl ⟨_, Tryd.underlying3⟩⟩)
    | _ + 3, hf => cases hf) hd0
  have H0 : Held 0 (tab0.map Go.Ev.valOf) W := held_of_laid g0 hv0 (e0.trans (by kernel_rfl))
  refine globOk fun g cs e => ?_
  unfold globs at e
  split at e
  · obtain rfl := Option.some.inj e; exact ⟨by kernel_rfl, H0⟩
  · cases e
set_option maxRecDepth 100000 in
theorem lifted (os : Os) (started : os.Started) (H : Type) (enc : TypeId × Value → H) :
    ReturnsInHanded {} Tryd.checked os 14 .any (fun w args => (Rows.bodyIsSpec.pre enc Tryd.prog Tryd.f14 [] false w args ∧ laidMetH Tryd.prog [("avocet/instr.spans", Rows.laid_avocet_instr_spans)] w) ∧ sizedMet enc Tryd.prog Tryd.f14 (OpenSpec.ofChange Rows.bodyIsSpec) false w args)
      (Rows.bodyIsSpec.post enc Tryd.prog Tryd.f14 false true false false) := by
  refine returnsInHanded_of_change_and (C := Tryd.checked) (X := fun w _ => laidMetH Tryd.prog [("avocet/instr.spans", Rows.laid_avocet_instr_spans)] w) (fun _ _ _ hh h => h.of_heap hh) own started (by kernel_rfl) Tryd.func14
    (ChangeSpec.witness_shaped (enc := enc) (C := Tryd.checked) (os := os) (X := fun w _ => laidMetH Tryd.prog [("avocet/instr.spans", Rows.laid_avocet_instr_spans)] w) false (World.doorLaid Tryd.prog 400 os) #[.slice none 0 0, .slice none 0 0, .int .i64 0, .int .i64 0, .int .i64 0] 8 rfl (World.shaped_of_RefB (by kernel_rfl) (by kernel_rfl)) (by kernel_rfl) (by kernel_rfl) (by kernel_rfl) (door_met os _)) ?_
  intro W base args ds gs before hval0 hW _ _ hL _
  have hval : ∀ (j : Nat) t v, Tryd.f14.params[j]? = some t → args[j]? = some v → Value.okWide Tryd.prog W .any base t v := hval0
  have hW' := hW
  obtain ⟨p, q, hA0, hV, rfl, hfz, hnd⟩ := hW
  have hA : DataW.TrodAll enc Tryd.prog W 0 (fun _ => true) true Tryd.f14.params.toList args.toList ds p := hA0
  rw [Tryd.params14] at hA hval
  obtain ⟨v0, vs0, d0, ds0, p0, q0, hargs, rfl, rfl, h0, r0⟩ := trodAll_cons hA
  obtain ⟨v1, vs1, d1, ds1, p1, q1, rfl, rfl, rfl, h1, r1⟩ := trodAll_cons r0
  obtain ⟨v2, vs2, d2, ds2, p2, q2, rfl, rfl, rfl, h2, r2⟩ := trodAll_cons r1
  obtain ⟨v3, vs3, d3, ds3, p3, q3, rfl, rfl, rfl, h3, r3⟩ := trodAll_cons r2
  obtain ⟨v4, vs4, d4, ds4, p4, q4, rfl, rfl, rfl, h4, r4⟩ := trodAll_cons r3
  obtain ⟨rfl, rfl, rfl⟩ := trodAll_nil r4
  obtain rfl : args = #[v0, v1, v2, v3, v4] := by cases args; simp_all
  obtain ⟨rfl, rfl⟩ := trodVars_none hV
  have k0 := h0
  have lt0 : ∀ x ∈ p0, x.block < W.heap.size := by obtain ⟨m, hm⟩ := k0; exact DataW.trod_lt m _ _ _ hm
  obtain ⟨u0, l0, c0, rfl⟩ := okWide_slice Tryd.underlying22 (hval 0 22 v0 rfl rfl)
  obtain ⟨x0, D0, y0⟩ := arg_one (C := (Cd.list TInstr.C)) rfl (fun _ => rfl) (reads_slice Tryd.underlying22 (by kernel_rfl) (by decide) TInstr.reads) h0
  have k1 := h1
  have lt1 : ∀ x ∈ p1, x.block < W.heap.size := by obtain ⟨m, hm⟩ := k1; exact DataW.trod_lt m _ _ _ hm
  obtain ⟨u1, l1, c1, rfl⟩ := okWide_slice Tryd.underlying41 (hval 1 41 v1 rfl rfl)
  obtain ⟨x1, D1, y1⟩ := arg_one (C := (Cd.list (Cd.int .u8))) rfl (fun _ => rfl) (reads_slice Tryd.underlying41 (by kernel_rfl) (by decide) (reads_int Tryd.underlying5)) h1
  have k2 := h2
  have lt2 : ∀ x ∈ p2, x.block < W.heap.size := by obtain ⟨m, hm⟩ := k2; exact DataW.trod_lt m _ _ _ hm
  obtain ⟨u2, rfl⟩ := okWide_int Tryd.underlying3 (hval 2 3 v2 rfl rfl)
  obtain ⟨x2, D2, y2⟩ := arg_one (C := (Cd.int .i64)) rfl (fun _ => rfl) (reads_int Tryd.underlying3) h2
  have k3 := h3
  have lt3 : ∀ x ∈ p3, x.block < W.heap.size := by obtain ⟨m, hm⟩ := k3; exact DataW.trod_lt m _ _ _ hm
  obtain ⟨u3, rfl⟩ := okWide_int Tryd.underlying3 (hval 3 3 v3 rfl rfl)
  obtain ⟨x3, D3, y3⟩ := arg_one (C := (Cd.int .i64)) rfl (fun _ => rfl) (reads_int Tryd.underlying3) h3
  have k4 := h4
  have lt4 : ∀ x ∈ p4, x.block < W.heap.size := by obtain ⟨m, hm⟩ := k4; exact DataW.trod_lt m _ _ _ hm
  obtain ⟨u4, rfl⟩ := okWide_int Tryd.underlying3 (hval 4 3 v4 rfl rfl)
  obtain ⟨x4, D4, y4⟩ := arg_one (C := (Cd.int .i64)) rfl (fun _ => rfl) (reads_int Tryd.underlying3) h4
  have hG := of_laid hL
  clear hA0 hval0 hval hL
  obtain ⟨fu, n, hk⟩ := BodyIs.pure x0 y0 x1 y1 x2 y2 x3 y3 x4 y4
  refine (run_law (ds := [(Cd.list TInstr.C).d x0, (Cd.list (Cd.int .u8)).d x1, (Cd.int .i64).d x2, (Cd.int .i64).d x3, (Cd.int .i64).d x4]) (read fu n) hk hG (us := [_, _, _, _, _]) rfl (fun j d u hd hu => ?_)).mono fun e W' he => ?_
  · match j, hd, hu with
    | 0, hd, hu => obtain rfl := Option.some.inj hd; obtain rfl := Option.some.inj hu; exact D0
    | 1, hd, hu => obtain rfl := Option.some.inj hd; obtain rfl := Option.some.inj hu; exact D1
    | 2, hd, hu => obtain rfl := Option.some.inj hd; obtain rfl := Option.some.inj hu; exact D2
    | 3, hd, hu => obtain rfl := Option.some.inj hd; obtain rfl := Option.some.inj hu; exact D3
    | 4, hd, hu => obtain rfl := Option.some.inj hd; obtain rfl := Option.some.inj hu; exact D4
    | _ + 5, hd, hu => simp at hd
  obtain ⟨rfl, bel⟩ := he
  exact ⟨_, rfl, _, _, _, [], _, [], hW', trodAll_mk1 (shut_bool Tryd.underlying4 _), (trodAll_cons_mk (Below.trod laidOut (by kernel_rfl) (of_decide_eq_true (by kernel_rfl)) k0 bel lt0) (trodAll_cons_mk (Below.trod laidOut (by kernel_rfl) (of_decide_eq_true (by kernel_rfl)) k1 bel lt1) (trodAll_cons_mk (Below.trod laidOut (by kernel_rfl) (of_decide_eq_true (by kernel_rfl)) k2 bel lt2) (trodAll_cons_mk (Below.trod laidOut (by kernel_rfl) (of_decide_eq_true (by kernel_rfl)) k3 bel lt3) (trodAll_cons_mk (Below.trod laidOut (by kernel_rfl) (of_decide_eq_true (by kernel_rfl)) k4 bel lt4) trodAll_mk0))))), rfl, bel.frame _, fun h => by cases h⟩
theorem over : Rows.bodyIsRow.holds Tryd.pinned (OpenSpec.ofChange Rows.bodyIsSpec) :=
  OpenClaim.holds_of_wide 14 Tryd.f14 rfl rfl rfl rfl rfl rfl rfl ⟨rfl, rfl, rfl, rfl, rfl⟩ rfl rfl rfl rfl rfl (by kernel_rfl) Tryd.func14 (by kernel_rfl)
    (of_decide_eq_true (by kernel_rfl)) (by unfold Func.isWrapper; first | (rw [if_pos (by decide +kernel)]; kernel_rfl) | (rw [if_neg (by decide +kernel)]; exact ⟨rfl, rfl⟩))
    (fun os started H enc _ => lifted os started H enc)
theorem proved : Rows.BodyIsSaid := over
theorem card : Rows.BodyIsCardSaid :=
  Claim7.holds_tied_plain_at .later [] [.data] true (true, "cb3551cf36f624c5419fbcf7175bd5f65c1f8d2d60cb9fd2f641013f60f08a40") false
    proved (fun _ h => by cases h) (by kernel_rfl) (fun _ h => by cases h) bodyIs_row_tie rfl ⟨rfl, rfl⟩ (by kernel_rfl) rfl
    (fun f fn hf hfn => by
      obtain rfl : f = 14 := Option.some.inj ((show Tryd.prog.funcNamed "avocet/avocetlaw06.BodyIs" = some 14 by kernel_rfl).symm.trans hf) |>.symm
      obtain rfl : fn = Tryd.f14 := (Option.some.inj (Tryd.func14.symm.trans hfn)).symm
      exact ⟨by kernel_rfl, fun j t ht => by
        rw [Tryd.params14] at ht
        have hm : t ∈ [22, 41, 3, 3, 3] := by simpa using Array.mem_of_getElem? ht
        have hall : ([22, 41, 3, 3, 3].all fun u => !Tryd.prog.wantsStandIn u) = true := by kernel_rfl
        exact (show Tryd.prog.wantsStandIn t = false by simpa using List.all_eq_true.1 hall t hm)⟩)
    (by kernel_rfl)
#print axioms card
end Go.Proofs.YtklnkkejkeelaaaDoor.bodyIs
namespace Go.Proofs.YtklnkkejkeelaaaDoor
/-- The card, under a short name, for the claim. -/
theorem bodyIs_holds : Rows.BodyIsCardSaid := bodyIs.card
end Go.Proofs.YtklnkkejkeelaaaDoor
