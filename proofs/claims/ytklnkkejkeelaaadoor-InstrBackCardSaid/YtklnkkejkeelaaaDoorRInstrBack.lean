/- THE LAW InstrBack ANSWERS TRUE, WHATEVER CAME IN: the tied card of the given seat. No further condition. -/
import Derived.Test.YtklnkkejkeelaaaDoorRows
import Derived.Test.YtklnkkejkeelaaaDoorTie
import Derived.Test.YtklnkkejkeelaaaDoorCards
import Derived.Test.YtklnkkejkeelaaaDoorXOpen
import Derived.Test.YtklnkkejkeelaaaDoorXStr
import Derived.Test.YtklnkkejkeelaaaDoorXx18
import Derived.Test.YtklnkkejkeelaaaDoorUInstrBack
import Derived.WalkKit
import Derived.ProofKit
import Derived.OpenShut
import Derived.ShutString
import Derived.ChangeOld
import Derived.Below
import Derived.LaidMore
import Derived.Stop.Joined
import Derived.SevenTiedAt
namespace Go.Proofs.YtklnkkejkeelaaaDoor.instrBack
open Go.ChangeShapes Go.WideShapes Go.ChangeAt Go.RowKit Go.Proofs.YtklnkkejkeelaaaDoorW.PrintWords Go.Proofs.YtklnkkejkeelaaaDoor.X
open Go.ChangeMaps (open_string shut_string)
set_option linter.unusedVariables false
theorem own : ownKnob Tryd.prog.godebug = none := by kernel_rfl
theorem laidOut : laidOutB Tryd.prog = true := by kernel_rfl
theorem g0 : Tryd.prog.globalNamed "avocet/instr.spans" = some 0 := by kernel_rfl
theorem t0 : (Tryd.prog.globals[0]?).map (·.type) = some 88 := by kernel_rfl
theorem door_met (os : Os) (args : Array Value) : laidMetH Tryd.prog [("avocet/instr.spans", Rows.laid_avocet_instr_spans)] ((World.doorLaid Tryd.prog 400 os).forCall (fun _ _ => 0) ⟨#[], args, []⟩).memory :=
  laidMetH_of_parts3 (fuel := 8) (laidMet_of_run' 8 (by kernel_rfl) (by kernel_rfl)) (by kernel_rfl) (by kernel_rfl)
theorem of_laid {W : World} (h : laidMetH Tryd.prog [("avocet/instr.spans", Rows.laid_avocet_instr_spans)] W) : Glob W := by
  rw [MakeChecks.laidMetH_plain _ _ _ (by kernel_rfl)] at h
  obtain ⟨ps, ⟨g0', t0', cs0, f0, p0, q0, hg0, ht0, hv0, hd0, _, _⟩, _, _⟩ := h
  obtain rfl := Option.some.inj (g0.symm.trans hg0)
  obtain rfl := Option.some.inj (t0.symm.trans ht0)
  have e0 := arr_exact (fs := _) Tryd.underlying88 (by kernel_rfl) Tryd.underlying87 (by kernel_rfl) (fun i f hf => by
    match i, hf with
    | 0, hf => exact (by cases hf; exact ⟨rfl, by kernel_rfl, .inl ⟨_, Tryd.underlying3⟩⟩)
    | 1, hf => exact (by cases hf; exact ⟨rfl, by kernel_rfl, .inl ⟨_, Tryd.underlying3⟩⟩)
    | 2, hf => exact (by cases hf; exact ⟨rfl, by kernel_rfl, .inl ⟨_, Tryd.underlying3⟩⟩)
    | _ + 3, hf => cases hf) hd0
  exact held_of_laid g0 hv0 (e0.trans (by kernel_rfl))
set_option maxRecDepth 100000 in
theorem lifted (os : Os) (started : os.Started) (H : Type) (enc : TypeId × Value → H) :
    ReturnsInHanded {} Tryd.checked os 7 .any (fun w args => (Rows.instrBackSpec.pre enc Tryd.prog Tryd.f7 [] false w args ∧ laidMetH Tryd.prog [("avocet/instr.spans", Rows.laid_avocet_instr_spans)] w) ∧ sizedMet enc Tryd.prog Tryd.f7 (OpenSpec.ofChange Rows.instrBackSpec) false w args)
      (Rows.instrBackSpec.post enc Tryd.prog Tryd.f7 false true false false) := by
  refine returnsInHanded_of_change_and (C := Tryd.checked) (X := fun w _ => laidMetH Tryd.prog [("avocet/instr.spans", Rows.laid_avocet_instr_spans)] w) (fun _ _ _ hh h => h.of_heap hh) own started (by kernel_rfl) Tryd.func7
    (ChangeSpec.witness_shaped (enc := enc) (C := Tryd.checked) (os := os) (X := fun w _ => laidMetH Tryd.prog [("avocet/instr.spans", Rows.laid_avocet_instr_spans)] w) false (World.doorLaid Tryd.prog 400 os) #[.slice none 0 0, .agg #[.int .i64 0, .int .i64 0, .int .i64 0, .int .u64 0, .slice none 0 0], .slice none 0 0] 8 rfl (World.shaped_of_RefB (by kernel_rfl) (by kernel_rfl)) (by kernel_rfl) (by kernel_rfl) (by kernel_rfl) (door_met os _)) ?_
  intro W base args ds gs before hval0 hW _ _ hL _
  have hval : ∀ (j : Nat) t v, Tryd.f7.params[j]? = some t → args[j]? = some v → Value.okWide Tryd.prog W .any base t v := hval0
  have hW' := hW
  obtain ⟨p, q, hA0, hV, rfl, hfz, hnd⟩ := hW
  have hA : DataW.TrodAll enc Tryd.prog W 0 (fun _ => true) true Tryd.f7.params.toList args.toList ds p := hA0
  rw [Tryd.params7] at hA hval
  obtain ⟨v0, vs0, d0, ds0, p0, q0, hargs, rfl, rfl, h0, r0⟩ := trodAll_cons hA
  obtain ⟨v1, vs1, d1, ds1, p1, q1, rfl, rfl, rfl, h1, r1⟩ := trodAll_cons r0
  obtain ⟨v2, vs2, d2, ds2, p2, q2, rfl, rfl, rfl, h2, r2⟩ := trodAll_cons r1
  obtain ⟨rfl, rfl, rfl⟩ := trodAll_nil r2
  obtain rfl : args = #[v0, v1, v2] := by cases args; simp_all
  obtain ⟨rfl, rfl⟩ := trodVars_none hV
  have k0 := h0
  have lt0 : ∀ x ∈ p0, x.block < W.heap.size := by obtain ⟨m, hm⟩ := k0; exact DataW.trod_lt m _ _ _ hm
  obtain ⟨a0, len0, cap0, rfl⟩ := okWide_slice Tryd.underlying41 (hval 0 41 v0 rfl rfl)
  obtain ⟨l0, rfl, c0, R0, w0, y0⟩ := open_slice_arg (d := (Kd.int .u8)) 5 Tryd.underlying41 (by kernel_rfl) (opens_int Tryd.underlying5) h0
  have k1 := h1
  have lt1 : ∀ x ∈ p1, x.block < W.heap.size := by obtain ⟨m, hm⟩ := k1; exact DataW.trod_lt m _ _ _ hm
  obtain ⟨cs1, rfl, _⟩ := okWide_struct Tryd.underlying33 (hval 1 33 v1 rfl rfl)
  obtain ⟨x1, K1, y1⟩ := open_struct_arg opens33 h1
  obtain ⟨A1_4, c1_4, e1, C1_4, R1_4⟩ := k33_open K1
  obtain ⟨cs1⟩ := cs1
  dsimp only at e1
  subst e1
  have k2 := h2
  have lt2 : ∀ x ∈ p2, x.block < W.heap.size := by obtain ⟨m, hm⟩ := k2; exact DataW.trod_lt m _ _ _ hm
  obtain ⟨a2, len2, cap2, rfl⟩ := okWide_slice Tryd.underlying41 (hval 2 41 v2 rfl rfl)
  obtain ⟨l2, rfl, c2, R2, w2, y2⟩ := open_slice_arg (d := (Kd.int .u8)) 5 Tryd.underlying41 (by kernel_rfl) (opens_int Tryd.underlying5) h2
  have hG := of_laid hL
  clear hA0 hval0 hval hL
  obtain ⟨k, hk⟩ := InstrBack.pure l0 x1 l2 w0 y0 y1 w2 y2
  refine (avocetlaw05_InstrBack.calls (k := k) (r := true) (w := W) (l0 := l0) (hr0 := R0) (hc0 := c0) (a1_0 := x1.f0) (a1_1 := x1.f1) (a1_2 := x1.f2) (a1_3 := x1.f3) (l1_4 := x1.f4) (hr1_4 := R1_4) (hc1_4 := C1_4) (l2 := l2) (hr2 := R2) (hc2 := c2) (hG := hG) (h := hk)).mono fun e W' he => ?_
  obtain ⟨rfl, bel⟩ := he
  skip
  exact ⟨_, rfl, _, _, _, [], _, [], hW', trodAll_mk1 (shut_bool Tryd.underlying4 _), (trodAll_cons_mk (Below.trod laidOut (by kernel_rfl) (of_decide_eq_true (by kernel_rfl)) k0 bel lt0) (trodAll_cons_mk (Below.trod laidOut (by kernel_rfl) (of_decide_eq_true (by kernel_rfl)) k1 bel lt1) (trodAll_cons_mk (Below.trod laidOut (by kernel_rfl) (of_decide_eq_true (by kernel_rfl)) k2 bel lt2) trodAll_mk0))), rfl, bel.frame _, fun h => by cases h⟩
theorem over : Rows.instrBackRow.holds Tryd.pinned (OpenSpec.ofChange Rows.instrBackSpec) :=
  OpenClaim.holds_of_wide 7 Tryd.f7 rfl rfl rfl rfl rfl rfl rfl ⟨rfl, rfl, rfl, rfl, rfl⟩ rfl rfl rfl rfl rfl (by kernel_rfl) Tryd.func7 (by kernel_rfl)
    (of_decide_eq_true (by kernel_rfl)) (by unfold Func.isWrapper; first | (rw [if_pos (by decide +kernel)]; kernel_rfl) | (rw [if_neg (by decide +kernel)]; exact ⟨rfl, rfl⟩))
    (fun os started H enc _ => lifted os started H enc)
theorem proved : Rows.InstrBackSaid := over
theorem card : Rows.InstrBackCardSaid :=
  Claim7.holds_tied_plain_at .later [] [.data] true (true, "cb3551cf36f624c5419fbcf7175bd5f65c1f8d2d60cb9fd2f641013f60f08a40") false
    proved (fun _ h => by cases h) (by kernel_rfl) (fun _ h => by cases h) instrBack_row_tie rfl ⟨rfl, rfl⟩ (by kernel_rfl) rfl
    (fun f fn hf hfn => by
      obtain rfl : f = 7 := Option.some.inj ((show Tryd.prog.funcNamed "avocet/avocetlaw05.InstrBack" = some 7 by kernel_rfl).symm.trans hf) |>.symm
      obtain rfl : fn = Tryd.f7 := (Option.some.inj (Tryd.func7.symm.trans hfn)).symm
      exact ⟨by kernel_rfl, fun j t ht => by
        rw [Tryd.params7] at ht
        have hm : t ∈ [41, 33, 41] := by simpa using Array.mem_of_getElem? ht
        have hall : ([41, 33, 41].all fun u => !Tryd.prog.wantsStandIn u) = true := by kernel_rfl
        exact (show Tryd.prog.wantsStandIn t = false by simpa using List.all_eq_true.1 hall t hm)⟩)
    (by kernel_rfl)
#print axioms card
end Go.Proofs.YtklnkkejkeelaaaDoor.instrBack
namespace Go.Proofs.YtklnkkejkeelaaaDoor
/-- The card, under a short name, for the claim. -/
theorem instrBack_holds : Rows.InstrBackCardSaid := instrBack.card
end Go.Proofs.YtklnkkejkeelaaaDoor
