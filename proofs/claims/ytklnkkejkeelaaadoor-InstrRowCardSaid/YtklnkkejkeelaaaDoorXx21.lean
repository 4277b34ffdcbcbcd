-- Printed by xprint, a tool of this work; Lean checks it.
import Derived.Test.YtklnkkejkeelaaaDoorXx0
import Derived.Test.YtklnkkejkeelaaaDoorXx3
import Derived.Test.YtklnkkejkeelaaaDoorXx4
import Derived.Test.YtklnkkejkeelaaaDoorXx6
import Derived.Test.YtklnkkejkeelaaaDoorXx9
namespace Go.Proofs.YtklnkkejkeelaaaDoor.X
open Go.RowKit Go.Proofs.YtklnkkejkeelaaaDoorW.PrintWords Go.Proofs.YtklnkkejkeelaaaDoorW.PrintLast Go.Proofs.YtklnkkejkeelaaaDoorW.PrintMore
attribute [local go_sem] max2_int min2_int max_two min_two max_three min_three max_four min_four   -- for this text's walks alone
set_option linter.unusedVariables false
set_option linter.unusedSimpArgs false

/-! ### avocetlaw05_InstrRow: function 9 -/
mutual
def avocetlaw05_InstrRow.l0 : Nat → List (S33) → Bool → List Int → List (S33) → Int → Option (Bool)
 | 0, _, _, _, _, _ => none
 | k + 1, x0, x3, x4, x5, x6 => if x6 < (x0.length : Int) then (if 0 ≤ x6 then ((avocetlaw05_small.f ((rd_T33 x0 x6).f0) ((rd_T33 x0 x6).f1) ((rd_T33 x0 x6).f2) ((rd_T33 x0 x6).f3) ((rd_T33 x0 x6).f4)).bind fun t516 => (if t516 = true then ((instr_Put.f k x4 ((rd_T33 x0 x6).f0) ((rd_T33 x0 x6).f1) ((rd_T33 x0 x6).f2) ((rd_T33 x0 x6).f3) ((rd_T33 x0 x6).f4)).bind fun bt518 => (if bt518.2 = 0 then (if x5.length < 2513169434916 then (avocetlaw05_InstrRow.l0 k x0 x3 bt518.1 (x5 ++ [(⟨(rd_T33 x0 x6).f0, (rd_T33 x0 x6).f1, (rd_T33 x0 x6).f2, (rd_T33 x0 x6).f3, (rd_T33 x0 x6).f4⟩ : S33)]) (wrap64 (x6 + 1))) else (none)) else (avocetlaw05_InstrRow.l0 k x0 x3 x4 x5 (wrap64 (x6 + 1))))) else (some x3))) else (none)) else (avocetlaw05_InstrRow.l1 k x3 x4 x5 0 0)
def avocetlaw05_InstrRow.l1 : Nat → Bool → List Int → List (S33) → Int → Int → Option (Bool)
 | 0, _, _, _, _, _ => none
 | k + 1, x3, x4, x5, x9, x10 => if x10 < (x5.length : Int) then ((instr_Read.f k x4 x9).bind fun bt526 => (if bt526.2.2.2.2.2.2 = 0 then (if 0 ≤ x10 then ((instr_Same.f k bt526.1 bt526.2.1 bt526.2.2.1 bt526.2.2.2.1 bt526.2.2.2.2.1 ((rd_T33 x5 x10).f0) ((rd_T33 x5 x10).f1) ((rd_T33 x5 x10).f2) ((rd_T33 x5 x10).f3) ((rd_T33 x5 x10).f4)).bind fun t537 => (if t537 = true then (if bt526.2.2.2.2.2.1 ≤ x9 then (none) else (avocetlaw05_InstrRow.l1 k x3 x4 x5 bt526.2.2.2.2.2.1 (wrap64 (x10 + 1)))) else (none))) else (none)) else (none))) else (if x3 = true then (some (x9 == (x4.length : Int))) else (none))
end
def avocetlaw05_InstrRow.f (k : Nat) (l0 : List (S33)) : Option (Bool) := (avocetlaw05_awake.f k).bind fun t514 => (if (l0.length : Int) > 40 then (some t514) else (avocetlaw05_InstrRow.l0 k l0 t514 ([] : List Int) ([] : List (S33)) 0))
theorem avocetlaw05_InstrRow.mono_l : ∀ k, (∀ y0 y1 y2 y3 y4, LeO (avocetlaw05_InstrRow.l0 k y0 y1 y2 y3 y4) (avocetlaw05_InstrRow.l0 (k + 1) y0 y1 y2 y3 y4)) ∧ (∀ y0 y1 y2 y3 y4, LeO (avocetlaw05_InstrRow.l1 k y0 y1 y2 y3 y4) (avocetlaw05_InstrRow.l1 (k + 1) y0 y1 y2 y3 y4))
 | 0 => ⟨fun _ _ _ _ _ r h => by simp [avocetlaw05_InstrRow.l0] at h, fun _ _ _ _ _ r h => by simp [avocetlaw05_InstrRow.l1] at h⟩
 | k + 1 => by
  obtain ⟨ih0, ih1⟩ := avocetlaw05_InstrRow.mono_l k
  refine ⟨?_, ?_⟩
  ·intro y0 y1 y2 y3 y4
   unfold avocetlaw05_InstrRow.l0
   repeat' first
   | (with_reducible exact ih0 _ _ _ _ _)
   | (with_reducible exact ih1 _ _ _ _ _)
   | (with_reducible exact avocetlaw05_awake.mono _)
   | (with_reducible exact instr_Put.mono _ _ _ _ _ _ _)
   | (with_reducible exact instr_Read.mono _ _ _)
   | (with_reducible exact instr_Same.mono _ _ _ _ _ _ _ _ _ _ _)
   | (with_reducible exact LeO.refl _)
   | (with_reducible exact LeO.none _)
   | (with_reducible refine LeO.ite ?_ ?_)
   | (with_reducible refine LeO.bind ?_ (fun _ => ?_))
   | exact ih0 _ _ _ _ _
   | exact ih1 _ _ _ _ _
   | exact avocetlaw05_awake.mono _
   | exact instr_Put.mono _ _ _ _ _ _ _
   | exact instr_Read.mono _ _ _
   | exact instr_Same.mono _ _ _ _ _ _ _ _ _ _ _
   | exact LeO.none _
   | refine LeO.ite ?_ ?_
   | refine LeO.bind ?_ (fun _ => ?_)
  ·intro y0 y1 y2 y3 y4
   unfold avocetlaw05_InstrRow.l1
   repeat' first
   | (with_reducible exact ih0 _ _ _ _ _)
   | (with_reducible exact ih1 _ _ _ _ _)
   | (with_reducible exact avocetlaw05_awake.mono _)
   | (with_reducible exact instr_Put.mono _ _ _ _ _ _ _)
   | (with_reducible exact instr_Read.mono _ _ _)
   | (with_reducible exact instr_Same.mono _ _ _ _ _ _ _ _ _ _ _)
   | (with_reducible exact LeO.refl _)
   | (with_reducible exact LeO.none _)
   | (with_reducible refine LeO.ite ?_ ?_)
   | (with_reducible refine LeO.bind ?_ (fun _ => ?_))
   | exact ih0 _ _ _ _ _
   | exact ih1 _ _ _ _ _
   | exact avocetlaw05_awake.mono _
   | exact instr_Put.mono _ _ _ _ _ _ _
   | exact instr_Read.mono _ _ _
   | exact instr_Same.mono _ _ _ _ _ _ _ _ _ _ _
   | exact LeO.none _
   | refine LeO.ite ?_ ?_
   | refine LeO.bind ?_ (fun _ => ?_)
theorem avocetlaw05_InstrRow.mono : ∀ a0 k, LeO (avocetlaw05_InstrRow.f k a0) (avocetlaw05_InstrRow.f (k + 1) a0) := by
 intro a0 k
 obtain ⟨ih0, ih1⟩ := avocetlaw05_InstrRow.mono_l k
 unfold avocetlaw05_InstrRow.f
 repeat' first
   | (with_reducible exact ih0 _ _ _ _ _)
   | (with_reducible exact ih1 _ _ _ _ _)
   | (with_reducible exact avocetlaw05_awake.mono _)
   | (with_reducible exact instr_Put.mono _ _ _ _ _ _ _)
   | (with_reducible exact instr_Read.mono _ _ _)
   | (with_reducible exact instr_Same.mono _ _ _ _ _ _ _ _ _ _ _)
   | (with_reducible exact LeO.refl _)
   | (with_reducible exact LeO.none _)
   | (with_reducible refine LeO.ite ?_ ?_)
   | (with_reducible refine LeO.bind ?_ (fun _ => ?_))
   | exact ih0 _ _ _ _ _
   | exact ih1 _ _ _ _ _
   | exact avocetlaw05_awake.mono _
   | exact instr_Put.mono _ _ _ _ _ _ _
   | exact instr_Read.mono _ _ _
   | exact instr_Same.mono _ _ _ _ _ _ _ _ _ _ _
   | exact LeO.none _
   | refine LeO.ite ?_ ?_
   | refine LeO.bind ?_ (fun _ => ?_)
def avocetlaw05_InstrRow.T20 : Bool × List (List Nat × List Nat) := (true, [([], []), ([0], [0]), ([1], [1]), ([2], [2]), ([2], [2]), ([2], [2]), ([4, 5, 2], [2, 4, 5]), ([6, 2], [2, 6]), ([3, 7, 2, 2], [2, 3, 7]), ([8, 2], [2, 8]), ([2, 9], [2, 9]), ([10, 8], [10]), ([11], [11]), ([11], [11]), ([12, 13, 11], [11, 12, 13]), ([11, 14], [11, 14])])
def avocetlaw05_InstrRow.B20 : List Nat := [0, 1, 3, 7, 7, 7, 55, 119, 255, 511, 1023, 2047, 4095, 4095, 16383, 32767]
theorem avocetlaw05_InstrRow.tab20 : rtab .any (opsOf Tryd.f9 20) = avocetlaw05_InstrRow.T20 := by kernel_rfl
theorem avocetlaw05_InstrRow.bits20 : waitsOk avocetlaw05_InstrRow.T20.2 avocetlaw05_InstrRow.B20 = true := by kernel_rfl
set_option maxHeartbeats 8000000 in
set_option maxRecDepth 100000 in
theorem avocetlaw05_InstrRow.calls (k : Nat) (P0_ : Nat → Prop) (A0 : Option Addr) (c0 : Nat) (l0 : List (S33)) (r : Bool) (w : World) (hG : Glob w) (hs0 : Kd.V k33 33 w w.heap.size (fun k_ => P0_ k_) (.slice A0 l0.length c0) l0) (h : avocetlaw05_InstrRow.f k l0 = some r) :
  Calls Tryd.prog 9 #[.slice A0 l0.length c0] w fun e w' => e = .returned (.bool r) ∧ Below w.heap.size w w' := by
 have hu33 := Tryd.underlying33
 have HG := Aside0.mk hG
 clear hG
 have HO0 := Aside0.mk (show Kd.V k33 33 w w.heap.size (fun k_ => (P0_ k_ ∨ w.heap.size ≤ k_)) (.slice A0 l0.length c0) l0 from Kd.V_mono hs0 (fun k_ hk => .inl hk))
 have HB := Aside0.mk (Below.refl w.heap.size w)
 have H : ((avocetlaw05_awake.f k).bind fun t514 => (if (l0.length : Int) > 40 then (some t514) else (avocetlaw05_InstrRow.l0 k l0 t514 ([] : List Int) ([] : List (S33)) 0))) = some r := h
 clear h
 replace H := Option.bind_eq_some_iff.mp H
 obtain ⟨t514, A20, H⟩ := H
 replace H : (if (l0.length : Int) > 40 then (some t514) else (avocetlaw05_InstrRow.l0 k l0 t514 ([] : List Int) ([] : List (S33)) 0)) = some r := H
 have A2 := Aside0.mk A20
 clear A20
 by_cases c3 : (l0.length : Int) > 40
 ·rw [if_pos c3] at H
  have c3b0 : decide (40 < (l0.length : Int)) = true := decide_eq_true c3
  have c3b1 : decide (40 < l0.length) = true := decide_eq_true (by omega)
  clear c3
  obtain rfl := Option.some.inj H
  go_enter Tryd.func9, Tryd.ntmps9
  go_wp2_with (first | ((with_reducible refine gate_callee (f := 22) rfl ?_); refine goesL_ (some 14) rfl rfl Tryd.func22 (by kernel_rfl) rfl #[] rfl am ?_; (with_reducible refine (avocetlaw05_awake.calls k  t514 _ ?side1 A2.out).mono ?_); (case side1 => exact Glob.below HG.out bl); rintro e w4 ⟨rfl, hb⟩; refine ⟨_, rfl, ?_⟩; have n0_ := Aside0.mk (Kd.V_below (by (with_reducible repeat (first | apply Kd.V_alloc | apply Kd.V_drewN | apply Kd.V_drew)); exact HO0.out) hb); have n1_ := Aside0.mk (below_step bl hb); clear HO0; clear HB; have HO0 := n0_; have HB := n1_; clear n0_ n1_; (try clear hb); (try clear hb2); (try clear hk); (try clear hi)))
  go_ret
  exact ⟨er, bl⟩
 ·rw [if_neg c3] at H
  have c3b0 : decide (40 < (l0.length : Int)) = false := decide_eq_false c3
  have c3b1 : decide (40 < l0.length) = false := decide_eq_false (by omega)
  clear c3
  have H' := Aside0.mk H
  clear H
  go_enter Tryd.func9, Tryd.ntmps9
  go_wp2_with (first | ((with_reducible refine gate_callee (f := 22) rfl ?_); refine goesL_ (some 14) rfl rfl Tryd.func22 (by kernel_rfl) rfl #[] rfl am ?_; (with_reducible refine (avocetlaw05_awake.calls k  t514 _ ?side1 A2.out).mono ?_); (case side1 => exact Glob.below HG.out bl); rintro e w5 ⟨rfl, hb⟩; refine ⟨_, rfl, ?_⟩; have n0_ := Aside0.mk (Kd.V_below (by (with_reducible repeat (first | apply Kd.V_alloc | apply Kd.V_drewN | apply Kd.V_drew)); exact HO0.out) hb); have n1_ := Aside0.mk (below_step bl hb); clear HO0; clear HB; have HO0 := n0_; have HB := n1_; clear n0_ n1_; (try clear hb); (try clear hb2); (try clear hk); (try clear hi)))
  go_loopg [4, 5, 6] k (fun kq v4 v5 v6 w' => ∃ (x4_1 : List Int) (x5_1 : List (S33)) (x6_1 : Int), v6 = .int .i64 x6_1 ∧ Aside0 (avocetlaw05_InstrRow.l0 kq l0 t514 x4_1 x5_1 x6_1 = some r) ∧ Aside0 (kq ≤ k) ∧ Aside0 (Kd.V k33 33 w' w.heap.size (fun k_ => (P0_ k_ ∨ w.heap.size ≤ k_) ∧ some k_ ≠ (v4 : Value).ownBlock ∧ some k_ ≠ (v5 : Value).ownBlock) (.slice A0 l0.length c0) l0) ∧ Aside0 (Kd.R (Kd.int .u8) 5 w' w.heap.size (fun k_ => (w.heap.size ≤ k_)) v4 x4_1) ∧ Aside0 (Kd.N k33 33 w' w.heap.size (fun k_ => (P0_ k_ ∨ w.heap.size ≤ k_) ∧ some k_ ≠ (v4 : Value).ownBlock) v5 x5_1) ∧ Aside0 (Below w.heap.size w w'))
  case atStart => exact ⟨(([] : List Int)), (([] : List (S33))), (0), rs, H', ⟨Nat.le_refl _⟩, ⟨by (with_reducible repeat (first | apply Kd.V_alloc | apply Kd.V_drewN | apply Kd.V_drew)); exact Kd.V_mono HO0.out (fun _ hk => ⟨hk, ⟨(by simp [Value.ownBlock]), (by simp [Value.ownBlock])⟩⟩)⟩, ⟨by first | exact Kd.R_nil _ _ _ _ _ | exact Kd.N_nil _ _ _ _ _ | exact Kd.V_nil _ _ _ _ _ | exact Kd.Q_nil _ _ _ _ _ | exact Kd.S_nil _ _ _ _ _⟩, ⟨by first | exact Kd.S_nil _ _ _ _ _ | exact Kd.N_nil _ _ _ _ _ | exact Kd.V_nil _ _ _ _ _ | exact Kd.Q_nil _ _ _ _ _ | exact Kd.R_nil _ _ _ _ _⟩, ⟨bl⟩⟩
  case round =>
   clear H'
   (try clear c2); (try clear p2); (try clear c3); (try clear c3b0); (try clear c3b1)
   obtain ⟨x4_1, x5_1, x6_1, rfl, HA, HK1, HO_0, HO_4, HO_5, HB⟩ := hrel
   cases gk with
   | zero => exact absurd HA.out (by simp [avocetlaw05_InstrRow.l0])
   | succ k1 =>
    have H := HA.out
    clear HA
    simp only [avocetlaw05_InstrRow.l0] at H
    by_cases c6 : x6_1 < (l0.length : Int)
    ·rw [if_pos c6] at H
     have c6b0 : decide (x6_1 < (l0.length : Int)) = true := decide_eq_true c6
     clear c6
     by_cases c7 : 0 ≤ x6_1
     ·rw [if_pos c7] at H
      have c7b0 : decide (0 ≤ x6_1) = true := decide_eq_true c7
      clear c7
      replace H := Option.bind_eq_some_iff.mp H
      obtain ⟨t516, A80, H⟩ := H
      replace H : (if t516 = true then ((instr_Put.f k1 x4_1 ((rd_T33 l0 x6_1).f0) ((rd_T33 l0 x6_1).f1) ((rd_T33 l0 x6_1).f2) ((rd_T33 l0 x6_1).f3) ((rd_T33 l0 x6_1).f4)).bind fun bt518 => (if bt518.2 = 0 then (if x5_1.length < 2513169434916 then (avocetlaw05_InstrRow.l0 k1 l0 t514 bt518.1 (x5_1 ++ [(⟨(rd_T33 l0 x6_1).f0, (rd_T33 l0 x6_1).f1, (rd_T33 l0 x6_1).f2, (rd_T33 l0 x6_1).f3, (rd_T33 l0 x6_1).f4⟩ : S33)]) (wrap64 (x6_1 + 1))) else (none)) else (avocetlaw05_InstrRow.l0 k1 l0 t514 x4_1 x5_1 (wrap64 (x6_1 + 1))))) else (some t514)) = some r := H
      have A8 := Aside0.mk A80
      clear A80
      by_cases c9 : t516 = true
      ·subst c9
       have H1 : ((instr_Put.f k1 x4_1 ((rd_T33 l0 x6_1).f0) ((rd_T33 l0 x6_1).f1) ((rd_T33 l0 x6_1).f2) ((rd_T33 l0 x6_1).f3) ((rd_T33 l0 x6_1).f4)).bind fun bt518 => (if bt518.2 = 0 then (if x5_1.length < 2513169434916 then (avocetlaw05_InstrRow.l0 k1 l0 t514 bt518.1 (x5_1 ++ [(⟨(rd_T33 l0 x6_1).f0, (rd_T33 l0 x6_1).f1, (rd_T33 l0 x6_1).f2, (rd_T33 l0 x6_1).f3, (rd_T33 l0 x6_1).f4⟩ : S33)]) (wrap64 (x6_1 + 1))) else (none)) else (avocetlaw05_InstrRow.l0 k1 l0 t514 x4_1 x5_1 (wrap64 (x6_1 + 1))))) = some r := by rw [if_pos rfl] at H; exact H
       clear H
       have H := H1
       clear H1
       replace H := Option.bind_eq_some_iff.mp H
       obtain ⟨⟨t518, t521⟩, A100, H⟩ := H
       replace H : (if t521 = 0 then (if x5_1.length < 2513169434916 then (avocetlaw05_InstrRow.l0 k1 l0 t514 t518 (x5_1 ++ [(⟨(rd_T33 l0 x6_1).f0, (rd_T33 l0 x6_1).f1, (rd_T33 l0 x6_1).f2, (rd_T33 l0 x6_1).f3, (rd_T33 l0 x6_1).f4⟩ : S33)]) (wrap64 (x6_1 + 1))) else (none)) else (avocetlaw05_InstrRow.l0 k1 l0 t514 x4_1 x5_1 (wrap64 (x6_1 + 1)))) = some r := H
       have A10 := Aside0.mk A100
       clear A100
       by_cases c11 : t521 = 0
       ·rw [if_pos c11] at H
        have c11b0 : (t521 == 0) = true := beq_iff_eq.mpr c11
        have c11b1 : (t521 != 0) = false := bne_eq_false_iff_eq.mpr c11
        clear c11
        by_cases c12 : x5_1.length < 2513169434916
        ·rw [if_pos c12] at H
         have LMc12 := Aside0.mk c12
         clear c12
         obtain ⟨y523, hy523⟩ : ∃ y_ : List (S33), y_ = (x5_1 ++ [(⟨(rd_T33 l0 x6_1).f0, (rd_T33 l0 x6_1).f1, (rd_T33 l0 x6_1).f2, (rd_T33 l0 x6_1).f3, (rd_T33 l0 x6_1).f4⟩ : S33)]) := ⟨_, rfl⟩
         replace H : (avocetlaw05_InstrRow.l0 k1 l0 t514 t518 y523 (wrap64 (x6_1 + 1))) = some r := by first | (rw [hy523]; with_reducible exact H) | (have H2_ := (Option.bind_some _ _).symm.trans H; rw [hy523]; with_reducible exact H2_) | (have H2_ := (Option.bind_some _ _).symm.trans H; with_reducible exact H2_) | with_reducible exact H | (rw [hy523]; exact H) | exact H
         have Ny523 := Aside0.mk hy523
         clear hy523
         have H' := Aside0.mk H
         clear H
         have p515 : 0 ≤ (x6_1 : Int) := of_decide_eq_true asm
         have q515 : x6_1 < (l0.length : Int) := of_decide_eq_true asm
         obtain ⟨ad515, A515_4, c515_4, e515, hx515_0, hx515_1, hx515_2, hx515_3, hx515_4, hl515_4, hi515_4⟩ := at_T33 (Kd.V_reads' HO_0.out).2.2 x6_1 p515 q515
         cases e515
         obtain ⟨ce515, hce515, hMe515, hcc515⟩ := Kd.V_get HO_0.out z33 x6_1 p515 (by first | exact q515 | exact of_decide_eq_true asm | (have e_ := (Kd.V_reads' HO_0.out).1; omega))
         obtain ⟨ua515_4, uc515_4, rfl, ul515_4, ge515_4⟩ := k33_openF hMe515
         have hv515_4 := hcc515 4 _ rfl
         rw [add_field _ _ 4 (by omega)] at hv515_4
         replace hv515_4 := Option.some.inj (hv515_4.symm.trans hx515_4)
         injection hv515_4 with hva_ hvn_ hvc_
         rw [hva_] at ge515_4
         rw [hvc_] at ul515_4
         have HL515_4 := Aside0.mk (show Kd.V (Kd.int .i64) 3 _ w.heap.size _ _ ((rd_T33 l0 x6_1).f4) from Kd.V_mk ul515_4 ge515_4)
         clear hva_ hvn_ hvc_ ge515_4 ul515_4
         clear hcc515 hce515
         have HR515_4 := Aside0.mk hi515_4
         have HC515_4 := Aside0.mk hl515_4
         clear hi515_4 hl515_4
         replace p515 := eq_true p515
         replace q515 := eq_true q515
         go_wp2_with (first | ((with_reducible refine gate_callee (f := 23) rfl ?_); refine goesL_ (some 29) rfl rfl Tryd.func23 (by kernel_rfl) rfl #[.agg #[.int .i64 ((rd_T33 l0 x6_1).f0), .int .i64 ((rd_T33 l0 x6_1).f1), .int .i64 ((rd_T33 l0 x6_1).f2), .int .u64 ((rd_T33 l0 x6_1).f3), .slice A515_4 ((rd_T33 l0 x6_1).f4).length c515_4]] rfl am ?_; (with_reducible refine (avocetlaw05_small.calls ((rd_T33 l0 x6_1).f0) ((rd_T33 l0 x6_1).f1) ((rd_T33 l0 x6_1).f2) ((rd_T33 l0 x6_1).f3) _ _ ((rd_T33 l0 x6_1).f4) true _ ?side1 ?side2 A8.out).mono ?_); (case side1 => repeat (first | exact (by repeat (first | (with_reducible exact HR515_4.out) | (with_reducible refine Kd.C_alloc ?_ _) | (with_reducible refine Kd.C_drewN ?_ _) | (with_reducible refine Kd.C_drew ?_) | exact HR515_4.out)) | (with_reducible refine Kd.C_alloc ?_ _) | (with_reducible refine Kd.C_drewN ?_ _) | (with_reducible refine Kd.C_drew ?_))); (case side2 => exact HC515_4.out); rintro e w13 ⟨rfl, hb⟩; refine ⟨_, rfl, ?_⟩; have n0_ := Aside0.mk (Kd.V_below (by (with_reducible repeat (first | apply Kd.V_alloc | apply Kd.V_drewN | apply Kd.V_drew)); exact HO_0.out) hb); have n1_ := Aside0.mk (Kd.R_below (ra HO_4) hb); have n2_ := Aside0.mk (Kd.N_below (by (with_reducible repeat (first | apply Kd.N_alloc | apply Kd.N_drewN | apply Kd.N_drew)); exact HO_5.out) hb); have n3_ := Aside0.mk (Kd.V_below (by (with_reducible repeat (first | apply Kd.V_alloc | apply Kd.V_drewN | apply Kd.V_drew)); exact HL515_4.out) hb); have n4_ := Aside0.mk (Kd.C_below (by repeat (first | (with_reducible exact HR515_4.out) | (with_reducible refine Kd.C_alloc ?_ _) | (with_reducible refine Kd.C_drewN ?_ _) | (with_reducible refine Kd.C_drew ?_) | exact HR515_4.out)) hb); have n5_ := Aside0.mk (below_step bl hb); clear HO_0; clear HO_4; clear HO_5; clear HL515_4; clear HR515_4; clear HB; have HO_0 := n0_; have HO_4 := n1_; have HO_5 := n2_; have HL515_4 := n3_; have HR515_4 := n4_; have HB := n5_; clear n0_ n1_ n2_ n3_ n4_ n5_; (try clear hb); (try clear hb2); (try clear hk); (try clear hi); have p517 : 0 ≤ (x6_1 : Int) := of_decide_eq_true asm; have q517 : x6_1 < (l0.length : Int) := of_decide_eq_true asm; obtain ⟨ad517, A517_4, c517_4, e517, hx517_0, hx517_1, hx517_2, hx517_3, hx517_4, hl517_4, hi517_4⟩ := at_T33 (Kd.V_reads' HO_0.out).2.2 x6_1 p517 q517; obtain rfl : ad515 = ad517 := (by injection e517); obtain ⟨ce517, hce517, hMe517, hcc517⟩ := Kd.V_get HO_0.out z33 x6_1 p517 (by first | exact q517 | exact of_decide_eq_true asm | (have e_ := (Kd.V_reads' HO_0.out).1; omega)); obtain ⟨ua517_4, uc517_4, rfl, ul517_4, ge517_4⟩ := k33_openF hMe517; have hv517_4 := hcc517 4 _ rfl; rw [add_field _ _ 4 (by omega)] at hv517_4; replace hv517_4 := Option.some.inj (hv517_4.symm.trans hx517_4); injection hv517_4 with hva_ hvn_ hvc_; rw [hva_] at ge517_4; rw [hvc_] at ul517_4; have HL517_4 := Aside0.mk (show Kd.V (Kd.int .i64) 3 _ w.heap.size _ _ ((rd_T33 l0 x6_1).f4) from Kd.V_mk ul517_4 ge517_4); clear hva_ hvn_ hvc_ ge517_4 ul517_4; clear hcc517 hce517; have HR517_4 := Aside0.mk hi517_4; have HC517_4 := Aside0.mk hl517_4; clear hi517_4 hl517_4; replace p517 := eq_true p517; replace q517 := eq_true q517; obtain ⟨Ao14, co14, eo14⟩ := Kd.R_slice HO_4.out; subst eo14) | ((with_reducible refine gate_callee (f := 24) rfl ?_); refine goesL_ (some 38) rfl rfl Tryd.func24 (by kernel_rfl) rfl #[.slice Ao14 x4_1.length co14, .agg #[.int .i64 ((rd_T33 l0 x6_1).f0), .int .i64 ((rd_T33 l0 x6_1).f1), .int .i64 ((rd_T33 l0 x6_1).f2), .int .u64 ((rd_T33 l0 x6_1).f3), .slice A517_4 ((rd_T33 l0 x6_1).f4).length c517_4]] rfl am ?_; (with_reducible refine (instr_Put.calls k1 _ _ x4_1 ((rd_T33 l0 x6_1).f0) ((rd_T33 l0 x6_1).f1) ((rd_T33 l0 x6_1).f2) ((rd_T33 l0 x6_1).f3) _ _ ((rd_T33 l0 x6_1).f4) t518 t521 _ ?side1 ?side2 ?side3 ?side4 ?side5 A10.out).mono ?_); (case side1 => exact Glob.below HG.out bl); (case side2 => repeat (first | exact (Kd.R_reads' HO_4.out).2.2 | (with_reducible refine Kd.C_alloc ?_ _) | (with_reducible refine Kd.C_drewN ?_ _) | (with_reducible refine Kd.C_drew ?_))); (case side3 => exact (Kd.R_reads' HO_4.out).2.1); (case side4 => repeat (first | exact (by repeat (first | (with_reducible exact HR517_4.out) | (with_reducible refine Kd.C_alloc ?_ _) | (with_reducible refine Kd.C_drewN ?_ _) | (with_reducible refine Kd.C_drew ?_) | exact HR517_4.out)) | (with_reducible refine Kd.C_alloc ?_ _) | (with_reducible refine Kd.C_drewN ?_ _) | (with_reducible refine Kd.C_drew ?_))); (case side5 => exact HC517_4.out); rintro e w15 ⟨v519, rfl, ho0, hb⟩; refine ⟨_, rfl, ?_⟩; have n0_ := Aside0.mk (Kd.V_elder' (by (with_reducible repeat (first | apply Kd.V_alloc | apply Kd.V_drewN | apply Kd.V_drew)); exact HO_0.out) (Kd.R_base ho0) hb); have n1_ := Aside0.mk (Kd.R_elder' (ra HO_4) (Kd.R_base ho0) hb); have n2_ := Aside0.mk (Kd.N_elder' (by (with_reducible repeat (first | apply Kd.N_alloc | apply Kd.N_drewN | apply Kd.N_drew)); exact HO_5.out) (Kd.R_base ho0) hb); have n3_ := Aside0.mk (Kd.V_elder' (by (with_reducible repeat (first | apply Kd.V_alloc | apply Kd.V_drewN | apply Kd.V_drew)); exact HL515_4.out) (Kd.R_base ho0) hb); have n4_ := Aside0.mk (Kd.V_elder' (by (with_reducible repeat (first | apply Kd.V_alloc | apply Kd.V_drewN | apply Kd.V_drew)); exact HL517_4.out) (Kd.R_base ho0) hb); have n5_ := Aside0.mk (Kd.R_lower (Kd.R_new' (Kd.R_newM (M := fun k_ => (w.heap.size ≤ k_)) ho0 (below_size bl) (fun k_ h_ => h_)) (Kd.R_lt (ra HO_4))) (below_size bl)); have n6_ := Aside0.mk (Kd.C_below (by repeat (first | (with_reducible exact HR515_4.out) | (with_reducible refine Kd.C_alloc ?_ _) | (with_reducible refine Kd.C_drewN ?_ _) | (with_reducible refine Kd.C_drew ?_) | exact HR515_4.out)) hb); have n7_ := Aside0.mk (Kd.C_below (by repeat (first | (with_reducible exact HR517_4.out) | (with_reducible refine Kd.C_alloc ?_ _) | (with_reducible refine Kd.C_drewN ?_ _) | (with_reducible refine Kd.C_drew ?_) | exact HR517_4.out)) hb); have n8_ := Aside0.mk (below_step bl hb); clear HO_0; clear HO_4; clear HO_5; clear HL515_4; clear HL517_4; clear HR515_4; clear HR517_4; clear HB; have HO_0 := n0_; have HO_4 := n1_; have HO_5 := n2_; have HL515_4 := n3_; have HL517_4 := n4_; have HO520 := n5_; have HR515_4 := n6_; have HR517_4 := n7_; have HB := n8_; clear n0_ n1_ n2_ n3_ n4_ n5_ n6_ n7_ n8_; (try clear hb); (try clear hb2); (try clear hk); (try clear hi); (try clear ho0); have p522 : 0 ≤ (x6_1 : Int) := of_decide_eq_true asm; have q522 : x6_1 < (l0.length : Int) := of_decide_eq_true asm; obtain ⟨ad522, A522_4, c522_4, e522, hx522_0, hx522_1, hx522_2, hx522_3, hx522_4, hl522_4, hi522_4⟩ := at_T33 (Kd.V_reads' HO_0.out).2.2 x6_1 p522 q522; obtain rfl : ad515 = ad522 := (by injection e522); obtain ⟨ce522, hce522, hMe522, hcc522⟩ := Kd.V_get HO_0.out z33 x6_1 p522 (by first | exact q522 | exact of_decide_eq_true asm | (have e_ := (Kd.V_reads' HO_0.out).1; omega)); obtain ⟨ua522_4, uc522_4, rfl, ul522_4, ge522_4⟩ := k33_openF hMe522; have hv522_4 := hcc522 4 _ rfl; rw [add_field _ _ 4 (by omega)] at hv522_4; replace hv522_4 := Option.some.inj (hv522_4.symm.trans hx522_4); injection hv522_4 with hva_ hvn_ hvc_; rw [hva_] at ge522_4; rw [hvc_] at ul522_4; have HL522_4 := Aside0.mk (show Kd.V (Kd.int .i64) 3 _ w.heap.size _ _ ((rd_T33 l0 x6_1).f4) from Kd.V_mk ul522_4 ge522_4); clear hva_ hvn_ hvc_ ge522_4 ul522_4; clear hcc522 hce522; have HR522_4 := Aside0.mk hi522_4; have HC522_4 := Aside0.mk hl522_4; clear hi522_4 hl522_4; replace p522 := eq_true p522; replace q522 := eq_true q522) | ((with_reducible refine gate_builtin (b := .append) (xs := #[.tmp 44, .tmp 49]) rfl ?_); (try (refine gate_guard (by rfl) ?_; dsimp only)); at_builtin; refine Kd.N_append k33 (w0 := w) w.heap.size rfl (.tmp 44) (.tmp 49) 22 33 (.agg #[(.int .i64 0), (.int .i64 0), (.int .i64 0), (.int .u64 0), (.slice none 0 0)]) 56 rfl Tryd.underlying22 info33 rfl (by decide) (by omega) u5 x5_1 (⟨(rd_T33 l0 x6_1).f0, (rd_T33 l0 x6_1).f1, (rd_T33 l0 x6_1).f2, (rd_T33 l0 x6_1).f3, (rd_T33 l0 x6_1).f4⟩ : S33) [.int .i64 ((rd_T33 l0 x6_1).f0), .int .i64 ((rd_T33 l0 x6_1).f1), .int .i64 ((rd_T33 l0 x6_1).f2), .int .u64 ((rd_T33 l0 x6_1).f3), .slice A522_4 ((rd_T33 l0 x6_1).f4).length c522_4] (fun k_ => (P0_ k_ ∨ w.heap.size ≤ k_) ∧ some k_ ≠ (.slice Ao14 x4_1.length co14 : Value).ownBlock ∧ some k_ ≠ (v519 : Value).ownBlock) (fun k_ => ((fun k_ => (P0_ k_ ∨ w.heap.size ≤ k_) ∧ some k_ ≠ (.slice Ao14 x4_1.length co14 : Value).ownBlock ∧ some k_ ≠ (v519 : Value).ownBlock)) k_ ∧ some k_ ≠ (u5 : Value).ownBlock) rfl rfl ?aP (fun _ hk => hk) ?aF ?aO ?aB ?aS ?aL ?_; (case aP => exact (k33_mkF _ _ (⟨(rd_T33 l0 x6_1).f0, (rd_T33 l0 x6_1).f1, (rd_T33 l0 x6_1).f2, (rd_T33 l0 x6_1).f3, (rd_T33 l0 x6_1).f4⟩ : S33) (Kd.V_reads' (Kd.V_mono (ok' := (fun k_ => ((fun k_ => (P0_ k_ ∨ w.heap.size ≤ k_) ∧ some k_ ≠ (.slice Ao14 x4_1.length co14 : Value).ownBlock ∧ some k_ ≠ (v519 : Value).ownBlock)) k_ ∧ some k_ ≠ (u5 : Value).ownBlock)) (HL522_4.out) (fun k_ hk => ⟨⟨hk.1.1, ⟨hk.1.2.1, hk.2⟩⟩, hk.1.2.2⟩))).2.1 (Kd.V_F (Kd.V_mono (ok' := (fun k_ => ((fun k_ => (P0_ k_ ∨ w.heap.size ≤ k_) ∧ some k_ ≠ (.slice Ao14 x4_1.length co14 : Value).ownBlock ∧ some k_ ≠ (v519 : Value).ownBlock)) k_ ∧ some k_ ≠ (u5 : Value).ownBlock)) (HL522_4.out) (fun k_ hk => ⟨⟨hk.1.1, ⟨hk.1.2.1, hk.2⟩⟩, hk.1.2.2⟩))))); (case aB => exact bl); (case aF => exact (fun k_ hk => ⟨(.inr (Nat.le_trans (below_size bl) hk)), Kd.fresh' (Kd.R_lt (ra HO_4)) k_ hk, Kd.fresh' (Kd.R_lt (ra HO520)) k_ hk⟩)); (case aO => exact (by (with_reducible repeat (first | apply Kd.N_alloc | apply Kd.N_drewN | apply Kd.N_drew)); exact Kd.N_mono HO_5.out (fun _ hk => ⟨hk.1.1, ⟨hk.1.2, hk.2⟩⟩))); (case aS => exact (below_size bl)); (case aL => have := LMc12.out; omega); intro v524 w16 ho hb hg hat; rw [← Ny523.out] at ho; have n0_ := Aside0.mk (Kd.V_afterv (ok := (fun k_ => (P0_ k_ ∨ w.heap.size ≤ k_) ∧ some k_ ≠ (.slice Ao14 x4_1.length co14 : Value).ownBlock ∧ some k_ ≠ (v519 : Value).ownBlock)) (by (with_reducible repeat (first | apply Kd.V_alloc | apply Kd.V_drewN | apply Kd.V_drew)); exact Kd.V_mono HO_0.out (fun _ hk => ⟨⟨hk.1.1, ⟨hk.1.2.1, hk.2⟩⟩, hk.1.2.2⟩)) hg hat); have n1_ := Aside0.mk (Kd.R_over' (ra HO_4) (Kd.N_typed (by (with_reducible repeat (first | apply Kd.N_alloc | apply Kd.N_drewN | apply Kd.N_drew)); exact HO_5.out)) (by decide) hg); have n2_ := Aside0.mk (Kd.V_afterv (ok := (fun k_ => (P0_ k_ ∨ w.heap.size ≤ k_) ∧ some k_ ≠ (.slice Ao14 x4_1.length co14 : Value).ownBlock ∧ some k_ ≠ (v519 : Value).ownBlock)) (by (with_reducible repeat (first | apply Kd.V_alloc | apply Kd.V_drewN | apply Kd.V_drew)); exact Kd.V_mono HL515_4.out (fun _ hk => ⟨⟨hk.1.1, ⟨hk.1.2.1, hk.2⟩⟩, hk.1.2.2⟩)) hg hat); have n3_ := Aside0.mk (Kd.V_afterv (ok := (fun k_ => (P0_ k_ ∨ w.heap.size ≤ k_) ∧ some k_ ≠ (.slice Ao14 x4_1.length co14 : Value).ownBlock ∧ some k_ ≠ (v519 : Value).ownBlock)) (by (with_reducible repeat (first | apply Kd.V_alloc | apply Kd.V_drewN | apply Kd.V_drew)); exact Kd.V_mono HL517_4.out (fun _ hk => ⟨⟨hk.1.1, ⟨hk.1.2.1, hk.2⟩⟩, hk.1.2.2⟩)) hg hat); have n4_ := Aside0.mk (Kd.R_over' (ra HO520) (Kd.N_typed (by (with_reducible repeat (first | apply Kd.N_alloc | apply Kd.N_drewN | apply Kd.N_drew)); exact HO_5.out)) (by decide) hg); have n5_ := Aside0.mk (Kd.V_afterv (ok := (fun k_ => (P0_ k_ ∨ w.heap.size ≤ k_) ∧ some k_ ≠ (.slice Ao14 x4_1.length co14 : Value).ownBlock ∧ some k_ ≠ (v519 : Value).ownBlock)) (by (with_reducible repeat (first | apply Kd.V_alloc | apply Kd.V_drewN | apply Kd.V_drew)); exact Kd.V_mono HL522_4.out (fun _ hk => ⟨⟨hk.1.1, ⟨hk.1.2.1, hk.2⟩⟩, hk.1.2.2⟩)) hg hat); have n6_ := Aside0.mk (hb); have n7_ := Aside0.mk (ho); clear HO_0; clear HO_4; clear HL515_4; clear HL517_4; clear HO520; clear HL522_4; clear HB; clear HO_5; have HO_0 := n0_; have HO_4 := n1_; have HL515_4 := n2_; have HL517_4 := n3_; have HO520 := n4_; have HL522_4 := n5_; have HB := n6_; have HO525 := n7_; clear n0_ n1_ n2_ n3_ n4_ n5_ n6_ n7_; clear ho hb hg hat))
         go_roundg k1
         case measure => have := HK1.out; omega
         case rel => exact ⟨(t518), (y523), (wrap64 (x6_1 + 1)), rs, H', ⟨by have := HK1.out; omega⟩, ⟨by (with_reducible repeat (first | apply Kd.V_alloc | apply Kd.V_drewN | apply Kd.V_drew)); exact Kd.V_mono HO_0.out (fun _ hk => ⟨hk.1.1, ⟨hk.1.2.2, hk.2⟩⟩)⟩, ⟨by (with_reducible repeat (first | apply Kd.R_alloc | apply Kd.R_drewN | apply Kd.R_drew)); exact Kd.R_mono HO520.out (fun _ hk => hk.1.1)⟩, ⟨by (with_reducible repeat (first | apply Kd.N_alloc | apply Kd.N_drewN | apply Kd.N_drew)); exact Kd.N_mono HO525.out (fun _ hk => ⟨hk.1, hk.2.2⟩)⟩, ⟨bl⟩⟩
        ·rw [if_neg c12] at H
         exact absurd H (by simp)
       ·rw [if_neg c11] at H
        have c11b0 : (t521 == 0) = false := beq_eq_false_iff_ne.mpr c11
        have c11b1 : (t521 != 0) = true := bne_iff_ne.mpr c11
        have H' := Aside0.mk H
        clear H
        have p515 : 0 ≤ (x6_1 : Int) := of_decide_eq_true asm
        have q515 : x6_1 < (l0.length : Int) := of_decide_eq_true asm
        obtain ⟨ad515, A515_4, c515_4, e515, hx515_0, hx515_1, hx515_2, hx515_3, hx515_4, hl515_4, hi515_4⟩ := at_T33 (Kd.V_reads' HO_0.out).2.2 x6_1 p515 q515
        cases e515
        obtain ⟨ce515, hce515, hMe515, hcc515⟩ := Kd.V_get HO_0.out z33 x6_1 p515 (by first | exact q515 | exact of_decide_eq_true asm | (have e_ := (Kd.V_reads' HO_0.out).1; omega))
        obtain ⟨ua515_4, uc515_4, rfl, ul515_4, ge515_4⟩ := k33_openF hMe515
        have hv515_4 := hcc515 4 _ rfl
        rw [add_field _ _ 4 (by omega)] at hv515_4
        replace hv515_4 := Option.some.inj (hv515_4.symm.trans hx515_4)
        injection hv515_4 with hva_ hvn_ hvc_
        rw [hva_] at ge515_4
        rw [hvc_] at ul515_4
        have HL515_4 := Aside0.mk (show Kd.V (Kd.int .i64) 3 _ w.heap.size _ _ ((rd_T33 l0 x6_1).f4) from Kd.V_mk ul515_4 ge515_4)
        clear hva_ hvn_ hvc_ ge515_4 ul515_4
        clear hcc515 hce515
        have HR515_4 := Aside0.mk hi515_4
        have HC515_4 := Aside0.mk hl515_4
        clear hi515_4 hl515_4
        replace p515 := eq_true p515
        replace q515 := eq_true q515
        go_wp2_with (first | ((with_reducible refine gate_callee (f := 23) rfl ?_); refine goesL_ (some 29) rfl rfl Tryd.func23 (by kernel_rfl) rfl #[.agg #[.int .i64 ((rd_T33 l0 x6_1).f0), .int .i64 ((rd_T33 l0 x6_1).f1), .int .i64 ((rd_T33 l0 x6_1).f2), .int .u64 ((rd_T33 l0 x6_1).f3), .slice A515_4 ((rd_T33 l0 x6_1).f4).length c515_4]] rfl am ?_; (with_reducible refine (avocetlaw05_small.calls ((rd_T33 l0 x6_1).f0) ((rd_T33 l0 x6_1).f1) ((rd_T33 l0 x6_1).f2) ((rd_T33 l0 x6_1).f3) _ _ ((rd_T33 l0 x6_1).f4) true _ ?side1 ?side2 A8.out).mono ?_); (case side1 => repeat (first | exact (by repeat (first | (with_reducible exact HR515_4.out) | (with_reducible refine Kd.C_alloc ?_ _) | (with_reducible refine Kd.C_drewN ?_ _) | (with_reducible refine Kd.C_drew ?_) | exact HR515_4.out)) | (with_reducible refine Kd.C_alloc ?_ _) | (with_reducible refine Kd.C_drewN ?_ _) | (with_reducible refine Kd.C_drew ?_))); (case side2 => exact HC515_4.out); rintro e w17 ⟨rfl, hb⟩; refine ⟨_, rfl, ?_⟩; have n0_ := Aside0.mk (Kd.V_below (by (with_reducible repeat (first | apply Kd.V_alloc | apply Kd.V_drewN | apply Kd.V_drew)); exact HO_0.out) hb); have n1_ := Aside0.mk (Kd.R_below (ra HO_4) hb); have n2_ := Aside0.mk (Kd.N_below (by (with_reducible repeat (first | apply Kd.N_alloc | apply Kd.N_drewN | apply Kd.N_drew)); exact HO_5.out) hb); have n3_ := Aside0.mk (Kd.V_below (by (with_reducible repeat (first | apply Kd.V_alloc | apply Kd.V_drewN | apply Kd.V_drew)); exact HL515_4.out) hb); have n4_ := Aside0.mk (Kd.C_below (by repeat (first | (with_reducible exact HR515_4.out) | (with_reducible refine Kd.C_alloc ?_ _) | (with_reducible refine Kd.C_drewN ?_ _) | (with_reducible refine Kd.C_drew ?_) | exact HR515_4.out)) hb); have n5_ := Aside0.mk (below_step bl hb); clear HO_0; clear HO_4; clear HO_5; clear HL515_4; clear HR515_4; clear HB; have HO_0 := n0_; have HO_4 := n1_; have HO_5 := n2_; have HL515_4 := n3_; have HR515_4 := n4_; have HB := n5_; clear n0_ n1_ n2_ n3_ n4_ n5_; (try clear hb); (try clear hb2); (try clear hk); (try clear hi); have p517 : 0 ≤ (x6_1 : Int) := of_decide_eq_true asm; have q517 : x6_1 < (l0.length : Int) := of_decide_eq_true asm; obtain ⟨ad517, A517_4, c517_4, e517, hx517_0, hx517_1, hx517_2, hx517_3, hx517_4, hl517_4, hi517_4⟩ := at_T33 (Kd.V_reads' HO_0.out).2.2 x6_1 p517 q517; obtain rfl : ad515 = ad517 := (by injection e517); obtain ⟨ce517, hce517, hMe517, hcc517⟩ := Kd.V_get HO_0.out z33 x6_1 p517 (by first | exact q517 | exact of_decide_eq_true asm | (have e_ := (Kd.V_reads' HO_0.out).1; omega)); obtain ⟨ua517_4, uc517_4, rfl, ul517_4, ge517_4⟩ := k33_openF hMe517; have hv517_4 := hcc517 4 _ rfl; rw [add_field _ _ 4 (by omega)] at hv517_4; replace hv517_4 := Option.some.inj (hv517_4.symm.trans hx517_4); injection hv517_4 with hva_ hvn_ hvc_; rw [hva_] at ge517_4; rw [hvc_] at ul517_4; have HL517_4 := Aside0.mk (show Kd.V (Kd.int .i64) 3 _ w.heap.size _ _ ((rd_T33 l0 x6_1).f4) from Kd.V_mk ul517_4 ge517_4); clear hva_ hvn_ hvc_ ge517_4 ul517_4; clear hcc517 hce517; have HR517_4 := Aside0.mk hi517_4; have HC517_4 := Aside0.mk hl517_4; clear hi517_4 hl517_4; replace p517 := eq_true p517; replace q517 := eq_true q517; obtain ⟨Ao18, co18, eo18⟩ := Kd.R_slice HO_4.out; subst eo18) | ((with_reducible refine gate_callee (f := 24) rfl ?_); refine goesL_ (some 38) rfl rfl Tryd.func24 (by kernel_rfl) rfl #[.slice Ao18 x4_1.length co18, .agg #[.int .i64 ((rd_T33 l0 x6_1).f0), .int .i64 ((rd_T33 l0 x6_1).f1), .int .i64 ((rd_T33 l0 x6_1).f2), .int .u64 ((rd_T33 l0 x6_1).f3), .slice A517_4 ((rd_T33 l0 x6_1).f4).length c517_4]] rfl am ?_; (with_reducible refine (instr_Put.calls k1 _ _ x4_1 ((rd_T33 l0 x6_1).f0) ((rd_T33 l0 x6_1).f1) ((rd_T33 l0 x6_1).f2) ((rd_T33 l0 x6_1).f3) _ _ ((rd_T33 l0 x6_1).f4) t518 t521 _ ?side1 ?side2 ?side3 ?side4 ?side5 A10.out).mono ?_); (case side1 => exact Glob.below HG.out bl); (case side2 => repeat (first | exact (Kd.R_reads' HO_4.out).2.2 | (with_reducible refine Kd.C_alloc ?_ _) | (with_reducible refine Kd.C_drewN ?_ _) | (with_reducible refine Kd.C_drew ?_))); (case side3 => exact (Kd.R_reads' HO_4.out).2.1); (case side4 => repeat (first | exact (by repeat (first | (with_reducible exact HR517_4.out) | (with_reducible refine Kd.C_alloc ?_ _) | (with_reducible refine Kd.C_drewN ?_ _) | (with_reducible refine Kd.C_drew ?_) | exact HR517_4.out)) | (with_reducible refine Kd.C_alloc ?_ _) | (with_reducible refine Kd.C_drewN ?_ _) | (with_reducible refine Kd.C_drew ?_))); (case side5 => exact HC517_4.out); rintro e w19 ⟨v519, rfl, ho0, hb⟩; refine ⟨_, rfl, ?_⟩; have n0_ := Aside0.mk (Kd.V_elder' (by (with_reducible repeat (first | apply Kd.V_alloc | apply Kd.V_drewN | apply Kd.V_drew)); exact HO_0.out) (Kd.R_base ho0) hb); have n1_ := Aside0.mk (Kd.R_elder' (ra HO_4) (Kd.R_base ho0) hb); have n2_ := Aside0.mk (Kd.N_elder' (by (with_reducible repeat (first | apply Kd.N_alloc | apply Kd.N_drewN | apply Kd.N_drew)); exact HO_5.out) (Kd.R_base ho0) hb); have n3_ := Aside0.mk (Kd.V_elder' (by (with_reducible repeat (first | apply Kd.V_alloc | apply Kd.V_drewN | apply Kd.V_drew)); exact HL515_4.out) (Kd.R_base ho0) hb); have n4_ := Aside0.mk (Kd.V_elder' (by (with_reducible repeat (first | apply Kd.V_alloc | apply Kd.V_drewN | apply Kd.V_drew)); exact HL517_4.out) (Kd.R_base ho0) hb); have n5_ := Aside0.mk (Kd.R_lower (Kd.R_new' (Kd.R_newM (M := fun k_ => (w.heap.size ≤ k_)) ho0 (below_size bl) (fun k_ h_ => h_)) (Kd.R_lt (ra HO_4))) (below_size bl)); have n6_ := Aside0.mk (Kd.C_below (by repeat (first | (with_reducible exact HR515_4.out) | (with_reducible refine Kd.C_alloc ?_ _) | (with_reducible refine Kd.C_drewN ?_ _) | (with_reducible refine Kd.C_drew ?_) | exact HR515_4.out)) hb); have n7_ := Aside0.mk (Kd.C_below (by repeat (first | (with_reducible exact HR517_4.out) | (with_reducible refine Kd.C_alloc ?_ _) | (with_reducible refine Kd.C_drewN ?_ _) | (with_reducible refine Kd.C_drew ?_) | exact HR517_4.out)) hb); have n8_ := Aside0.mk (below_step bl hb); clear HO_0; clear HO_4; clear HO_5; clear HL515_4; clear HL517_4; clear HR515_4; clear HR517_4; clear HB; have HO_0 := n0_; have HO_4 := n1_; have HO_5 := n2_; have HL515_4 := n3_; have HL517_4 := n4_; have HO520 := n5_; have HR515_4 := n6_; have HR517_4 := n7_; have HB := n8_; clear n0_ n1_ n2_ n3_ n4_ n5_ n6_ n7_ n8_; (try clear hb); (try clear hb2); (try clear hk); (try clear hi); (try clear ho0)))
        go_roundg k1
        case measure => have := HK1.out; omega
        case rel => exact ⟨(x4_1), (x5_1), (wrap64 (x6_1 + 1)), rs, H', ⟨by have := HK1.out; omega⟩, ⟨by (with_reducible repeat (first | apply Kd.V_alloc | apply Kd.V_drewN | apply Kd.V_drew)); exact Kd.V_mono HO_0.out (fun _ hk => ⟨hk.1.1, ⟨hk.1.2.1, hk.1.2.2⟩⟩)⟩, ⟨by (with_reducible repeat (first | apply Kd.R_alloc | apply Kd.R_drewN | apply Kd.R_drew)); exact Kd.R_mono HO_4.out (fun _ hk => hk.1)⟩, ⟨by (with_reducible repeat (first | apply Kd.N_alloc | apply Kd.N_drewN | apply Kd.N_drew)); exact Kd.N_mono HO_5.out (fun _ hk => ⟨hk.1.1, hk.1.2⟩)⟩, ⟨bl⟩⟩
      ·replace c9 := Bool.eq_false_iff.mpr c9
       subst c9
       have H1 : (some t514) = some r := by rw [if_neg (show ¬ (false = true) by decide)] at H; exact H
       clear H
       have H := H1
       clear H1
       obtain rfl := Option.some.inj H
       have p515 : 0 ≤ (x6_1 : Int) := of_decide_eq_true asm
       have q515 : x6_1 < (l0.length : Int) := of_decide_eq_true asm
       obtain ⟨ad515, A515_4, c515_4, e515, hx515_0, hx515_1, hx515_2, hx515_3, hx515_4, hl515_4, hi515_4⟩ := at_T33 (Kd.V_reads' HO_0.out).2.2 x6_1 p515 q515
       cases e515
       obtain ⟨ce515, hce515, hMe515, hcc515⟩ := Kd.V_get HO_0.out z33 x6_1 p515 (by first | exact q515 | exact of_decide_eq_true asm | (have e_ := (Kd.V_reads' HO_0.out).1; omega))
       obtain ⟨ua515_4, uc515_4, rfl, ul515_4, ge515_4⟩ := k33_openF hMe515
       have hv515_4 := hcc515 4 _ rfl
       rw [add_field _ _ 4 (by omega)] at hv515_4
       replace hv515_4 := Option.some.inj (hv515_4.symm.trans hx515_4)
       injection hv515_4 with hva_ hvn_ hvc_
       rw [hva_] at ge515_4
       rw [hvc_] at ul515_4
       have HL515_4 := Aside0.mk (show Kd.V (Kd.int .i64) 3 _ w.heap.size _ _ ((rd_T33 l0 x6_1).f4) from Kd.V_mk ul515_4 ge515_4)
       clear hva_ hvn_ hvc_ ge515_4 ul515_4
       clear hcc515 hce515
       have HR515_4 := Aside0.mk hi515_4
       have HC515_4 := Aside0.mk hl515_4
       clear hi515_4 hl515_4
       replace p515 := eq_true p515
       replace q515 := eq_true q515
       go_wp2_with (first | ((with_reducible refine gate_callee (f := 23) rfl ?_); refine goesL_ (some 29) rfl rfl Tryd.func23 (by kernel_rfl) rfl #[.agg #[.int .i64 ((rd_T33 l0 x6_1).f0), .int .i64 ((rd_T33 l0 x6_1).f1), .int .i64 ((rd_T33 l0 x6_1).f2), .int .u64 ((rd_T33 l0 x6_1).f3), .slice A515_4 ((rd_T33 l0 x6_1).f4).length c515_4]] rfl am ?_; (with_reducible refine (avocetlaw05_small.calls ((rd_T33 l0 x6_1).f0) ((rd_T33 l0 x6_1).f1) ((rd_T33 l0 x6_1).f2) ((rd_T33 l0 x6_1).f3) _ _ ((rd_T33 l0 x6_1).f4) false _ ?side1 ?side2 A8.out).mono ?_); (case side1 => repeat (first | exact (by repeat (first | (with_reducible exact HR515_4.out) | (with_reducible refine Kd.C_alloc ?_ _) | (with_reducible refine Kd.C_drewN ?_ _) | (with_reducible refine Kd.C_drew ?_) | exact HR515_4.out)) | (with_reducible refine Kd.C_alloc ?_ _) | (with_reducible refine Kd.C_drewN ?_ _) | (with_reducible refine Kd.C_drew ?_))); (case side2 => exact HC515_4.out); rintro e w20 ⟨rfl, hb⟩; refine ⟨_, rfl, ?_⟩; have n0_ := Aside0.mk (Kd.V_below (by (with_reducible repeat (first | apply Kd.V_alloc | apply Kd.V_drewN | apply Kd.V_drew)); exact HO_0.out) hb); have n1_ := Aside0.mk (Kd.R_below (ra HO_4) hb); have n2_ := Aside0.mk (Kd.N_below (by (with_reducible repeat (first | apply Kd.N_alloc | apply Kd.N_drewN | apply Kd.N_drew)); exact HO_5.out) hb); have n3_ := Aside0.mk (Kd.V_below (by (with_reducible repeat (first | apply Kd.V_alloc | apply Kd.V_drewN | apply Kd.V_drew)); exact HL515_4.out) hb); have n4_ := Aside0.mk (Kd.C_below (by repeat (first | (with_reducible exact HR515_4.out) | (with_reducible refine Kd.C_alloc ?_ _) | (with_reducible refine Kd.C_drewN ?_ _) | (with_reducible refine Kd.C_drew ?_) | exact HR515_4.out)) hb); have n5_ := Aside0.mk (below_step bl hb); clear HO_0; clear HO_4; clear HO_5; clear HL515_4; clear HR515_4; clear HB; have HO_0 := n0_; have HO_4 := n1_; have HO_5 := n2_; have HL515_4 := n3_; have HR515_4 := n4_; have HB := n5_; clear n0_ n1_ n2_ n3_ n4_ n5_; (try clear hb); (try clear hb2); (try clear hk); (try clear hi)))
       go_ret
       exact ⟨er, bl⟩
     ·rw [if_neg c7] at H
      exact absurd H (by simp)
    ·rw [if_neg c6] at H
     have c6b0 : decide (x6_1 < (l0.length : Int)) = false := decide_eq_false c6
     clear c6
     have H' := Aside0.mk H
     clear H
     go_wp2
     go_loopg [9, 10] k1 (fun kq v9 v10 w' => ∃ (x9_2 : Int) (x10_2 : Int), v9 = .int .i64 x9_2 ∧ v10 = .int .i64 x10_2 ∧ Aside0 (avocetlaw05_InstrRow.l1 kq t514 x4_1 x5_1 x9_2 x10_2 = some r) ∧ Aside0 (kq ≤ k1) ∧ Aside0 (Kd.R (Kd.int .u8) 5 w' w.heap.size (fun k_ => (w.heap.size ≤ k_)) u4 x4_1) ∧ Aside0 (Kd.N k33 33 w' w.heap.size (fun k_ => (P0_ k_ ∨ w.heap.size ≤ k_) ∧ some k_ ≠ (u4 : Value).ownBlock) u5 x5_1) ∧ Aside0 (Below w.heap.size w w'))
     case atStart => exact ⟨(0), (0), rs, rs, H', ⟨Nat.le_refl _⟩, ⟨by (with_reducible repeat (first | apply Kd.R_alloc | apply Kd.R_drewN | apply Kd.R_drew)); exact HO_4.out⟩, ⟨by (with_reducible repeat (first | apply Kd.N_alloc | apply Kd.N_drewN | apply Kd.N_drew)); exact HO_5.out⟩, ⟨bl⟩⟩
     case round =>
      clear H'
      (try clear c1); (try clear c2); (try clear p2); (try clear c3); (try clear c3b0); (try clear c3b1); (try clear c5); (try clear p5); (try clear q5); (try clear hx5); (try clear c6); (try clear c6b0); (try clear p6); (try clear c7); (try clear c7b0); (try clear c9); (try clear c11); (try clear c11b0); (try clear c11b1); (try clear c12); (try clear hx515_0); (try clear hx515_1); (try clear hx515_2); (try clear hx515_3); (try clear hx515_4); (try clear hx517_0); (try clear hx517_1); (try clear hx517_2); (try clear hx517_3); (try clear hx517_4); (try clear hx522_0); (try clear hx522_1); (try clear hx522_2); (try clear hx522_3); (try clear hx522_4); (try clear p2); (try clear p515); (try clear p517); (try clear p522); (try clear q515); (try clear q517); (try clear q522)
      obtain ⟨x9_2, x10_2, rfl, rfl, HA, HK2, HO_4, HO_5, HB⟩ := hrel
      cases gk with
      | zero => exact absurd HA.out (by simp [avocetlaw05_InstrRow.l1])
      | succ k2 =>
       have H := HA.out
       clear HA
       simp only [avocetlaw05_InstrRow.l1] at H
       by_cases c21 : x10_2 < (x5_1.length : Int)
       ·rw [if_pos c21] at H
        have c21b0 : decide (x10_2 < (x5_1.length : Int)) = true := decide_eq_true c21
        clear c21
        replace H := Option.bind_eq_some_iff.mp H
        obtain ⟨⟨t526, t527, t528, t529, t530, t533, t534⟩, A220, H⟩ := H
        replace H : (if t534 = 0 then (if 0 ≤ x10_2 then ((instr_Same.f k2 t526 t527 t528 t529 t530 ((rd_T33 x5_1 x10_2).f0) ((rd_T33 x5_1 x10_2).f1) ((rd_T33 x5_1 x10_2).f2) ((rd_T33 x5_1 x10_2).f3) ((rd_T33 x5_1 x10_2).f4)).bind fun t537 => (if t537 = true then (if t533 ≤ x9_2 then (none) else (avocetlaw05_InstrRow.l1 k2 t514 x4_1 x5_1 t533 (wrap64 (x10_2 + 1)))) else (none))) else (none)) else (none)) = some r := H
        have A22 := Aside0.mk A220
        clear A220
        by_cases c23 : t534 = 0
        ·rw [if_pos c23] at H
         have c23b0 : (t534 == 0) = true := beq_iff_eq.mpr c23
         have c23b1 : (t534 != 0) = false := bne_eq_false_iff_eq.mpr c23
         clear c23
         by_cases c24 : 0 ≤ x10_2
         ·rw [if_pos c24] at H
          have c24b0 : decide (0 ≤ x10_2) = true := decide_eq_true c24
          clear c24
          replace H := Option.bind_eq_some_iff.mp H
          obtain ⟨t537, A250, H⟩ := H
          replace H : (if t537 = true then (if t533 ≤ x9_2 then (none) else (avocetlaw05_InstrRow.l1 k2 t514 x4_1 x5_1 t533 (wrap64 (x10_2 + 1)))) else (none)) = some r := H
          have A25 := Aside0.mk A250
          clear A250
          by_cases c26 : t537 = true
          ·subst c26
           have H1 : (if t533 ≤ x9_2 then (none) else (avocetlaw05_InstrRow.l1 k2 t514 x4_1 x5_1 t533 (wrap64 (x10_2 + 1)))) = some r := by rw [if_pos rfl] at H; exact H
           clear H
           have H := H1
           clear H1
           by_cases c27 : t533 ≤ x9_2
           ·rw [if_pos c27] at H
            exact absurd H (by simp)
           ·rw [if_neg c27] at H
            have c27b0 : decide (t533 ≤ x9_2) = false := decide_eq_false c27
            clear c27
            have H' := Aside0.mk H
            clear H
            obtain ⟨Ao28, co28, eo28⟩ := Kd.N_slice HO_5.out
            subst eo28
            obtain ⟨Ao29, co29, eo29⟩ := Kd.R_slice HO_4.out
            subst eo29
            try go_wp2_with (first | ((with_reducible refine gate_callee (f := 26) rfl ?_); refine goesL_ (some 60) rfl rfl Tryd.func26 (by kernel_rfl) rfl #[.slice Ao29 x4_1.length co29, .int .i64 x9_2] rfl am ?_; (with_reducible refine (instr_Read.calls k2 _ _ x4_1 x9_2 t526 t527 t528 t529 t530 t533 t534 _ ?side1 ?side2 ?side3 A22.out).mono ?_); (case side1 => exact Glob.below HG.out bl); (case side2 => repeat (first | exact (Kd.R_reads' HO_4.out).2.2 | (with_reducible refine Kd.C_alloc ?_ _) | (with_reducible refine Kd.C_drewN ?_ _) | (with_reducible refine Kd.C_drew ?_))); (case side3 => exact (Kd.R_reads' HO_4.out).2.1); rintro e w30 ⟨v531, rfl, ho0, hb⟩; refine ⟨_, rfl, ?_⟩; have n0_ := Aside0.mk (Kd.R_below (ra HO_4) hb); have n1_ := Aside0.mk (Kd.N_elder' (by (with_reducible repeat (first | apply Kd.N_alloc | apply Kd.N_drewN | apply Kd.N_drew)); exact HO_5.out) (Kd.R_base ho0) hb); have n2_ := Aside0.mk (Kd.R_lower (Kd.R_newM (M := fun k_ => (w.heap.size ≤ k_)) ho0 (below_size bl) (fun k_ h_ => h_)) (below_size bl)); have n3_ := Aside0.mk (below_step bl hb); clear HO_4; clear HO_5; clear HB; have HO_4 := n0_; have HO_5 := n1_; have HO532 := n2_; have HB := n3_; clear n0_ n1_ n2_ n3_; (try clear hb); (try clear hb2); (try clear hk); (try clear hi); (try clear ho0)) | ((with_reducible refine gate_dst (N := 11) rfl ?_); (try (refine gate_guard (by rfl) ?_; dsimp only)); refine box_event ?hg (N := 11) ?hd (cs := #[.int .i64 0, .int .i64 0, .int .i64 0, .int .u64 0, .slice none 0 0]) (t := 33) ?hr ?_; (case hd => rfl); (case hg => rfl); (case hr => first | (go_simp; done) | (go_simp; rfl)); intro gb535 hg w31 hbox hb; have n0_ := Aside0.mk (Kd.R_below (ra HO_4) hb); have n1_ := Aside0.mk (Kd.N_below (Kd.N_elderB (by (with_reducible repeat (first | apply Kd.N_alloc | apply Kd.N_drewN | apply Kd.N_drew)); exact HO_5.out) gb535 (Nat.le_of_eq hg.symm)) hb); have n2_ := Aside0.mk (Kd.R_below (ra HO532) hb); have n3_ := Aside0.mk (below_step bl hb); have n4_ := Aside0.mk (hbox); have n5_ := Aside0.mk ((by rw [hg]; exact (below_size bl) : w.heap.size ≤ gb535)); have n6_ := Aside0.mk ((by rw [hg]; exact (below_size bl) : w.heap.size ≤ gb535)); clear HO_4; clear HO_5; clear HO532; clear HB; have HO_4 := n0_; have HO_5 := n1_; have HO532 := n2_; have HB := n3_; have BK535 := n4_; have GW535 := n5_; have GE535 := n6_; clear n0_ n1_ n2_ n3_ n4_ n5_ n6_; clear hb hbox hg; obtain ⟨hcz32_0, hcz32_1, hcz32_2, hcz32_3, hcz32_4⟩ := cells5 BK535.out; obtain ⟨hfz32_0, hfz32_1, hfz32_2, hfz32_3, hfz32_4⟩ := froz5 BK535.out; obtain ⟨Ao33, co33, eo33⟩ := Kd.R_slice HO532.out; subst eo33))
            have n0_ : Aside0 (Kd.R (Kd.int .u8) 5 (((((w31.setCell ⟨gb535, 0, none⟩ (.int .i64 t526)).setCell ⟨gb535, 1, none⟩ (.int .i64 t527)).setCell ⟨gb535, 2, none⟩ (.int .i64 t528)).setCell ⟨gb535, 3, none⟩ (.int .u64 t529)).setCell ⟨gb535, 4, none⟩ (.slice Ao33 t530.length co33)) w.heap.size (fun k_ => (w.heap.size ≤ k_)) (.slice Ao29 x4_1.length co29) x4_1) := ⟨by (with_reducible repeat (first | apply Kd.R_alloc | apply Kd.R_drewN | apply Kd.R_drew)); exact Kd.R_mono (Kd.R_far (p := ⟨gb535, 4, none⟩) (Kd.R_far (p := ⟨gb535, 3, none⟩) (Kd.R_far (p := ⟨gb535, 2, none⟩) (Kd.R_far (p := ⟨gb535, 1, none⟩) (Kd.R_far (p := ⟨gb535, 0, none⟩) (Kd.R_types HO_4.out BK535.out (by decide)) (fun _ hk => hk.2) (.int .i64 t526)) (fun _ hk => hk.2) (.int .i64 t527)) (fun _ hk => hk.2) (.int .i64 t528)) (fun _ hk => hk.2) (.int .u64 t529)) (fun _ hk => hk.2) (.slice Ao33 t530.length co33)) (fun _ hk => hk.1)⟩
            have n1_ : Aside0 (Kd.N k33 33 (((((w31.setCell ⟨gb535, 0, none⟩ (.int .i64 t526)).setCell ⟨gb535, 1, none⟩ (.int .i64 t527)).setCell ⟨gb535, 2, none⟩ (.int .i64 t528)).setCell ⟨gb535, 3, none⟩ (.int .u64 t529)).setCell ⟨gb535, 4, none⟩ (.slice Ao33 t530.length co33)) w.heap.size (fun k_ => (P0_ k_ ∨ w.heap.size ≤ k_) ∧ some k_ ≠ (.slice Ao29 x4_1.length co29 : Value).ownBlock ∧ some k_ ≠ (.slice Ao33 t530.length co33 : Value).ownBlock ∧ k_ ≠ gb535) (.slice Ao28 x5_1.length co28) x5_1) := ⟨by (with_reducible repeat (first | apply Kd.N_alloc | apply Kd.N_drewN | apply Kd.N_drew)); exact Kd.N_mono (Kd.N_far (p := ⟨gb535, 4, none⟩) (Kd.N_far (p := ⟨gb535, 3, none⟩) (Kd.N_far (p := ⟨gb535, 2, none⟩) (Kd.N_far (p := ⟨gb535, 1, none⟩) (Kd.N_far (p := ⟨gb535, 0, none⟩) (Kd.N_mono HO_5.out (fun k_ hk => (⟨hk, hk.2⟩ : _ ∧ k_ ≠ gb535))) (fun _ hk => hk.2) (.int .i64 t526)) (fun _ hk => hk.2) (.int .i64 t527)) (fun _ hk => hk.2) (.int .i64 t528)) (fun _ hk => hk.2) (.int .u64 t529)) (fun _ hk => hk.2) (.slice Ao33 t530.length co33)) (fun _ hk => ⟨hk.1.1.1.1, ⟨hk.1.1.1.2, ⟨hk.1.1.2, hk.1.2⟩⟩⟩)⟩
            have n2_ : Aside0 (Kd.R (Kd.int .i64) 3 (((((w31.setCell ⟨gb535, 0, none⟩ (.int .i64 t526)).setCell ⟨gb535, 1, none⟩ (.int .i64 t527)).setCell ⟨gb535, 2, none⟩ (.int .i64 t528)).setCell ⟨gb535, 3, none⟩ (.int .u64 t529)).setCell ⟨gb535, 4, none⟩ (.slice Ao33 t530.length co33)) w.heap.size (fun k_ => (w.heap.size ≤ k_)) (.slice Ao33 t530.length co33) t530) := ⟨by (with_reducible repeat (first | apply Kd.R_alloc | apply Kd.R_drewN | apply Kd.R_drew)); exact Kd.R_mono (Kd.R_far (p := ⟨gb535, 4, none⟩) (Kd.R_far (p := ⟨gb535, 3, none⟩) (Kd.R_far (p := ⟨gb535, 2, none⟩) (Kd.R_far (p := ⟨gb535, 1, none⟩) (Kd.R_far (p := ⟨gb535, 0, none⟩) (Kd.R_types HO532.out BK535.out (by decide)) (fun _ hk => hk.2) (.int .i64 t526)) (fun _ hk => hk.2) (.int .i64 t527)) (fun _ hk => hk.2) (.int .i64 t528)) (fun _ hk => hk.2) (.int .u64 t529)) (fun _ hk => hk.2) (.slice Ao33 t530.length co33)) (fun _ hk => hk.1.1)⟩
            have n3_ : Aside0 ((((((w31.setCell ⟨gb535, 0, none⟩ (.int .i64 t526)).setCell ⟨gb535, 1, none⟩ (.int .i64 t527)).setCell ⟨gb535, 2, none⟩ (.int .i64 t528)).setCell ⟨gb535, 3, none⟩ (.int .u64 t529)).setCell ⟨gb535, 4, none⟩ (.slice Ao33 t530.length co33)).heap[gb535]? = some (.cells #[.int .i64 t526, .int .i64 t527, .int .i64 t528, .int .u64 t529, .slice Ao33 t530.length co33] 33 (0, 0))) := ⟨by (with_reducible repeat (first | refine blk_drewN ?_ _ | refine blk_drew ?_ | refine blk_alloc ?_ _)); refine blk_put (cs := #[.int .i64 t526, .int .i64 t527, .int .i64 t528, .int .u64 t529, .slice none 0 0]) ?_ 4 _ rfl; (with_reducible repeat (first | refine blk_drewN ?_ _ | refine blk_drew ?_ | refine blk_alloc ?_ _)); refine blk_put (cs := #[.int .i64 t526, .int .i64 t527, .int .i64 t528, .int .u64 0, .slice none 0 0]) ?_ 3 _ rfl; (with_reducible repeat (first | refine blk_drewN ?_ _ | refine blk_drew ?_ | refine blk_alloc ?_ _)); refine blk_put (cs := #[.int .i64 t526, .int .i64 t527, .int .i64 0, .int .u64 0, .slice none 0 0]) ?_ 2 _ rfl; (with_reducible repeat (first | refine blk_drewN ?_ _ | refine blk_drew ?_ | refine blk_alloc ?_ _)); refine blk_put (cs := #[.int .i64 t526, .int .i64 0, .int .i64 0, .int .u64 0, .slice none 0 0]) ?_ 1 _ rfl; (with_reducible repeat (first | refine blk_drewN ?_ _ | refine blk_drew ?_ | refine blk_alloc ?_ _)); refine blk_put (cs := #[.int .i64 0, .int .i64 0, .int .i64 0, .int .u64 0, .slice none 0 0]) ?_ 0 _ rfl; (with_reducible repeat (first | refine blk_drewN ?_ _ | refine blk_drew ?_ | refine blk_alloc ?_ _)); exact BK535.out⟩
            have n4_ : Aside0 (Below w.heap.size w (((((w31.setCell ⟨gb535, 0, none⟩ (.int .i64 t526)).setCell ⟨gb535, 1, none⟩ (.int .i64 t527)).setCell ⟨gb535, 2, none⟩ (.int .i64 t528)).setCell ⟨gb535, 3, none⟩ (.int .u64 t529)).setCell ⟨gb535, 4, none⟩ (.slice Ao33 t530.length co33))) := ⟨by repeat (first | (with_reducible first | exact HB.out | apply below_alloc | apply pw_below_drewN | apply below_drew1 | refine below_set ?_ GE535.out) | exact HB.out)⟩
            (try clear HO_4)
            (try clear HO_5)
            (try clear HO532)
            (try clear BK535)
            (try clear HB)
            generalize (((((w31.setCell ⟨gb535, 0, none⟩ (.int .i64 t526)).setCell ⟨gb535, 1, none⟩ (.int .i64 t527)).setCell ⟨gb535, 2, none⟩ (.int .i64 t528)).setCell ⟨gb535, 3, none⟩ (.int .u64 t529)).setCell ⟨gb535, 4, none⟩ (.slice Ao33 t530.length co33)) = w34 at n0_ n1_ n2_ n3_ n4_ ⊢
            have HO_4 := n0_
            have HO_5 := n1_
            have HO532 := n2_
            have BK535 := n3_
            have HB := n4_
            clear n0_ n1_ n2_ n3_ n4_
            have n0_ := Aside0.mk (Kd.R_drew HO_4.out)
            have n1_ := Aside0.mk (Kd.N_drew HO_5.out)
            have n2_ := Aside0.mk (Kd.R_drew HO532.out)
            have n3_ := Aside0.mk (blk_drew BK535.out)
            have n4_ := Aside0.mk (below_drew1 HB.out)
            clear HO_4
            clear HO_5
            clear HO532
            clear BK535
            clear HB
            have HO_4 := n0_
            have HO_5 := n1_
            have HO532 := n2_
            have BK535 := n3_
            have HB := n4_
            clear n0_ n1_ n2_ n3_ n4_
            have p536 : 0 ≤ (x10_2 : Int) := of_decide_eq_true asm
            have q536 : x10_2 < (x5_1.length : Int) := of_decide_eq_true asm
            obtain ⟨ad536, A536_4, c536_4, e536, hx536_0, hx536_1, hx536_2, hx536_3, hx536_4, hl536_4, hi536_4⟩ := at_T33 (Kd.N_reads' HO_5.out).2.2 x10_2 p536 q536
            cases e536
            obtain ⟨ce536, hce536, hMe536, hcc536⟩ := Kd.N_get HO_5.out z33 x10_2 p536 (by first | exact q536 | exact of_decide_eq_true asm | (have e_ := (Kd.N_reads' HO_5.out).1; omega))
            obtain ⟨ua536_4, uc536_4, rfl, ul536_4, ge536_4⟩ := k33_openF hMe536
            have hv536_4 := hcc536 4 _ rfl
            rw [add_field _ _ 4 (by omega)] at hv536_4
            replace hv536_4 := Option.some.inj (hv536_4.symm.trans hx536_4)
            injection hv536_4 with hva_ hvn_ hvc_
            rw [hva_] at ge536_4
            rw [hvc_] at ul536_4
            have HL536_4 := Aside0.mk (show Kd.V (Kd.int .i64) 3 _ w.heap.size _ _ ((rd_T33 x5_1 x10_2).f4) from Kd.V_mk ul536_4 ge536_4)
            clear hva_ hvn_ hvc_ ge536_4 ul536_4
            clear hcc536 hce536
            have HR536_4 := Aside0.mk hi536_4
            have HC536_4 := Aside0.mk hl536_4
            clear hi536_4 hl536_4
            replace p536 := eq_true p536
            replace q536 := eq_true q536
            refine start_ (n := 16) (S := fun w' => w'.cell? ⟨gb535, 0, none⟩ = some (.int .i64 t526) ∧ w'.cell? ⟨gb535, 1, none⟩ = some (.int .i64 t527) ∧ w'.cell? ⟨gb535, 2, none⟩ = some (.int .i64 t528) ∧ w'.cell? ⟨gb535, 3, none⟩ = some (.int .u64 t529) ∧ w'.cell? ⟨gb535, 4, none⟩ = some (.slice Ao33 t530.length co33) ∧ w'.cell? (ad536.add ((x10_2).toNat * 5)) = some (.int .i64 ((rd_T33 x5_1 x10_2).f0)) ∧ w'.cell? ⟨(ad536.add ((x10_2).toNat * 5)).block, (ad536.add ((x10_2).toNat * 5)).off + 1, none⟩ = some (.int .i64 ((rd_T33 x5_1 x10_2).f1)) ∧ w'.cell? ⟨(ad536.add ((x10_2).toNat * 5)).block, (ad536.add ((x10_2).toNat * 5)).off + 2, none⟩ = some (.int .i64 ((rd_T33 x5_1 x10_2).f2)) ∧ w'.cell? ⟨(ad536.add ((x10_2).toNat * 5)).block, (ad536.add ((x10_2).toNat * 5)).off + 3, none⟩ = some (.int .u64 ((rd_T33 x5_1 x10_2).f3)) ∧ w'.cell? ⟨(ad536.add ((x10_2).toNat * 5)).block, (ad536.add ((x10_2).toNat * 5)).off + 4, none⟩ = some (.slice A536_4 ((rd_T33 x5_1 x10_2).f4).length c536_4)) (ds := []) #[false, false, false, false, false, false, false, false, false, false, false, false, false, false, false, false] (by kernel_rfl) rfl rfl ⟨(blk_cell BK535.out 0).trans rfl, (blk_cell BK535.out 1).trans rfl, (blk_cell BK535.out 2).trans rfl, (blk_cell BK535.out 3).trans rfl, (blk_cell BK535.out 4).trans rfl, hx536_0, hx536_1, hx536_2, hx536_3, hx536_4⟩ (fun hHeld => ?_); refine with_tabW avocetlaw05_InstrRow.tab20 avocetlaw05_InstrRow.bits20 (fun HT_ HW_ => ?_)
            generalize w34.drew = w35 at HO_4 HO_5 HO532 BK535 HB HL536_4 HR536_4 hx536_0 hx536_1 hx536_2 hx536_3 hx536_4 hHeld ⊢
            refine pure_ (i := 0) (N := some 64) (v := ?_) (a' := ?_) #[true, false, false, false, false, false, false, false, false, false, false, false, false, false, false, false] rfl rfl (any_of HT_.out (by kernel_rfl)) (fun _ _ _ h => h) (Or.inl ⟨by rfl, ?_⟩) ?_ ?_
            rotate_left
            ·intro w'
             go_simp
             with_reducible rfl
            rotate_left
            ·simp only [Act.put, List.setIfInBounds_toArray, List.set_cons_zero, List.set_cons_succ, i64_w, i32_w]
             rfl
            refine pure_ (i := 1) (N := some 65) (v := ?_) (a' := ?_) #[true, true, false, false, false, false, false, false, false, false, false, false, false, false, false, false] rfl rfl (any_of HT_.out (by kernel_rfl)) (fun _ _ _ h => h) (Or.inl ⟨by rfl, ?_⟩) ?_ ?_
            rotate_left
            ·intro w'
             go_simp
             with_reducible rfl
            rotate_left
            ·simp only [Act.put, List.setIfInBounds_toArray, List.set_cons_zero, List.set_cons_succ, i64_w, i32_w]
             rfl
            refine pure_ (i := 2) (N := some 66) (v := ?_) (a' := ?_) #[true, true, true, false, false, false, false, false, false, false, false, false, false, false, false, false] rfl rfl (any_of HT_.out (by kernel_rfl)) (fun _ _ _ h => h) (Or.inl ⟨by rfl, ?_⟩) ?_ ?_
            rotate_left
            ·intro w'
             go_simp
             with_reducible rfl
            rotate_left
            ·simp only [Act.put, List.setIfInBounds_toArray, List.set_cons_zero, List.set_cons_succ, i64_w, i32_w]
             rfl
            refine pure_ (i := 4) (N := some 68) (v := ?_) (a' := ?_) #[true, true, true, false, true, false, false, false, false, false, false, false, false, false, false, false] rfl rfl (any_of HT_.out (by kernel_rfl)) (fun _ _ _ h => h) (Or.inl ⟨by rfl, ?_⟩) ?_ ?_
            rotate_left
            ·intro w'
             go_simp
             with_reducible rfl
            rotate_left
            ·simp only [Act.put, List.setIfInBounds_toArray, List.set_cons_zero, List.set_cons_succ, i64_w, i32_w]
             rfl
            refine pure_ (i := 5) (N := some 69) (v := ?_) (a' := ?_) #[true, true, true, false, true, true, false, false, false, false, false, false, false, false, false, false] rfl rfl (any_of HT_.out (by kernel_rfl)) (fun _ _ _ h => h) (Or.inl ⟨by rfl, ?_⟩) ?_ ?_
            rotate_left
            ·intro w'
             go_simp
             with_reducible rfl
            rotate_left
            ·simp only [Act.put, List.setIfInBounds_toArray, List.set_cons_zero, List.set_cons_succ, i64_w, i32_w]
             rfl
            refine pure_ (i := 6) (N := some 70) (v := ?_) (a' := ?_) #[true, true, true, false, true, true, true, false, false, false, false, false, false, false, false, false] rfl rfl (any_of HT_.out (by kernel_rfl)) (fun _ _ _ h => h) (Or.inl ⟨by rfl, ?_⟩) ?_ ?_
            rotate_left
            ·intro w'
             go_simp
             with_reducible rfl
            rotate_left
            ·simp only [Act.put, List.setIfInBounds_toArray, List.set_cons_zero, List.set_cons_succ, i64_w, i32_w]
             rfl
            refine take_ (i := 3) (N := some 67) (v := ?_) (a' := ?_) #[true, true, true, true, true, true, true, false, false, false, false, false, false, false, false, false] rfl rfl (take_ofW HT_.out HW_.out (by kernel_rfl)) (fun _ _ _ h => h) (Or.inl ⟨by rfl, ?_⟩) hHeld ?_ ?_
            rotate_left
            ·rintro w' ⟨s0, s1, s2, s3, s4, s5, s6, s7, s8, s9⟩
             go_simp
             with_reducible rfl
            rotate_left
            ·simp only [Act.put, List.setIfInBounds_toArray, List.set_cons_zero, List.set_cons_succ, i64_w, i32_w]
             rfl
            refine take_ (i := 7) (N := some 71) (v := ?_) (a' := ?_) #[true, true, true, true, true, true, true, true, false, false, false, false, false, false, false, false] rfl rfl (take_ofW HT_.out HW_.out (by kernel_rfl)) (fun _ _ _ h => h) (Or.inl ⟨by rfl, ?_⟩) hHeld ?_ ?_
            rotate_left
            ·rintro w' ⟨s0, s1, s2, s3, s4, s5, s6, s7, s8, s9⟩
             go_simp
             with_reducible rfl
            rotate_left
            ·simp only [Act.put, List.setIfInBounds_toArray, List.set_cons_zero, List.set_cons_succ, i64_w, i32_w]
             rfl
            refine one_ (i := 8) (N := some 72) #[true, true, true, true, true, true, true, true, true, false, false, false, false, false, false, false] rfl rfl (one_of HT_.out (by kernel_rfl)) (by decide) (fun K hK => ?_)
            refine goes_ Tryd.func27 (by kernel_rfl) rfl #[.agg #[.int .i64 t526, .int .i64 t527, .int .i64 t528, .int .u64 t529, .slice Ao33 t530.length co33], .agg #[.int .i64 ((rd_T33 x5_1 x10_2).f0), .int .i64 ((rd_T33 x5_1 x10_2).f1), .int .i64 ((rd_T33 x5_1 x10_2).f2), .int .u64 ((rd_T33 x5_1 x10_2).f3), .slice A536_4 ((rd_T33 x5_1 x10_2).f4).length c536_4]] (by rfl) rfl rfl am ?_
            with_reducible refine (instr_Same.calls k2 t526 t527 t528 t529 _ _ t530 ((rd_T33 x5_1 x10_2).f0) ((rd_T33 x5_1 x10_2).f1) ((rd_T33 x5_1 x10_2).f2) ((rd_T33 x5_1 x10_2).f3) _ _ ((rd_T33 x5_1 x10_2).f4) true _ ?side1 ?side2 ?side3 ?side4 A25.out).mono ?_
            (case side1 => repeat (first | exact (Kd.R_reads' HO532.out).2.2 | (with_reducible refine Kd.C_alloc ?_ _) | (with_reducible refine Kd.C_drewN ?_ _) | (with_reducible refine Kd.C_drew ?_)))
            (case side2 => exact (Kd.R_reads' HO532.out).2.1)
            (case side3 => repeat (first | exact (by repeat (first | (with_reducible exact HR536_4.out) | (with_reducible refine Kd.C_alloc ?_ _) | (with_reducible refine Kd.C_drewN ?_ _) | (with_reducible refine Kd.C_drew ?_) | exact HR536_4.out)) | (with_reducible refine Kd.C_alloc ?_ _) | (with_reducible refine Kd.C_drewN ?_ _) | (with_reducible refine Kd.C_drew ?_)))
            (case side4 => exact HC536_4.out)
            rintro e w36 ⟨rfl, hb⟩
            have HS5_ := (hb.cell (World.block_lt_of_cell? _ _ (hHeld.2.2.2.2.2.1))).trans (hHeld.2.2.2.2.2.1)
            have HS6_ := (hb.cell (World.block_lt_of_cell? _ _ (hHeld.2.2.2.2.2.2.1))).trans (hHeld.2.2.2.2.2.2.1)
            have HS7_ := (hb.cell (World.block_lt_of_cell? _ _ (hHeld.2.2.2.2.2.2.2.1))).trans (hHeld.2.2.2.2.2.2.2.1)
            have HS8_ := (hb.cell (World.block_lt_of_cell? _ _ (hHeld.2.2.2.2.2.2.2.2.1))).trans (hHeld.2.2.2.2.2.2.2.2.1)
            have HS9_ := (hb.cell (World.block_lt_of_cell? _ _ (hHeld.2.2.2.2.2.2.2.2.2))).trans (hHeld.2.2.2.2.2.2.2.2.2)
            refine ⟨_, rfl, ?_⟩
            have n0_ := Aside0.mk (Kd.R_below (ra HO_4) hb)
            have n1_ := Aside0.mk (Kd.N_below (by (with_reducible repeat (first | apply Kd.N_alloc | apply Kd.N_drewN | apply Kd.N_drew)); exact HO_5.out) hb)
            have n2_ := Aside0.mk (Kd.R_below (ra HO532) hb)
            have n3_ := Aside0.mk (Kd.V_below (by (with_reducible repeat (first | apply Kd.V_alloc | apply Kd.V_drewN | apply Kd.V_drew)); exact HL536_4.out) hb)
            have n4_ := Aside0.mk (blk_below (bk BK535) hb)
            have n5_ := Aside0.mk (Kd.C_below (by repeat (first | (with_reducible exact HR536_4.out) | (with_reducible refine Kd.C_alloc ?_ _) | (with_reducible refine Kd.C_drewN ?_ _) | (with_reducible refine Kd.C_drew ?_) | exact HR536_4.out)) hb)
            have n6_ := Aside0.mk (below_step blx hb)
            clear HO_4
            clear HO_5
            clear HO532
            clear HL536_4
            clear BK535
            clear HR536_4
            clear HB
            have HO_4 := n0_
            have HO_5 := n1_
            have HO532 := n2_
            have HL536_4 := n3_
            have BK535 := n4_
            have HR536_4 := n5_
            have HB := n6_
            clear n0_ n1_ n2_ n3_ n4_ n5_ n6_
            (try clear hb)
            (try clear hb2)
            (try clear hk)
            (try clear hi)
            refine hK.out _ _ ⟨(blk_cell BK535.out 0).trans rfl, (blk_cell BK535.out 1).trans rfl, (blk_cell BK535.out 2).trans rfl, (blk_cell BK535.out 3).trans rfl, (blk_cell BK535.out 4).trans rfl, HS5_, HS6_, HS7_, HS8_, HS9_⟩ (fun hHeld => ?_)
            clear hK K
            refine norm_ (a' := ?_) ?_ ?_
            rotate_left
            ·show Act.put _ (some 72) _ = _
             simp only [Act.put, List.setIfInBounds_toArray, List.set_cons_zero, List.set_cons_succ, i64_w, i32_w]
             rfl
            refine pure_ (i := 9) (N := some 73) (v := ?_) (a' := ?_) #[true, true, true, true, true, true, true, true, true, true, false, false, false, false, false, false] rfl rfl (any_of HT_.out (by kernel_rfl)) (fun _ _ _ h => h) (Or.inl ⟨by rfl, ?_⟩) ?_ ?_
            rotate_left
            ·intro w'
             go_simp
             with_reducible rfl
            rotate_left
            ·simp only [Act.put, List.setIfInBounds_toArray, List.set_cons_zero, List.set_cons_succ, i64_w, i32_w]
             rfl
            refine pure_ (i := 10) (N := some 74) (v := ?_) (a' := ?_) #[true, true, true, true, true, true, true, true, true, true, true, false, false, false, false, false] rfl rfl (any_of HT_.out (by kernel_rfl)) (fun _ _ _ h => h) (Or.inl ⟨by rfl, ?_⟩) ?_ ?_
            rotate_left
            ·intro w'
             go_simp
             with_reducible rfl
            rotate_left
            ·simp only [Act.put, List.setIfInBounds_toArray, List.set_cons_zero, List.set_cons_succ, i64_w, i32_w]
             rfl
            refine pure_ (i := 11) (N := some 75) (v := ?_) (a' := ?_) #[true, true, true, true, true, true, true, true, true, true, true, true, false, false, false, false] rfl rfl (any_of HT_.out (by kernel_rfl)) (fun _ _ _ h => h) (Or.inl ⟨by rfl, ?_⟩) ?_ ?_
            rotate_left
            ·intro w'
             go_simp
             with_reducible rfl
            rotate_left
            ·simp only [Act.put, List.setIfInBounds_toArray, List.set_cons_zero, List.set_cons_succ, i64_w, i32_w]
             rfl
            refine pure_ (i := 12) (N := some 76) (v := ?_) (a' := ?_) #[true, true, true, true, true, true, true, true, true, true, true, true, true, false, false, false] rfl rfl (any_of HT_.out (by kernel_rfl)) (fun _ _ _ h => h) (Or.inl ⟨by rfl, ?_⟩) ?_ ?_
            rotate_left
            ·intro w'
             go_simp
             with_reducible rfl
            rotate_left
            ·simp only [Act.put, List.setIfInBounds_toArray, List.set_cons_zero, List.set_cons_succ, i64_w, i32_w]
             rfl
            refine pure_ (i := 13) (N := some 77) (v := ?_) (a' := ?_) #[true, true, true, true, true, true, true, true, true, true, true, true, true, true, false, false] rfl rfl (any_of HT_.out (by kernel_rfl)) (fun _ _ _ h => h) (Or.inl ⟨by rfl, ?_⟩) ?_ ?_
            rotate_left
            ·intro w'
             go_simp
             with_reducible rfl
            rotate_left
            ·simp only [Act.put, List.setIfInBounds_toArray, List.set_cons_zero, List.set_cons_succ, i64_w, i32_w]
             rfl
            refine pure_ (i := 14) (N := some 78) (v := ?_) (a' := ?_) #[true, true, true, true, true, true, true, true, true, true, true, true, true, true, true, false] rfl rfl (any_of HT_.out (by kernel_rfl)) (fun _ _ _ h => h) (Or.inl ⟨by rfl, ?_⟩) ?_ ?_
            rotate_left
            ·intro w'
             go_simp
             with_reducible rfl
            rotate_left
            ·simp only [Act.put, List.setIfInBounds_toArray, List.set_cons_zero, List.set_cons_succ, i64_w, i32_w]
             rfl
            refine pure_ (i := 15) (N := some 79) (v := ?_) (a' := ?_) #[true, true, true, true, true, true, true, true, true, true, true, true, true, true, true, true] rfl rfl (any_of HT_.out (by kernel_rfl)) (fun _ _ _ h => h) (Or.inl ⟨by rfl, ?_⟩) ?_ ?_
            rotate_left
            ·intro w'
             go_simp
             with_reducible rfl
            rotate_left
            ·simp only [Act.put, List.setIfInBounds_toArray, List.set_cons_zero, List.set_cons_succ, i64_w, i32_w]
             rfl
            refine done_ (done_of HT_.out (by kernel_rfl)) ?_
            try go_wp2
            go_roundg k2
            case measure => have := HK1.out; have := HK2.out; omega
            case rel => exact ⟨(t533), (wrap64 (x10_2 + 1)), rs, rs, H', ⟨by have := HK1.out; have := HK2.out; omega⟩, ⟨by (with_reducible repeat (first | apply Kd.R_alloc | apply Kd.R_drewN | apply Kd.R_drew)); exact HO_4.out⟩, ⟨by (with_reducible repeat (first | apply Kd.N_alloc | apply Kd.N_drewN | apply Kd.N_drew)); exact Kd.N_mono HO_5.out (fun _ hk => ⟨hk.1, hk.2.1⟩)⟩, ⟨by repeat (first | (with_reducible first | exact HB.out | apply below_alloc | apply pw_below_drewN | apply below_drew1 | refine below_set ?_ GE535.out) | exact HB.out)⟩⟩
          ·replace c26 := Bool.eq_false_iff.mpr c26
           subst c26
           have H1 : (none) = some r := by rw [if_neg (show ¬ (false = true) by decide)] at H; exact H
           clear H
           have H := H1
           clear H1
           exact absurd H (by simp)
         ·rw [if_neg c24] at H
          exact absurd H (by simp)
        ·rw [if_neg c23] at H
         exact absurd H (by simp)
       ·rw [if_neg c21] at H
        have c21b0 : decide (x10_2 < (x5_1.length : Int)) = false := decide_eq_false c21
        clear c21
        by_cases c37 : t514 = true
        ·subst c37
         have H1 : (some (x9_2 == (x4_1.length : Int))) = some r := by rw [if_pos rfl] at H; exact H
         clear H
         have H := H1
         clear H1
         obtain rfl := Option.some.inj H
         obtain ⟨Ao38, co38, eo38⟩ := Kd.N_slice HO_5.out
         subst eo38
         obtain ⟨Ao39, co39, eo39⟩ := Kd.R_slice HO_4.out
         subst eo39
         go_wp2
         go_ret
         exact ⟨er, bl⟩
        ·replace c37 := Bool.eq_false_iff.mpr c37
         subst c37
         have H1 : (none) = some r := by rw [if_neg (show ¬ (false = true) by decide)] at H; exact H
         clear H
         have H := H1
         clear H1
         exact absurd H (by simp)

end Go.Proofs.YtklnkkejkeelaaaDoor.X
