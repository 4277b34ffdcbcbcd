-- Printed by xprint, a tool of this work; Lean checks it.
import Derived.Test.YtklnkkejkeelaaaDoorXx0
import Derived.Test.YtklnkkejkeelaaaDoorXx3
import Derived.Test.YtklnkkejkeelaaaDoorXx4
import Derived.Test.YtklnkkejkeelaaaDoorXx6
import Derived.Test.YtklnkkejkeelaaaDoorXx9
namespace Go.Proofs.YtklnkkejkeelaaaDoor.X
open Go.RowKit Go.Proofs.YtklnkkejkeelaaaDoorW.PrintWords Go.Proofs.YtklnkkejkeelaaaDoorW.PrintLast Go.Proofs.YtklnkkejkeelaaaDoorW.PrintMore
attribute [local go_sem] max2_int min2_int max_two min_two max_three min_three max_four min_four   -- for this text's walks alone
set_option linter.unusedVariables false
set_option linter.unusedSimpArgs false

/-! ### avocetlaw05_InstrBack: function 7 -/
def avocetlaw05_InstrBack.j0 : Nat → List Int → List Int → Bool → Bool → Int → Int → Int → Int → List Int → Option (Bool)
 | 0, _, _, _, _, _, _, _, _, _ => none
 | k + 1, x0, x2, x7, x30, x453000, x453001, x453002, x453003, x453004 => if x30 = true then (some x7) else ((instr_Put.f k x0 x453000 x453001 x453002 x453003 x453004).bind fun bt455 => (if bt455.2 = 0 then ((some (([] : List Int) : List Int)).bind fun y460 => (if y460.length + bt455.1.length < 140737488355328 then ((some (y460 ++ bt455.1 : List Int)).bind fun y463 => (if y463.length + x2.length < 140737488355328 then ((instr_Read.f k (y463 ++ x2) (x0.length : Int)).bind fun bt469 => (if 0 ≤ (mx 0 (wrap64 ((bt455.1.length : Int) - 1))) then (if (mx 0 (wrap64 ((bt455.1.length : Int) - 1))) ≤ (bt455.1.length : Int) then ((instr_Read.f k (bt455.1.take ((mx 0 (wrap64 ((bt455.1.length : Int) - 1))) : Int).toNat) (x0.length : Int)).bind fun bt483 => (if x7 = true then ((instr_Sane.f k x453000 x453001 x453002 x453003 x453004).bind fun t493 => (if t493 = true then (if bt469.2.2.2.2.2.2 = 0 then (if bt469.2.2.2.2.2.1 = (bt455.1.length : Int) then ((instr_Same.f k x453000 x453001 x453002 x453003 x453004 bt469.1 bt469.2.1 bt469.2.2.1 bt469.2.2.2.1 bt469.2.2.2.2.1).bind fun t494 => (if t494 = true then (some (bt483.2.2.2.2.2.2 == 2)) else (none))) else (none)) else (none)) else (none))) else (none))) else (none)) else (none))) else (none))) else (none))) else (if x7 = true then ((instr_Sane.f k x453000 x453001 x453002 x453003 x453004).bind fun t459 => (if t459 = true then (none) else (some ((bt455.1.length : Int) == 0)))) else (none))))
def avocetlaw05_InstrBack.f (k : Nat) (l0 : List Int) (a1_0 : Int) (a1_1 : Int) (a1_2 : Int) (a1_3 : Int) (l1_4 : List Int) (l2 : List Int) : Option (Bool) := (avocetlaw05_awake.f k).bind fun t453 => (if (l0.length : Int) > 100 then (avocetlaw05_InstrBack.j0 k l0 l2 t453 true a1_0 a1_1 a1_2 a1_3 l1_4) else (if (l2.length : Int) > 100 then (avocetlaw05_InstrBack.j0 k l0 l2 t453 true a1_0 a1_1 a1_2 a1_3 l1_4) else ((avocetlaw05_small.f a1_0 a1_1 a1_2 a1_3 l1_4).bind fun t454 => (avocetlaw05_InstrBack.j0 k l0 l2 t453 (!t454) a1_0 a1_1 a1_2 a1_3 l1_4))))
theorem avocetlaw05_InstrBack.mono_l : ∀ k, (∀ y0 y1 y2 y3 y4 y5 y6 y7 y8, LeO (avocetlaw05_InstrBack.j0 k y0 y1 y2 y3 y4 y5 y6 y7 y8) (avocetlaw05_InstrBack.j0 (k + 1) y0 y1 y2 y3 y4 y5 y6 y7 y8))
 | 0 => fun _ _ _ _ _ _ _ _ _ r h => by simp [avocetlaw05_InstrBack.j0] at h
 | k + 1 => by
  have ih0 := avocetlaw05_InstrBack.mono_l k
  ·intro y0 y1 y2 y3 y4 y5 y6 y7 y8
   unfold avocetlaw05_InstrBack.j0
   repeat' first
   | (with_reducible exact ih0 _ _ _ _ _ _ _ _ _)
   | (with_reducible exact avocetlaw05_awake.mono _)
   | (with_reducible exact instr_Put.mono _ _ _ _ _ _ _)
   | (with_reducible exact instr_Read.mono _ _ _)
   | (with_reducible exact instr_Same.mono _ _ _ _ _ _ _ _ _ _ _)
   | (with_reducible exact instr_Sane.mono _ _ _ _ _ _)
   | (with_reducible exact LeO.refl _)
   | (with_reducible exact LeO.none _)
   | (with_reducible refine LeO.ite ?_ ?_)
   | (with_reducible refine LeO.bind ?_ (fun _ => ?_))
   | exact ih0 _ _ _ _ _ _ _ _ _
   | exact avocetlaw05_awake.mono _
   | exact instr_Put.mono _ _ _ _ _ _ _
   | exact instr_Read.mono _ _ _
   | exact instr_Same.mono _ _ _ _ _ _ _ _ _ _ _
   | exact instr_Sane.mono _ _ _ _ _ _
   | exact LeO.none _
   | refine LeO.ite ?_ ?_
   | refine LeO.bind ?_ (fun _ => ?_)
theorem avocetlaw05_InstrBack.mono : ∀ a0 a1 a2 a3 a4 a5 a6 k, LeO (avocetlaw05_InstrBack.f k a0 a1 a2 a3 a4 a5 a6) (avocetlaw05_InstrBack.f (k + 1) a0 a1 a2 a3 a4 a5 a6) := by
 intro a0 a1 a2 a3 a4 a5 a6 k
 have ih0 := avocetlaw05_InstrBack.mono_l k
 unfold avocetlaw05_InstrBack.f
 repeat' first
   | (with_reducible exact ih0 _ _ _ _ _ _ _ _ _)
   | (with_reducible exact avocetlaw05_awake.mono _)
   | (with_reducible exact instr_Put.mono _ _ _ _ _ _ _)
   | (with_reducible exact instr_Read.mono _ _ _)
   | (with_reducible exact instr_Same.mono _ _ _ _ _ _ _ _ _ _ _)
   | (with_reducible exact instr_Sane.mono _ _ _ _ _ _)
   | (with_reducible exact LeO.refl _)
   | (with_reducible exact LeO.none _)
   | (with_reducible refine LeO.ite ?_ ?_)
   | (with_reducible refine LeO.bind ?_ (fun _ => ?_))
   | exact ih0 _ _ _ _ _ _ _ _ _
   | exact avocetlaw05_awake.mono _
   | exact instr_Put.mono _ _ _ _ _ _ _
   | exact instr_Read.mono _ _ _
   | exact instr_Same.mono _ _ _ _ _ _ _ _ _ _ _
   | exact instr_Sane.mono _ _ _ _ _ _
   | exact LeO.none _
   | refine LeO.ite ?_ ?_
   | refine LeO.bind ?_ (fun _ => ?_)
set_option maxHeartbeats 8000000 in
set_option maxRecDepth 100000 in
theorem avocetlaw05_InstrBack.calls (k : Nat) (A0 : Option Addr) (c0 : Nat) (l0 : List Int) (a1_0 : Int) (a1_1 : Int) (a1_2 : Int) (a1_3 : Int) (A1_4 : Option Addr) (c1_4 : Nat) (l1_4 : List Int) (A2 : Option Addr) (c2 : Nat) (l2 : List Int) (r : Bool) (w : World) (hG : Glob w) (hr0 : Kd.C (Kd.int .u8) w A0 l0.length l0) (hc0 : l0.length ≤ c0) (hr1_4 : Kd.C (Kd.int .i64) w A1_4 l1_4.length l1_4) (hc1_4 : l1_4.length ≤ c1_4) (hr2 : Kd.C (Kd.int .u8) w A2 l2.length l2) (hc2 : l2.length ≤ c2) (h : avocetlaw05_InstrBack.f k l0 a1_0 a1_1 a1_2 a1_3 l1_4 l2 = some r) :
  Calls Tryd.prog 7 #[.slice A0 l0.length c0, .agg #[.int .i64 a1_0, .int .i64 a1_1, .int .i64 a1_2, .int .u64 a1_3, .slice A1_4 l1_4.length c1_4], .slice A2 l2.length c2] w fun e w' => e = .returned (.bool r) ∧ Below w.heap.size w w' := by
 have hu33 := Tryd.underlying33
 have HG := Aside0.mk hG
 clear hG
 have HR0 := Aside0.mk hr0
 have HC0 := Aside0.mk hc0
 clear hr0 hc0
 have HR1_4 := Aside0.mk hr1_4
 have HC1_4 := Aside0.mk hc1_4
 clear hr1_4 hc1_4
 have HR2 := Aside0.mk hr2
 have HC2 := Aside0.mk hc2
 clear hr2 hc2
 have HB := Aside0.mk (Below.refl w.heap.size w)
 have H : ((avocetlaw05_awake.f k).bind fun t453 => (if (l0.length : Int) > 100 then (avocetlaw05_InstrBack.j0 k l0 l2 t453 true a1_0 a1_1 a1_2 a1_3 l1_4) else (if (l2.length : Int) > 100 then (avocetlaw05_InstrBack.j0 k l0 l2 t453 true a1_0 a1_1 a1_2 a1_3 l1_4) else ((avocetlaw05_small.f a1_0 a1_1 a1_2 a1_3 l1_4).bind fun t454 => (avocetlaw05_InstrBack.j0 k l0 l2 t453 (!t454) a1_0 a1_1 a1_2 a1_3 l1_4))))) = some r := h
 clear h
 replace H := Option.bind_eq_some_iff.mp H
 obtain ⟨t453, A40, H⟩ := H
 replace H : (if (l0.length : Int) > 100 then (avocetlaw05_InstrBack.j0 k l0 l2 t453 true a1_0 a1_1 a1_2 a1_3 l1_4) else (if (l2.length : Int) > 100 then (avocetlaw05_InstrBack.j0 k l0 l2 t453 true a1_0 a1_1 a1_2 a1_3 l1_4) else ((avocetlaw05_small.f a1_0 a1_1 a1_2 a1_3 l1_4).bind fun t454 => (avocetlaw05_InstrBack.j0 k l0 l2 t453 (!t454) a1_0 a1_1 a1_2 a1_3 l1_4)))) = some r := H
 have A4 := Aside0.mk A40
 clear A40
 have HC5 := Aside0.mk H
 clear H
 go_enter Tryd.func7, Tryd.ntmps7
 go_upto_region 2 with (first | ((with_reducible refine gate_dst (N := 4) rfl ?_); (try (refine gate_guard (by rfl) ?_; dsimp only)); refine box_event ?hg (N := 4) ?hd (cs := #[.int .i64 a1_0, .int .i64 a1_1, .int .i64 a1_2, .int .u64 a1_3, .slice A1_4 l1_4.length c1_4]) (t := 33) ?hr ?_; (case hd => rfl); (case hg => rfl); (case hr => first | (go_simp; done) | (go_simp; rfl)); intro gb452 hg w6 hbox hb; have n0_ := Aside0.mk (below_step bl hb); have n1_ := Aside0.mk (hbox); have n2_ := Aside0.mk ((by rw [hg]; exact (below_size bl) : w.heap.size ≤ gb452)); have n3_ := Aside0.mk ((by rw [hg]; exact (below_size bl) : w.heap.size ≤ gb452)); clear HB; have HB := n0_; have BK452 := n1_; have GW452 := n2_; have GE452 := n3_; clear n0_ n1_ n2_ n3_; clear hb hbox hg) | ((with_reducible refine gate_callee (f := 22) rfl ?_); refine goesL_ (some 17) rfl rfl Tryd.func22 (by kernel_rfl) rfl #[] rfl am ?_; (with_reducible refine (avocetlaw05_awake.calls k  t453 _ ?side1 A4.out).mono ?_); (case side1 => exact Glob.below HG.out blx); rintro e w7 ⟨rfl, hb⟩; refine ⟨_, rfl, ?_⟩; have n0_ := Aside0.mk (blk_below (bk BK452) hb); have n1_ := Aside0.mk (below_step blx hb); clear BK452; clear HB; have BK452 := n0_; have HB := n1_; clear n0_ n1_; (try clear hb); (try clear hb2); (try clear hk); (try clear hi)))
 (try simp only [Act.put, List.setIfInBounds_toArray, List.set_cons_zero, List.set_cons_succ])
 go_cut [30] (fun v30 wc => ∃ (kq : Nat) (x30_4 : Bool), v30 = .bool x30_4 ∧ Aside0 (avocetlaw05_InstrBack.j0 kq l0 l2 t453 x30_4 a1_0 a1_1 a1_2 a1_3 l1_4 = some r) ∧ Aside0 (kq ≤ k) ∧ Aside0 (wc.heap[gb452]? = some (.cells #[.int .i64 a1_0, .int .i64 a1_1, .int .i64 a1_2, .int .u64 a1_3, (.slice A1_4 l1_4.length c1_4)] 33 (0, 0))) ∧ Aside0 (Below w.heap.size w wc))
 case first =>
  have H := HC5.out
  clear HC5
  by_cases c8 : (l0.length : Int) > 100
  ·rw [if_pos c8] at H
   have c8b0 : decide (100 < (l0.length : Int)) = true := decide_eq_true c8
   have c8b1 : decide (100 < l0.length) = true := decide_eq_true (by omega)
   clear c8
   (first | rw [c8b0] | (simp only [i64_w, i32_w]; rw [c8b0]) | skip)
   have H' := Aside0.mk H
   clear H
   go_wp2
   go_meet
   case rel => exact ⟨_, (true), rs, H', ⟨by first | omega | exact Nat.le_refl _⟩, ⟨by (with_reducible repeat (first | refine blk_drewN ?_ _ | refine blk_drew ?_ | refine blk_alloc ?_ _)); exact BK452.out⟩, ⟨by repeat (first | (with_reducible first | exact HB.out | apply below_alloc | apply pw_below_drewN | apply below_drew1 | refine below_set ?_ GE452.out) | exact HB.out)⟩⟩
  ·rw [if_neg c8] at H
   have c8b0 : decide (100 < (l0.length : Int)) = false := decide_eq_false c8
   have c8b1 : decide (100 < l0.length) = false := decide_eq_false (by omega)
   clear c8
   (first | rw [c8b0] | (simp only [i64_w, i32_w]; rw [c8b0]) | skip)
   by_cases c9 : (l2.length : Int) > 100
   ·rw [if_pos c9] at H
    have c9b0 : decide (100 < (l2.length : Int)) = true := decide_eq_true c9
    have c9b1 : decide (100 < l2.length) = true := decide_eq_true (by omega)
    clear c9
    have H' := Aside0.mk H
    clear H
    go_wp2
    go_meet
    case rel => exact ⟨_, (true), rs, H', ⟨by first | omega | exact Nat.le_refl _⟩, ⟨by (with_reducible repeat (first | refine blk_drewN ?_ _ | refine blk_drew ?_ | refine blk_alloc ?_ _)); exact BK452.out⟩, ⟨by repeat (first | (with_reducible first | exact HB.out | apply below_alloc | apply pw_below_drewN | apply below_drew1 | refine below_set ?_ GE452.out) | exact HB.out)⟩⟩
   ·rw [if_neg c9] at H
    have c9b0 : decide (100 < (l2.length : Int)) = false := decide_eq_false c9
    have c9b1 : decide (100 < l2.length) = false := decide_eq_false (by omega)
    clear c9
    replace H := Option.bind_eq_some_iff.mp H
    obtain ⟨t454, A100, H⟩ := H
    replace H : (avocetlaw05_InstrBack.j0 k l0 l2 t453 (!t454) a1_0 a1_1 a1_2 a1_3 l1_4) = some r := H
    have A10 := Aside0.mk A100
    clear A100
    have H' := Aside0.mk H
    clear H
    obtain ⟨hcz11_0, hcz11_1, hcz11_2, hcz11_3, hcz11_4⟩ := cells5 BK452.out
    obtain ⟨hfz11_0, hfz11_1, hfz11_2, hfz11_3, hfz11_4⟩ := froz5 BK452.out
    go_wp2_with (first | (go_at_call 23; (with_reducible refine (avocetlaw05_small.calls a1_0 a1_1 a1_2 a1_3 _ _ l1_4 t454 _ ?side1 ?side2 A10.out).mono ?_); (case side1 => exact ca HR1_4 HB); (case side2 => exact HC1_4.out); rintro e w12 ⟨rfl, hb⟩; have n0_ := Aside0.mk (blk_below (bk BK452) hb); have n1_ := Aside0.mk (below_step blx hb); clear BK452; clear HB; have BK452 := n0_; have HB := n1_; clear n0_ n1_; (try clear hb); (try clear hb2); (try clear hk); (try clear hi)))
    go_meet
    case rel => exact ⟨_, (!t454), rs, H', ⟨by first | omega | exact Nat.le_refl _⟩, ⟨by (with_reducible repeat (first | refine blk_drewN ?_ _ | refine blk_drew ?_ | refine blk_alloc ?_ _)); exact BK452.out⟩, ⟨by repeat (first | (with_reducible first | exact HB.out | apply below_alloc | apply pw_below_drewN | apply below_drew1 | refine below_set ?_ GE452.out) | exact HB.out)⟩⟩
 case rest =>
  clear HC5
  (try clear c1); (try clear c2); (try clear p2); (try clear c7); (try clear c8); (try clear c8b0); (try clear c8b1); (try clear c9); (try clear c9b0); (try clear c9b1); (try clear hcz11_0); (try clear hcz11_1); (try clear hcz11_2); (try clear hcz11_3); (try clear hcz11_4); (try clear hfz11_0); (try clear hfz11_1); (try clear hfz11_2); (try clear hfz11_3); (try clear hfz11_4)
  obtain ⟨kq, x30_4, rfl, HA, HJ4, BK452, HB⟩ := hcut
  cases kq with
  | zero => exact absurd HA.out (by simp [avocetlaw05_InstrBack.j0])
  | succ kj4 =>
   have H := HA.out
   clear HA
   simp only [avocetlaw05_InstrBack.j0] at H
   by_cases c13 : x30_4 = true
   ·subst c13
    have H1 : (some t453) = some r := by rw [if_pos rfl] at H; exact H
    clear H
    have H := H1
    clear H1
    obtain rfl := Option.some.inj H
    go_wp2
    go_ret
    exact ⟨er, by repeat (first | (with_reducible first | exact HB.out | apply below_alloc | apply pw_below_drewN | apply below_drew1 | refine below_set ?_ GE452.out) | exact HB.out)⟩
   ·replace c13 := Bool.eq_false_iff.mpr c13
    subst c13
    have H1 : ((instr_Put.f kj4 l0 a1_0 a1_1 a1_2 a1_3 l1_4).bind fun bt455 => (if bt455.2 = 0 then ((some (([] : List Int) : List Int)).bind fun y460 => (if y460.length + bt455.1.length < 140737488355328 then ((some (y460 ++ bt455.1 : List Int)).bind fun y463 => (if y463.length + l2.length < 140737488355328 then ((instr_Read.f kj4 (y463 ++ l2) (l0.length : Int)).bind fun bt469 => (if 0 ≤ (mx 0 (wrap64 ((bt455.1.length : Int) - 1))) then (if (mx 0 (wrap64 ((bt455.1.length : Int) - 1))) ≤ (bt455.1.length : Int) then ((instr_Read.f kj4 (bt455.1.take ((mx 0 (wrap64 ((bt455.1.length : Int) - 1))) : Int).toNat) (l0.length : Int)).bind fun bt483 => (if t453 = true then ((instr_Sane.f kj4 a1_0 a1_1 a1_2 a1_3 l1_4).bind fun t493 => (if t493 = true then (if bt469.2.2.2.2.2.2 = 0 then (if bt469.2.2.2.2.2.1 = (bt455.1.length : Int) then ((instr_Same.f kj4 a1_0 a1_1 a1_2 a1_3 l1_4 bt469.1 bt469.2.1 bt469.2.2.1 bt469.2.2.2.1 bt469.2.2.2.2.1).bind fun t494 => (if t494 = true then (some (bt483.2.2.2.2.2.2 == 2)) else (none))) else (none)) else (none)) else (none))) else (none))) else (none)) else (none))) else (none))) else (none))) else (if t453 = true then ((instr_Sane.f kj4 a1_0 a1_1 a1_2 a1_3 l1_4).bind fun t459 => (if t459 = true then (none) else (some ((bt455.1.length : Int) == 0)))) else (none)))) = some r := by rw [if_neg (show ¬ (false = true) by decide)] at H; exact H
    clear H
    have H := H1
    clear H1
    replace H := Option.bind_eq_some_iff.mp H
    obtain ⟨⟨t455, t458⟩, A140, H⟩ := H
    replace H : (if t458 = 0 then ((some (([] : List Int) : List Int)).bind fun y460 => (if y460.length + t455.length < 140737488355328 then ((some (y460 ++ t455 : List Int)).bind fun y463 => (if y463.length + l2.length < 140737488355328 then ((instr_Read.f kj4 (y463 ++ l2) (l0.length : Int)).bind fun bt469 => (if 0 ≤ (mx 0 (wrap64 ((t455.length : Int) - 1))) then (if (mx 0 (wrap64 ((t455.length : Int) - 1))) ≤ (t455.length : Int) then ((instr_Read.f kj4 (t455.take ((mx 0 (wrap64 ((t455.length : Int) - 1))) : Int).toNat) (l0.length : Int)).bind fun bt483 => (if t453 = true then ((instr_Sane.f kj4 a1_0 a1_1 a1_2 a1_3 l1_4).bind fun t493 => (if t493 = true then (if bt469.2.2.2.2.2.2 = 0 then (if bt469.2.2.2.2.2.1 = (t455.length : Int) then ((instr_Same.f kj4 a1_0 a1_1 a1_2 a1_3 l1_4 bt469.1 bt469.2.1 bt469.2.2.1 bt469.2.2.2.1 bt469.2.2.2.2.1).bind fun t494 => (if t494 = true then (some (bt483.2.2.2.2.2.2 == 2)) else (none))) else (none)) else (none)) else (none))) else (none))) else (none)) else (none))) else (none))) else (none))) else (if t453 = true then ((instr_Sane.f kj4 a1_0 a1_1 a1_2 a1_3 l1_4).bind fun t459 => (if t459 = true then (none) else (some ((t455.length : Int) == 0)))) else (none))) = some r := H
    have A14 := Aside0.mk A140
    clear A140
    by_cases c15 : t458 = 0
    ·rw [if_pos c15] at H
     have c15b0 : (t458 == 0) = true := beq_iff_eq.mpr c15
     have c15b1 : (t458 != 0) = false := bne_eq_false_iff_eq.mpr c15
     clear c15
     obtain ⟨y460, hy460⟩ : ∃ y_ : List Int, y_ = (([] : List Int)) := ⟨_, rfl⟩
     replace H : (if y460.length + t455.length < 140737488355328 then ((some (y460 ++ t455 : List Int)).bind fun y463 => (if y463.length + l2.length < 140737488355328 then ((instr_Read.f kj4 (y463 ++ l2) (l0.length : Int)).bind fun bt469 => (if 0 ≤ (mx 0 (wrap64 ((t455.length : Int) - 1))) then (if (mx 0 (wrap64 ((t455.length : Int) - 1))) ≤ (t455.length : Int) then ((instr_Read.f kj4 (t455.take ((mx 0 (wrap64 ((t455.length : Int) - 1))) : Int).toNat) (l0.length : Int)).bind fun bt483 => (if t453 = true then ((instr_Sane.f kj4 a1_0 a1_1 a1_2 a1_3 l1_4).bind fun t493 => (if t493 = true then (if bt469.2.2.2.2.2.2 = 0 then (if bt469.2.2.2.2.2.1 = (t455.length : Int) then ((instr_Same.f kj4 a1_0 a1_1 a1_2 a1_3 l1_4 bt469.1 bt469.2.1 bt469.2.2.1 bt469.2.2.2.1 bt469.2.2.2.2.1).bind fun t494 => (if t494 = true then (some (bt483.2.2.2.2.2.2 == 2)) else (none))) else (none)) else (none)) else (none))) else (none))) else (none)) else (none))) else (none))) else (none)) = some r := by first | (rw [hy460]; with_reducible exact H) | (have H2_ := (Option.bind_some _ _).symm.trans H; rw [hy460]; with_reducible exact H2_) | (have H2_ := (Option.bind_some _ _).symm.trans H; with_reducible exact H2_) | with_reducible exact H | (rw [hy460]; exact H) | exact H
     have Ny460 := Aside0.mk hy460
     clear hy460
     by_cases c16 : y460.length + t455.length < 140737488355328
     ·rw [if_pos c16] at H
      have LMc16 := Aside0.mk c16
      clear c16
      obtain ⟨y463, hy463⟩ : ∃ y_ : List Int, y_ = (y460 ++ t455) := ⟨_, rfl⟩
      replace H : (if y463.length + l2.length < 140737488355328 then ((instr_Read.f kj4 (y463 ++ l2) (l0.length : Int)).bind fun bt469 => (if 0 ≤ (mx 0 (wrap64 ((t455.length : Int) - 1))) then (if (mx 0 (wrap64 ((t455.length : Int) - 1))) ≤ (t455.length : Int) then ((instr_Read.f kj4 (t455.take ((mx 0 (wrap64 ((t455.length : Int) - 1))) : Int).toNat) (l0.length : Int)).bind fun bt483 => (if t453 = true then ((instr_Sane.f kj4 a1_0 a1_1 a1_2 a1_3 l1_4).bind fun t493 => (if t493 = true then (if bt469.2.2.2.2.2.2 = 0 then (if bt469.2.2.2.2.2.1 = (t455.length : Int) then ((instr_Same.f kj4 a1_0 a1_1 a1_2 a1_3 l1_4 bt469.1 bt469.2.1 bt469.2.2.1 bt469.2.2.2.1 bt469.2.2.2.2.1).bind fun t494 => (if t494 = true then (some (bt483.2.2.2.2.2.2 == 2)) else (none))) else (none)) else (none)) else (none))) else (none))) else (none)) else (none))) else (none)) = some r := by first | (rw [hy463]; with_reducible exact H) | (have H2_ := (Option.bind_some _ _).symm.trans H; rw [hy463]; with_reducible exact H2_) | (have H2_ := (Option.bind_some _ _).symm.trans H; with_reducible exact H2_) | with_reducible exact H | (rw [hy463]; exact H) | exact H
      have Ny463 := Aside0.mk hy463
      clear hy463
      by_cases c17 : y463.length + l2.length < 140737488355328
      ·rw [if_pos c17] at H
       have LMc17 := Aside0.mk c17
       clear c17
       obtain ⟨y466, hy466⟩ : ∃ y_ : List Int, y_ = (y463 ++ l2) := ⟨_, rfl⟩
       replace H : ((instr_Read.f kj4 y466 (l0.length : Int)).bind fun bt469 => (if 0 ≤ (mx 0 (wrap64 ((t455.length : Int) - 1))) then (if (mx 0 (wrap64 ((t455.length : Int) - 1))) ≤ (t455.length : Int) then ((instr_Read.f kj4 (t455.take ((mx 0 (wrap64 ((t455.length : Int) - 1))) : Int).toNat) (l0.length : Int)).bind fun bt483 => (if t453 = true then ((instr_Sane.f kj4 a1_0 a1_1 a1_2 a1_3 l1_4).bind fun t493 => (if t493 = true then (if bt469.2.2.2.2.2.2 = 0 then (if bt469.2.2.2.2.2.1 = (t455.length : Int) then ((instr_Same.f kj4 a1_0 a1_1 a1_2 a1_3 l1_4 bt469.1 bt469.2.1 bt469.2.2.1 bt469.2.2.2.1 bt469.2.2.2.2.1).bind fun t494 => (if t494 = true then (some (bt483.2.2.2.2.2.2 == 2)) else (none))) else (none)) else (none)) else (none))) else (none))) else (none)) else (none))) = some r := by first | (rw [hy466]; with_reducible exact H) | (have H2_ := (Option.bind_some _ _).symm.trans H; rw [hy466]; with_reducible exact H2_) | (have H2_ := (Option.bind_some _ _).symm.trans H; with_reducible exact H2_) | with_reducible exact H | (rw [hy466]; exact H) | exact H
       have Ny466 := Aside0.mk hy466
       clear hy466
       replace H := Option.bind_eq_some_iff.mp H
       obtain ⟨⟨t469, t470, t471, t472, t473, t476, t477⟩, A180, H⟩ := H
       replace H : (if 0 ≤ (mx 0 (wrap64 ((t455.length : Int) - 1))) then (if (mx 0 (wrap64 ((t455.length : Int) - 1))) ≤ (t455.length : Int) then ((instr_Read.f kj4 (t455.take ((mx 0 (wrap64 ((t455.length : Int) - 1))) : Int).toNat) (l0.length : Int)).bind fun bt483 => (if t453 = true then ((instr_Sane.f kj4 a1_0 a1_1 a1_2 a1_3 l1_4).bind fun t493 => (if t493 = true then (if t477 = 0 then (if t476 = (t455.length : Int) then ((instr_Same.f kj4 a1_0 a1_1 a1_2 a1_3 l1_4 t469 t470 t471 t472 t473).bind fun t494 => (if t494 = true then (some (bt483.2.2.2.2.2.2 == 2)) else (none))) else (none)) else (none)) else (none))) else (none))) else (none)) else (none)) = some r := H
       have A18 := Aside0.mk A180
       clear A180
       obtain ⟨ji19, hji19⟩ : ∃ j_ : Int, (mx 0 (wrap64 ((t455.length : Int) - 1))) = j_ := ⟨_, rfl⟩
       replace H : (if 0 ≤ (ji19) then (if (ji19) ≤ (t455.length : Int) then ((instr_Read.f kj4 (t455.take ((ji19) : Int).toNat) (l0.length : Int)).bind fun bt483 => (if t453 = true then ((instr_Sane.f kj4 a1_0 a1_1 a1_2 a1_3 l1_4).bind fun t493 => (if t493 = true then (if t477 = 0 then (if t476 = (t455.length : Int) then ((instr_Same.f kj4 a1_0 a1_1 a1_2 a1_3 l1_4 t469 t470 t471 t472 t473).bind fun t494 => (if t494 = true then (some (bt483.2.2.2.2.2.2 == 2)) else (none))) else (none)) else (none)) else (none))) else (none))) else (none)) else (none)) = some r := by first | (rw [hji19] at H; exact H) | (simp only [hji19] at H ⊢; exact H)
       (try rw [hji19] at A14)
       (try rw [hji19] at A18)
       (try (have hji19l : 0 ≤ ji19 := by (rw [← hji19]; unfold mx; (repeat' split) <;> omega)))
       (try (have hji19m : 0 ≤ ji19 := by omega))
       have hji19_ : (if 0 < (wrap64 ((t455.length : Int) - 1)) then (wrap64 ((t455.length : Int) - 1)) else 0) = ji19 := hji19
       by_cases c20 : 0 ≤ (ji19)
       ·rw [if_pos c20] at H
        have c20b0 := eq_true c20
        have c20b1 : decide (0 ≤ (ji19)) = true := decide_eq_true c20
        clear c20
        by_cases c21 : (ji19) ≤ (t455.length : Int)
        ·rw [if_pos c21] at H
         have c21b0 := eq_true c21
         have c21b1 : decide ((ji19) ≤ (t455.length : Int)) = true := decide_eq_true c21
         clear c21
         obtain ⟨y479, hy479⟩ : ∃ y_ : List Int, y_ = (t455.take ((ji19) : Int).toNat) := ⟨_, rfl⟩
         replace H : ((instr_Read.f kj4 y479 (l0.length : Int)).bind fun bt483 => (if t453 = true then ((instr_Sane.f kj4 a1_0 a1_1 a1_2 a1_3 l1_4).bind fun t493 => (if t493 = true then (if t477 = 0 then (if t476 = (t455.length : Int) then ((instr_Same.f kj4 a1_0 a1_1 a1_2 a1_3 l1_4 t469 t470 t471 t472 t473).bind fun t494 => (if t494 = true then (some (bt483.2.2.2.2.2.2 == 2)) else (none))) else (none)) else (none)) else (none))) else (none))) = some r := by first | (rw [hy479]; with_reducible exact H) | (have H2_ := (Option.bind_some _ _).symm.trans H; rw [hy479]; with_reducible exact H2_) | (have H2_ := (Option.bind_some _ _).symm.trans H; with_reducible exact H2_) | with_reducible exact H | (rw [hy479]; exact H) | exact H
         have Ny479 := Aside0.mk hy479
         clear hy479
         replace H := Option.bind_eq_some_iff.mp H
         obtain ⟨⟨t483, t484, t485, t486, t487, t490, t491⟩, A220, H⟩ := H
         replace H : (if t453 = true then ((instr_Sane.f kj4 a1_0 a1_1 a1_2 a1_3 l1_4).bind fun t493 => (if t493 = true then (if t477 = 0 then (if t476 = (t455.length : Int) then ((instr_Same.f kj4 a1_0 a1_1 a1_2 a1_3 l1_4 t469 t470 t471 t472 t473).bind fun t494 => (if t494 = true then (some (t491 == 2)) else (none))) else (none)) else (none)) else (none))) else (none)) = some r := H
         have A22 := Aside0.mk A220
         clear A220
         by_cases c23 : t453 = true
         ·subst c23
          have H1 : ((instr_Sane.f kj4 a1_0 a1_1 a1_2 a1_3 l1_4).bind fun t493 => (if t493 = true then (if t477 = 0 then (if t476 = (t455.length : Int) then ((instr_Same.f kj4 a1_0 a1_1 a1_2 a1_3 l1_4 t469 t470 t471 t472 t473).bind fun t494 => (if t494 = true then (some (t491 == 2)) else (none))) else (none)) else (none)) else (none))) = some r := by rw [if_pos rfl] at H; exact H
          clear H
          have H := H1
          clear H1
          replace H := Option.bind_eq_some_iff.mp H
          obtain ⟨t493, A240, H⟩ := H
          replace H : (if t493 = true then (if t477 = 0 then (if t476 = (t455.length : Int) then ((instr_Same.f kj4 a1_0 a1_1 a1_2 a1_3 l1_4 t469 t470 t471 t472 t473).bind fun t494 => (if t494 = true then (some (t491 == 2)) else (none))) else (none)) else (none)) else (none)) = some r := H
          have A24 := Aside0.mk A240
          clear A240
          by_cases c25 : t493 = true
          ·subst c25
           have H1 : (if t477 = 0 then (if t476 = (t455.length : Int) then ((instr_Same.f kj4 a1_0 a1_1 a1_2 a1_3 l1_4 t469 t470 t471 t472 t473).bind fun t494 => (if t494 = true then (some (t491 == 2)) else (none))) else (none)) else (none)) = some r := by rw [if_pos rfl] at H; exact H
           clear H
           have H := H1
           clear H1
           by_cases c26 : t477 = 0
           ·rw [if_pos c26] at H
            have c26b0 : (t477 == 0) = true := beq_iff_eq.mpr c26
            have c26b1 : (t477 != 0) = false := bne_eq_false_iff_eq.mpr c26
            clear c26
            by_cases c27 : t476 = (t455.length : Int)
            ·rw [if_pos c27] at H
             have c27b0 : (t476 == (t455.length : Int)) = true := beq_iff_eq.mpr c27
             have c27b1 : (t476 != (t455.length : Int)) = false := bne_eq_false_iff_eq.mpr c27
             clear c27
             replace H := Option.bind_eq_some_iff.mp H
             obtain ⟨t494, A280, H⟩ := H
             replace H : (if t494 = true then (some (t491 == 2)) else (none)) = some r := H
             have A28 := Aside0.mk A280
             clear A280
             by_cases c29 : t494 = true
             ·subst c29
              have H1 : (some (t491 == 2)) = some r := by rw [if_pos rfl] at H; exact H
              clear H
              have H := H1
              clear H1
              obtain rfl := Option.some.inj H
              obtain ⟨hcz30_0, hcz30_1, hcz30_2, hcz30_3, hcz30_4⟩ := cells5 BK452.out
              obtain ⟨hfz30_0, hfz30_1, hfz30_2, hfz30_3, hfz30_4⟩ := froz5 BK452.out
              go_wp2_with (first | ((with_reducible refine gate_callee (f := 24) rfl ?_); refine goesL_ (some 35) rfl rfl Tryd.func24 (by kernel_rfl) rfl #[.slice A0 l0.length c0, .agg #[.int .i64 a1_0, .int .i64 a1_1, .int .i64 a1_2, .int .u64 a1_3, .slice A1_4 l1_4.length c1_4]] rfl am ?_; (with_reducible refine (instr_Put.calls kj4 _ _ l0 a1_0 a1_1 a1_2 a1_3 _ _ l1_4 t455 t458 _ ?side1 ?side2 ?side3 ?side4 ?side5 A14.out).mono ?_); (case side1 => exact Glob.below HG.out blx); (case side2 => exact ca HR0 HB); (case side3 => exact HC0.out); (case side4 => exact ca HR1_4 HB); (case side5 => exact HC1_4.out); rintro e w31 ⟨v456, rfl, ho0, hb⟩; refine ⟨_, rfl, ?_⟩; have n0_ := Aside0.mk (Kd.R_lower ho0 (below_size blx)); have n1_ := Aside0.mk (blk_below (bk BK452) hb); have n2_ := Aside0.mk (below_step blx hb); clear BK452; clear HB; have HO457 := n0_; have BK452 := n1_; have HB := n2_; clear n0_ n1_ n2_; (try clear hb); (try clear hb2); (try clear hk); (try clear hi); (try clear ho0)) | ((with_reducible refine gate_dst (N := 51) rfl ?_); (try (refine gate_guard (by rfl) ?_; dsimp only)); refine Kd.R_lit (Kd.int .u8) _ 5 ?hg (N := 51) ?hd (xs := ([] : List Int)) (inner := []) (ok := fun _ => True) (okp := fun _ => True) ?hr ?hp (fun _ hk => hk) trivial (Below.refl _ _) (Nat.le_refl _) (by simp) ?_; (case hd => rfl); (case hg => rfl); (case hr => first | (go_simp; done) | (go_simp; rfl)); (case hp => exact (Reps.none _ _)); intro v461 w32 ho33 hb hg_ hnew_; clear hg_ hnew_; (first | rw [← Ny460.out] at ho33 | (simp only [Int.reduceToNat] at ho33; rw [← Ny460.out] at ho33)); have n0_ := Aside0.mk (Kd.R_elder' (ra HO457) (Kd.R_base ho33) hb); have n1_ := Aside0.mk (Kd.R_lower (Kd.R_new' ho33 (Kd.R_lt (ra HO457))) (below_size blx)); have n2_ := Aside0.mk (blk_below (bk BK452) hb); have n3_ := Aside0.mk (below_step blx hb); clear HO457; clear BK452; clear HB; have HO457 := n0_; have HO462 := n1_; have BK452 := n2_; have HB := n3_; clear n0_ n1_ n2_ n3_; clear hb ho33; obtain ⟨Ao35, co35, eo35⟩ := Kd.R_slice HO457.out; subst eo35) | ((with_reducible refine gate_builtin (b := .append) (xs := #[.tmp 51, .tmp 52]) rfl ?_); (try (refine gate_guard (by rfl) ?_; dsimp only)); at_builtin; refine Kd.R_append_rows (Kd.int .u8) (w0 := w) w.heap.size rfl (.tmp 51) (.tmp 52) 41 5 (.int .u8 0) 1 rfl Tryd.underlying41 info5 rfl (by decide) (by omega) v461 y460 t455 _ _ _ (fun k_ => some k_ ≠ (.slice Ao35 t455.length co35 : Value).ownBlock) (fun _ => False) rfl rfl ?aO ?aR (fun _ _ h => h) (fun _ h => h.elim) ?aF ?aB ?aS ?aL ?_; (case aR => repeat (first | exact (Kd.R_reads' HO457.out).2.2 | (with_reducible refine Kd.C_alloc ?_ _) | (with_reducible refine Kd.C_drewN ?_ _) | (with_reducible refine Kd.C_drew ?_))); (case aB => exact blx); (case aF => exact (fun k_ hk => Kd.fresh' (Kd.R_lt (ra HO457)) k_ hk)); (case aO => exact (by (with_reducible repeat (first | apply Kd.R_alloc | apply Kd.R_drewN | apply Kd.R_drew)); exact Kd.R_mono HO462.out (fun _ hk => hk.2))); (case aS => exact (below_size blx)); (case aL => have := LMc16.out; omega); intro v464 w34 ho hb hg hat; rw [← Ny463.out] at ho; have n0_ := Aside0.mk (blk_grown (g := gb452) (o := .cells #[.int .i64 a1_0, .int .i64 a1_1, .int .i64 a1_2, .int .u64 a1_3, .slice A1_4 l1_4.length c1_4] 33 (0, 0)) (bk BK452) hg (Kd.R_ne HO462.out BK452.out (by decide))); have n1_ := Aside0.mk (Kd.R_after (ok := (fun _ => True)) (ra HO457) hg hat); have n2_ := Aside0.mk (hb); have n3_ := Aside0.mk (ho); clear BK452; clear HO457; clear HB; clear HO462; have BK452 := n0_; have HO457 := n1_; have HB := n2_; have HO465 := n3_; clear n0_ n1_ n2_ n3_; clear ho hb hg hat) | ((with_reducible refine gate_builtin (b := .append) (xs := #[.tmp 53, .tmp 54]) rfl ?_); (try (refine gate_guard (by rfl) ?_; dsimp only)); at_builtin; refine Kd.R_append_rows (Kd.int .u8) (w0 := w) w.heap.size rfl (.tmp 53) (.tmp 54) 41 5 (.int .u8 0) 1 rfl Tryd.underlying41 info5 rfl (by decide) (by omega) v464 y463 l2 _ _ _ (fun k_ => some k_ ≠ (.slice Ao35 t455.length co35 : Value).ownBlock) (fun _ => False) rfl rfl ?aO ?aR (fun _ _ h => h) (fun _ h => h.elim) ?aF ?aB ?aS ?aL ?_; (case aR => exact ca HR2 HB); (case aB => exact blx); (case aF => exact (fun k_ hk => Kd.fresh' (Kd.R_lt (ra HO457)) k_ hk)); (case aO => exact (ra HO465)); (case aS => exact (below_size blx)); (case aL => have := LMc17.out; omega); intro v467 w36 ho hb hg hat; rw [← Ny466.out] at ho; have n0_ := Aside0.mk (blk_grown (g := gb452) (o := .cells #[.int .i64 a1_0, .int .i64 a1_1, .int .i64 a1_2, .int .u64 a1_3, .slice A1_4 l1_4.length c1_4] 33 (0, 0)) (bk BK452) hg (Kd.R_ne HO465.out BK452.out (by decide))); have n1_ := Aside0.mk (Kd.R_after (ok := (fun _ => True)) (ra HO457) hg hat); have n2_ := Aside0.mk (hb); have n3_ := Aside0.mk (ho); clear BK452; clear HO457; clear HB; clear HO465; have BK452 := n0_; have HO457 := n1_; have HB := n2_; have HO468 := n3_; clear n0_ n1_ n2_ n3_; clear ho hb hg hat; obtain ⟨Ao37, co37, eo37⟩ := Kd.R_slice HO468.out; subst eo37) | ((with_reducible refine gate_callee (f := 26) rfl ?_); refine goesL_ (some 60) rfl rfl Tryd.func26 (by kernel_rfl) rfl #[.slice Ao37 y466.length co37, .int .i64 (l0.length : Int)] rfl am ?_; (with_reducible refine (instr_Read.calls kj4 _ _ y466 (l0.length : Int) t469 t470 t471 t472 t473 t476 t477 _ ?side1 ?side2 ?side3 A18.out).mono ?_); (case side1 => exact Glob.below HG.out blx); (case side2 => repeat (first | exact (Kd.R_reads' HO468.out).2.2 | (with_reducible refine Kd.C_alloc ?_ _) | (with_reducible refine Kd.C_drewN ?_ _) | (with_reducible refine Kd.C_drew ?_))); (case side3 => exact (Kd.R_reads' HO468.out).2.1); rintro e w38 ⟨v474, rfl, ho0, hb⟩; refine ⟨_, rfl, ?_⟩; have n0_ := Aside0.mk (Kd.R_below (ra HO457) hb); have n1_ := Aside0.mk (Kd.R_below (ra HO468) hb); have n2_ := Aside0.mk (Kd.R_lower ho0 (below_size blx)); have n3_ := Aside0.mk (blk_below (bk BK452) hb); have n4_ := Aside0.mk (below_step blx hb); clear HO457; clear HO468; clear BK452; clear HB; have HO457 := n0_; have HO468 := n1_; have HO475 := n2_; have BK452 := n3_; have HB := n4_; clear n0_ n1_ n2_ n3_ n4_; (try clear hb); (try clear hb2); (try clear hk); (try clear hi); (try clear ho0)) | ((with_reducible refine gate_dst (N := 11) rfl ?_); (try (refine gate_guard (by rfl) ?_; dsimp only)); refine box_event ?hg (N := 11) ?hd (cs := #[.int .i64 0, .int .i64 0, .int .i64 0, .int .u64 0, .slice none 0 0]) (t := 33) ?hr ?_; (case hd => rfl); (case hg => rfl); (case hr => first | (go_simp; done) | (go_simp; rfl)); intro gb478 hg w39 hbox hb; have n0_ := Aside0.mk (Kd.R_below (ra HO457) hb); have n1_ := Aside0.mk (Kd.R_below (ra HO468) hb); have n2_ := Aside0.mk (Kd.R_below (ra HO475) hb); have n3_ := Aside0.mk (blk_below (bk BK452) hb); have n4_ := Aside0.mk (below_step blx hb); have n5_ := Aside0.mk (hbox); have n6_ := Aside0.mk ((by rw [hg]; exact (below_size blx) : w.heap.size ≤ gb478)); have n7_ := Aside0.mk ((by rw [hg]; exact (below_size blx) : w.heap.size ≤ gb478)); have n8_ := Aside0.mk ((by rw [hg]; exact Nat.ne_of_lt (blk_lt (bk BK452)) : gb452 ≠ gb478)); have n9_ := Aside0.mk ((by rw [hg]; exact Nat.ne_of_gt (blk_lt (bk BK452)) : gb478 ≠ gb452)); clear HO457; clear HO468; clear HO475; clear BK452; clear HB; have HO457 := n0_; have HO468 := n1_; have HO475 := n2_; have BK452 := n3_; have HB := n4_; have BK478 := n5_; have GW478 := n6_; have GE478 := n7_; have NB452_478 := n8_; have NB478_452 := n9_; clear n0_ n1_ n2_ n3_ n4_ n5_ n6_ n7_ n8_ n9_; clear hb hbox hg; have hnb40 := NB478_452.out; have hnc40 := NB452_478.out; obtain ⟨hcz41_0, hcz41_1, hcz41_2, hcz41_3, hcz41_4⟩ := cells5 BK478.out; obtain ⟨hfz41_0, hfz41_1, hfz41_2, hfz41_3, hfz41_4⟩ := froz5 BK478.out; obtain ⟨Ao42, co42, eo42⟩ := Kd.R_slice HO475.out; subst eo42) | ((with_reducible refine gate_store (t := 33) (p := 11) rfl ?_); refine store_event (t := 33) (p := 11) (v := ?vo_w43) (w1 := (((((w39.setCell ⟨gb478, 0, none⟩ (.int .i64 t469)).setCell ⟨gb478, 1, none⟩ (.int .i64 t470)).setCell ⟨gb478, 2, none⟩ (.int .i64 t471)).setCell ⟨gb478, 3, none⟩ (.int .u64 t472)).setCell ⟨gb478, 4, none⟩ (.slice Ao42 t473.length co42))) ?hg ?ho ?hn ?hr ?_; (case ho => rfl); (case hg => rfl); (case hn => rfl); (case hr => first | (go_simp; done) | (go_simp; rfl)); intro w43 hw; have n0_ : Aside0 (Kd.R (Kd.int .u8) 5 w43 w.heap.size (fun k_ => some k_ ≠ (.slice Ao37 y466.length co37 : Value).ownBlock) (.slice Ao35 t455.length co35) t455) := ⟨(by rw [hw]; exact (by (with_reducible repeat (first | apply Kd.R_alloc | apply Kd.R_drewN | apply Kd.R_drew)); exact Kd.R_mono (Kd.R_far (p := ⟨gb478, 4, none⟩) (Kd.R_far (p := ⟨gb478, 3, none⟩) (Kd.R_far (p := ⟨gb478, 2, none⟩) (Kd.R_far (p := ⟨gb478, 1, none⟩) (Kd.R_far (p := ⟨gb478, 0, none⟩) (Kd.R_types HO457.out BK478.out (by decide)) (fun _ hk => hk.2) (.int .i64 t469)) (fun _ hk => hk.2) (.int .i64 t470)) (fun _ hk => hk.2) (.int .i64 t471)) (fun _ hk => hk.2) (.int .u64 t472)) (fun _ hk => hk.2) (.slice Ao42 t473.length co42)) (fun _ hk => hk.1.2)))⟩; have n1_ : Aside0 (Kd.R (Kd.int .u8) 5 w43 w.heap.size (fun k_ => some k_ ≠ (.slice Ao35 t455.length co35 : Value).ownBlock) (.slice Ao37 y466.length co37) y466) := ⟨(by rw [hw]; exact (by (with_reducible repeat (first | apply Kd.R_alloc | apply Kd.R_drewN | apply Kd.R_drew)); exact Kd.R_mono (Kd.R_far (p := ⟨gb478, 4, none⟩) (Kd.R_far (p := ⟨gb478, 3, none⟩) (Kd.R_far (p := ⟨gb478, 2, none⟩) (Kd.R_far (p := ⟨gb478, 1, none⟩) (Kd.R_far (p := ⟨gb478, 0, none⟩) (Kd.R_types HO468.out BK478.out (by decide)) (fun _ hk => hk.2) (.int .i64 t469)) (fun _ hk => hk.2) (.int .i64 t470)) (fun _ hk => hk.2) (.int .i64 t471)) (fun _ hk => hk.2) (.int .u64 t472)) (fun _ hk => hk.2) (.slice Ao42 t473.length co42)) (fun _ hk => hk.1)))⟩; have n2_ : Aside0 (Kd.R (Kd.int .i64) 3 w43 w.heap.size (fun _ => True) (.slice Ao42 t473.length co42) t473) := ⟨(by rw [hw]; exact (by (with_reducible repeat (first | apply Kd.R_alloc | apply Kd.R_drewN | apply Kd.R_drew)); exact Kd.R_mono (Kd.R_far (p := ⟨gb478, 4, none⟩) (Kd.R_far (p := ⟨gb478, 3, none⟩) (Kd.R_far (p := ⟨gb478, 2, none⟩) (Kd.R_far (p := ⟨gb478, 1, none⟩) (Kd.R_far (p := ⟨gb478, 0, none⟩) (Kd.R_types HO475.out BK478.out (by decide)) (fun _ hk => hk.2) (.int .i64 t469)) (fun _ hk => hk.2) (.int .i64 t470)) (fun _ hk => hk.2) (.int .i64 t471)) (fun _ hk => hk.2) (.int .u64 t472)) (fun _ hk => hk.2) (.slice Ao42 t473.length co42)) (fun _ hk => trivial)))⟩; have n3_ : Aside0 (w43.heap[gb452]? = some (.cells #[.int .i64 a1_0, .int .i64 a1_1, .int .i64 a1_2, .int .u64 a1_3, .slice A1_4 l1_4.length c1_4] 33 (0, 0))) := ⟨(by rw [hw]; exact (by (with_reducible repeat (first | refine blk_drewN ?_ _ | refine blk_drew ?_ | refine blk_alloc ?_ _)); refine blk_far ?_ NB452_478.out _; (with_reducible repeat (first | refine blk_drewN ?_ _ | refine blk_drew ?_ | refine blk_alloc ?_ _)); refine blk_far ?_ NB452_478.out _; (with_reducible repeat (first | refine blk_drewN ?_ _ | refine blk_drew ?_ | refine blk_alloc ?_ _)); refine blk_far ?_ NB452_478.out _; (with_reducible repeat (first | refine blk_drewN ?_ _ | refine blk_drew ?_ | refine blk_alloc ?_ _)); refine blk_far ?_ NB452_478.out _; (with_reducible repeat (first | refine blk_drewN ?_ _ | refine blk_drew ?_ | refine blk_alloc ?_ _)); refine blk_far ?_ NB452_478.out _; (with_reducible repeat (first | refine blk_drewN ?_ _ | refine blk_drew ?_ | refine blk_alloc ?_ _)); exact BK452.out))⟩; have n4_ : Aside0 (w43.heap[gb478]? = some (.cells #[.int .i64 t469, .int .i64 t470, .int .i64 t471, .int .u64 t472, .slice Ao42 t473.length co42] 33 (0, 0))) := ⟨(by rw [hw]; exact (by (with_reducible repeat (first | refine blk_drewN ?_ _ | refine blk_drew ?_ | refine blk_alloc ?_ _)); refine blk_put (cs := #[.int .i64 t469, .int .i64 t470, .int .i64 t471, .int .u64 t472, .slice none 0 0]) ?_ 4 _ rfl; (with_reducible repeat (first | refine blk_drewN ?_ _ | refine blk_drew ?_ | refine blk_alloc ?_ _)); refine blk_put (cs := #[.int .i64 t469, .int .i64 t470, .int .i64 t471, .int .u64 0, .slice none 0 0]) ?_ 3 _ rfl; (with_reducible repeat (first | refine blk_drewN ?_ _ | refine blk_drew ?_ | refine blk_alloc ?_ _)); refine blk_put (cs := #[.int .i64 t469, .int .i64 t470, .int .i64 0, .int .u64 0, .slice none 0 0]) ?_ 2 _ rfl; (with_reducible repeat (first | refine blk_drewN ?_ _ | refine blk_drew ?_ | refine blk_alloc ?_ _)); refine blk_put (cs := #[.int .i64 t469, .int .i64 0, .int .i64 0, .int .u64 0, .slice none 0 0]) ?_ 1 _ rfl; (with_reducible repeat (first | refine blk_drewN ?_ _ | refine blk_drew ?_ | refine blk_alloc ?_ _)); refine blk_put (cs := #[.int .i64 0, .int .i64 0, .int .i64 0, .int .u64 0, .slice none 0 0]) ?_ 0 _ rfl; (with_reducible repeat (first | refine blk_drewN ?_ _ | refine blk_drew ?_ | refine blk_alloc ?_ _)); exact BK478.out))⟩; have n5_ : Aside0 (Below w.heap.size w w43) := ⟨(by rw [hw]; exact blx)⟩; clear hw; clear HO457; clear HO468; clear HO475; clear BK452; clear BK478; clear HB; have HO457 := n0_; have HO468 := n1_; have HO475 := n2_; have BK452 := n3_; have BK478 := n4_; have HB := n5_; clear n0_ n1_ n2_ n3_ n4_ n5_; have q44 : ((ji19) : Int) ≤ ((t455.length : Int) : Int) := of_decide_eq_true asm; obtain ⟨i044, hi044, _, hsz44, _⟩ := info_parts info5; have hroom44 : t455.length ≤ co35 := (Kd.R_reads' HO457.out).2.1; have hC44 : Kd.C (Kd.int .u8) _ Ao35 t455.length t455 := (Kd.R_reads' HO457.out).2.2; have hcut44 := cut_to (P := Tryd.prog) 41 5 .i64 Tryd.underlying41 hi044 Ao35 t455.length co35 (ji19) (of_decide_eq_true asm) q44 hroom44; have hr44 := Kd.C_take (m := ((ji19) : Int).toNat) hC44 (by omega); have hy44 : y479.length = ((ji19) : Int).toNat := (by rw [Ny479.out, List.length_take]; omega); rw [← Ny479.out] at hr44; rw [← hy44] at hcut44; have HR482 := Aside0.mk hr44; have HC482 := Aside0.mk (show y479.length ≤ co35 from by omega); clear hr44 hC44 hroom44 hi044 hsz44; have KY44 := Aside0.mk hy44; clear hy44; have KL44 := Aside0.mk (show ((ji19) : Int).toNat ≤ t455.length from by omega); replace q44 := eq_true q44) | ((with_reducible refine gate_callee (f := 26) rfl ?_); refine goesL_ (some 73) rfl rfl Tryd.func26 (by kernel_rfl) rfl #[.slice Ao35 y479.length co35, .int .i64 (l0.length : Int)] rfl am ?_; (with_reducible refine (instr_Read.calls kj4 _ _ y479 (l0.length : Int) t483 t484 t485 t486 t487 t490 t491 _ ?side1 ?side2 ?side3 A22.out).mono ?_); (case side1 => exact Glob.below HG.out blx); (case side2 => repeat (first | exact (by repeat (first | (with_reducible exact HR482.out) | (with_reducible refine Kd.C_alloc ?_ _) | (with_reducible refine Kd.C_drewN ?_ _) | (with_reducible refine Kd.C_drew ?_) | exact HR482.out)) | (with_reducible refine Kd.C_alloc ?_ _) | (with_reducible refine Kd.C_drewN ?_ _) | (with_reducible refine Kd.C_drew ?_))); (case side3 => exact HC482.out); rintro e w45 ⟨v488, rfl, ho0, hb⟩; refine ⟨_, rfl, ?_⟩; have n0_ := Aside0.mk (Kd.R_below (ra HO457) hb); have n1_ := Aside0.mk (Kd.R_below (ra HO468) hb); have n2_ := Aside0.mk (Kd.R_elder' (ra HO475) (Kd.R_base ho0) hb); have n3_ := Aside0.mk (Kd.R_lower (Kd.R_new' ho0 (Kd.R_lt (ra HO475))) (below_size blx)); have n4_ := Aside0.mk (blk_below (bk BK452) hb); have n5_ := Aside0.mk (blk_below (bk BK478) hb); have n6_ := Aside0.mk (Kd.C_below (by repeat (first | (with_reducible exact HR482.out) | (with_reducible refine Kd.C_alloc ?_ _) | (with_reducible refine Kd.C_drewN ?_ _) | (with_reducible refine Kd.C_drew ?_) | exact HR482.out)) hb); have n7_ := Aside0.mk (below_step blx hb); clear HO457; clear HO468; clear HO475; clear BK452; clear BK478; clear HR482; clear HB; have HO457 := n0_; have HO468 := n1_; have HO475 := n2_; have HO489 := n3_; have BK452 := n4_; have BK478 := n5_; have HR482 := n6_; have HB := n7_; clear n0_ n1_ n2_ n3_ n4_ n5_ n6_ n7_; (try clear hb); (try clear hb2); (try clear hk); (try clear hi); (try clear ho0)) | ((with_reducible refine gate_dst (N := 14) rfl ?_); (try (refine gate_guard (by rfl) ?_; dsimp only)); refine box_event ?hg (N := 14) ?hd (cs := #[.int .i64 0, .int .i64 0, .int .i64 0, .int .u64 0, .slice none 0 0]) (t := 33) ?hr ?_; (case hd => rfl); (case hg => rfl); (case hr => first | (go_simp; done) | (go_simp; rfl)); intro gb492 hg w46 hbox hb; have n0_ := Aside0.mk (Kd.R_below (ra HO457) hb); have n1_ := Aside0.mk (Kd.R_below (ra HO468) hb); have n2_ := Aside0.mk (Kd.R_below (ra HO475) hb); have n3_ := Aside0.mk (Kd.R_below (ra HO489) hb); have n4_ := Aside0.mk (blk_below (bk BK452) hb); have n5_ := Aside0.mk (blk_below (bk BK478) hb); have n6_ := Aside0.mk (Kd.C_below (by repeat (first | (with_reducible exact HR482.out) | (with_reducible refine Kd.C_alloc ?_ _) | (with_reducible refine Kd.C_drewN ?_ _) | (with_reducible refine Kd.C_drew ?_) | exact HR482.out)) hb); have n7_ := Aside0.mk (below_step blx hb); have n8_ := Aside0.mk (hbox); have n9_ := Aside0.mk ((by rw [hg]; exact (below_size blx) : w.heap.size ≤ gb492)); have n10_ := Aside0.mk ((by rw [hg]; exact (below_size blx) : w.heap.size ≤ gb492)); have n11_ := Aside0.mk ((by rw [hg]; exact Nat.ne_of_lt (blk_lt (bk BK452)) : gb452 ≠ gb492)); have n12_ := Aside0.mk ((by rw [hg]; exact Nat.ne_of_gt (blk_lt (bk BK452)) : gb492 ≠ gb452)); have n13_ := Aside0.mk ((by rw [hg]; exact Nat.ne_of_lt (blk_lt (bk BK478)) : gb478 ≠ gb492)); have n14_ := Aside0.mk ((by rw [hg]; exact Nat.ne_of_gt (blk_lt (bk BK478)) : gb492 ≠ gb478)); clear HO457; clear HO468; clear HO475; clear HO489; clear BK452; clear BK478; clear HR482; clear HB; have HO457 := n0_; have HO468 := n1_; have HO475 := n2_; have HO489 := n3_; have BK452 := n4_; have BK478 := n5_; have HR482 := n6_; have HB := n7_; have BK492 := n8_; have GW492 := n9_; have GE492 := n10_; have NB452_492 := n11_; have NB492_452 := n12_; have NB478_492 := n13_; have NB492_478 := n14_; clear n0_ n1_ n2_ n3_ n4_ n5_ n6_ n7_ n8_ n9_ n10_ n11_ n12_ n13_ n14_; clear hb hbox hg; have hnb47 := NB492_452.out; have hnc47 := NB452_492.out; have hnb48 := NB492_478.out; have hnc48 := NB478_492.out; obtain ⟨hcz49_0, hcz49_1, hcz49_2, hcz49_3, hcz49_4⟩ := cells5 BK492.out; obtain ⟨hfz49_0, hfz49_1, hfz49_2, hfz49_3, hfz49_4⟩ := froz5 BK492.out; obtain ⟨Ao50, co50, eo50⟩ := Kd.R_slice HO489.out; subst eo50; obtain ⟨hcz51_0, hcz51_1, hcz51_2, hcz51_3, hcz51_4⟩ := cells5 BK452.out; obtain ⟨hfz51_0, hfz51_1, hfz51_2, hfz51_3, hfz51_4⟩ := froz5 BK452.out) | (go_at_call 25; (with_reducible refine (instr_Sane.calls kj4 a1_0 a1_1 a1_2 a1_3 _ _ l1_4 true _ ?side1 ?side2 ?side3 A24.out).mono ?_); (case side1 => exact Glob.below HG.out blx); (case side2 => exact Kd.C_below HR1_4.out blx); (case side3 => exact HC1_4.out); rintro e w52 ⟨rfl, hb⟩; have n0_ := Aside0.mk (Kd.R_below (by (with_reducible repeat (first | apply Kd.R_alloc | apply Kd.R_drewN | apply Kd.R_drew)); exact (Kd.R_mono (Kd.R_far (p := ⟨gb492, 4, none⟩) (Kd.R_far (p := ⟨gb492, 3, none⟩) (Kd.R_far (p := ⟨gb492, 2, none⟩) (Kd.R_far (p := ⟨gb492, 1, none⟩) (Kd.R_far (p := ⟨gb492, 0, none⟩) (Kd.R_types HO457.out BK492.out (by decide)) (fun _ hk => hk.2) (.int .i64 t483)) (fun _ hk => hk.2) (.int .i64 t484)) (fun _ hk => hk.2) (.int .i64 t485)) (fun _ hk => hk.2) (.int .u64 t486)) (fun _ hk => hk.2) (.slice Ao50 t487.length co50)) (fun _ h_ => h_.1))) hb); have n1_ := Aside0.mk (Kd.R_below (by (with_reducible repeat (first | apply Kd.R_alloc | apply Kd.R_drewN | apply Kd.R_drew)); exact (Kd.R_mono (Kd.R_far (p := ⟨gb492, 4, none⟩) (Kd.R_far (p := ⟨gb492, 3, none⟩) (Kd.R_far (p := ⟨gb492, 2, none⟩) (Kd.R_far (p := ⟨gb492, 1, none⟩) (Kd.R_far (p := ⟨gb492, 0, none⟩) (Kd.R_types HO468.out BK492.out (by decide)) (fun _ hk => hk.2) (.int .i64 t483)) (fun _ hk => hk.2) (.int .i64 t484)) (fun _ hk => hk.2) (.int .i64 t485)) (fun _ hk => hk.2) (.int .u64 t486)) (fun _ hk => hk.2) (.slice Ao50 t487.length co50)) (fun _ h_ => h_.1))) hb); have n2_ := Aside0.mk (Kd.R_below (by (with_reducible repeat (first | apply Kd.R_alloc | apply Kd.R_drewN | apply Kd.R_drew)); exact (Kd.R_mono (Kd.R_far (p := ⟨gb492, 4, none⟩) (Kd.R_far (p := ⟨gb492, 3, none⟩) (Kd.R_far (p := ⟨gb492, 2, none⟩) (Kd.R_far (p := ⟨gb492, 1, none⟩) (Kd.R_far (p := ⟨gb492, 0, none⟩) (Kd.R_types HO475.out BK492.out (by decide)) (fun _ hk => hk.2) (.int .i64 t483)) (fun _ hk => hk.2) (.int .i64 t484)) (fun _ hk => hk.2) (.int .i64 t485)) (fun _ hk => hk.2) (.int .u64 t486)) (fun _ hk => hk.2) (.slice Ao50 t487.length co50)) (fun _ h_ => h_.1))) hb); have n3_ := Aside0.mk (Kd.R_below (by (with_reducible repeat (first | apply Kd.R_alloc | apply Kd.R_drewN | apply Kd.R_drew)); exact (Kd.R_mono (Kd.R_far (p := ⟨gb492, 4, none⟩) (Kd.R_far (p := ⟨gb492, 3, none⟩) (Kd.R_far (p := ⟨gb492, 2, none⟩) (Kd.R_far (p := ⟨gb492, 1, none⟩) (Kd.R_far (p := ⟨gb492, 0, none⟩) (Kd.R_types HO489.out BK492.out (by decide)) (fun _ hk => hk.2) (.int .i64 t483)) (fun _ hk => hk.2) (.int .i64 t484)) (fun _ hk => hk.2) (.int .i64 t485)) (fun _ hk => hk.2) (.int .u64 t486)) (fun _ hk => hk.2) (.slice Ao50 t487.length co50)) (fun _ h_ => h_.1))) hb); have n4_ := Aside0.mk (blk_below (g := gb452) (o := .cells #[.int .i64 a1_0, .int .i64 a1_1, .int .i64 a1_2, .int .u64 a1_3, .slice A1_4 l1_4.length c1_4] 33 (0, 0)) (by (with_reducible repeat (first | refine blk_drewN ?_ _ | refine blk_drew ?_ | refine blk_alloc ?_ _)); refine blk_far ?_ NB452_492.out _; (with_reducible repeat (first | refine blk_drewN ?_ _ | refine blk_drew ?_ | refine blk_alloc ?_ _)); refine blk_far ?_ NB452_492.out _; (with_reducible repeat (first | refine blk_drewN ?_ _ | refine blk_drew ?_ | refine blk_alloc ?_ _)); refine blk_far ?_ NB452_492.out _; (with_reducible repeat (first | refine blk_drewN ?_ _ | refine blk_drew ?_ | refine blk_alloc ?_ _)); refine blk_far ?_ NB452_492.out _; (with_reducible repeat (first | refine blk_drewN ?_ _ | refine blk_drew ?_ | refine blk_alloc ?_ _)); refine blk_far ?_ NB452_492.out _; (with_reducible repeat (first | refine blk_drewN ?_ _ | refine blk_drew ?_ | refine blk_alloc ?_ _)); exact BK452.out) hb); have n5_ := Aside0.mk (blk_below (g := gb478) (o := .cells #[.int .i64 t469, .int .i64 t470, .int .i64 t471, .int .u64 t472, .slice Ao42 t473.length co42] 33 (0, 0)) (by (with_reducible repeat (first | refine blk_drewN ?_ _ | refine blk_drew ?_ | refine blk_alloc ?_ _)); refine blk_far ?_ NB478_492.out _; (with_reducible repeat (first | refine blk_drewN ?_ _ | refine blk_drew ?_ | refine blk_alloc ?_ _)); refine blk_far ?_ NB478_492.out _; (with_reducible repeat (first | refine blk_drewN ?_ _ | refine blk_drew ?_ | refine blk_alloc ?_ _)); refine blk_far ?_ NB478_492.out _; (with_reducible repeat (first | refine blk_drewN ?_ _ | refine blk_drew ?_ | refine blk_alloc ?_ _)); refine blk_far ?_ NB478_492.out _; (with_reducible repeat (first | refine blk_drewN ?_ _ | refine blk_drew ?_ | refine blk_alloc ?_ _)); refine blk_far ?_ NB478_492.out _; (with_reducible repeat (first | refine blk_drewN ?_ _ | refine blk_drew ?_ | refine blk_alloc ?_ _)); exact BK478.out) hb); have n6_ := Aside0.mk (blk_below (g := gb492) (o := .cells #[.int .i64 t483, .int .i64 t484, .int .i64 t485, .int .u64 t486, .slice Ao50 t487.length co50] 33 (0, 0)) (by (with_reducible repeat (first | refine blk_drewN ?_ _ | refine blk_drew ?_ | refine blk_alloc ?_ _)); refine blk_put (cs := #[.int .i64 t483, .int .i64 t484, .int .i64 t485, .int .u64 t486, .slice none 0 0]) ?_ 4 _ rfl; (with_reducible repeat (first | refine blk_drewN ?_ _ | refine blk_drew ?_ | refine blk_alloc ?_ _)); refine blk_put (cs := #[.int .i64 t483, .int .i64 t484, .int .i64 t485, .int .u64 0, .slice none 0 0]) ?_ 3 _ rfl; (with_reducible repeat (first | refine blk_drewN ?_ _ | refine blk_drew ?_ | refine blk_alloc ?_ _)); refine blk_put (cs := #[.int .i64 t483, .int .i64 t484, .int .i64 0, .int .u64 0, .slice none 0 0]) ?_ 2 _ rfl; (with_reducible repeat (first | refine blk_drewN ?_ _ | refine blk_drew ?_ | refine blk_alloc ?_ _)); refine blk_put (cs := #[.int .i64 t483, .int .i64 0, .int .i64 0, .int .u64 0, .slice none 0 0]) ?_ 1 _ rfl; (with_reducible repeat (first | refine blk_drewN ?_ _ | refine blk_drew ?_ | refine blk_alloc ?_ _)); refine blk_put (cs := #[.int .i64 0, .int .i64 0, .int .i64 0, .int .u64 0, .slice none 0 0]) ?_ 0 _ rfl; (with_reducible repeat (first | refine blk_drewN ?_ _ | refine blk_drew ?_ | refine blk_alloc ?_ _)); exact BK492.out) hb); have n7_ := Aside0.mk (below_step blx hb); have n8_ := Aside0.mk ((show Kd.C (Kd.int .u8) w52 Ao35 y479.length y479 from by rw [Ny479.out]; exact Kd.C_take (m := ((ji19) : Int).toNat) ((Kd.R_reads' (Kd.R_below (by (with_reducible repeat (first | apply Kd.R_alloc | apply Kd.R_drewN | apply Kd.R_drew)); exact (Kd.R_mono (Kd.R_far (p := ⟨gb492, 4, none⟩) (Kd.R_far (p := ⟨gb492, 3, none⟩) (Kd.R_far (p := ⟨gb492, 2, none⟩) (Kd.R_far (p := ⟨gb492, 1, none⟩) (Kd.R_far (p := ⟨gb492, 0, none⟩) (Kd.R_types HO457.out BK492.out (by decide)) (fun _ hk => hk.2) (.int .i64 t483)) (fun _ hk => hk.2) (.int .i64 t484)) (fun _ hk => hk.2) (.int .i64 t485)) (fun _ hk => hk.2) (.int .u64 t486)) (fun _ hk => hk.2) (.slice Ao50 t487.length co50)) (fun _ h_ => h_.1))) hb)).2.2) KL44.out)); clear HO457; clear HO468; clear HO475; clear HO489; clear BK452; clear BK478; clear BK492; clear HB; clear HR482; have HO457 := n0_; have HO468 := n1_; have HO475 := n2_; have HO489 := n3_; have BK452 := n4_; have BK478 := n5_; have BK492 := n6_; have HB := n7_; have HR482 := n8_; clear n0_ n1_ n2_ n3_ n4_ n5_ n6_ n7_ n8_; (try clear hb); (try clear hb2); (try clear hk); (try clear hi); obtain ⟨hcz53_0, hcz53_1, hcz53_2, hcz53_3, hcz53_4⟩ := cells5 BK452.out; obtain ⟨hfz53_0, hfz53_1, hfz53_2, hfz53_3, hfz53_4⟩ := froz5 BK452.out; obtain ⟨hcz54_0, hcz54_1, hcz54_2, hcz54_3, hcz54_4⟩ := cells5 BK478.out; obtain ⟨hfz54_0, hfz54_1, hfz54_2, hfz54_3, hfz54_4⟩ := froz5 BK478.out) | (go_at_call 27; (with_reducible refine (instr_Same.calls kj4 a1_0 a1_1 a1_2 a1_3 _ _ l1_4 t469 t470 t471 t472 _ _ t473 true _ ?side1 ?side2 ?side3 ?side4 A28.out).mono ?_); (case side1 => exact ca HR1_4 HB); (case side2 => exact HC1_4.out); (case side3 => repeat (first | exact (Kd.R_reads' HO475.out).2.2 | (with_reducible refine Kd.C_alloc ?_ _) | (with_reducible refine Kd.C_drewN ?_ _) | (with_reducible refine Kd.C_drew ?_))); (case side4 => exact (Kd.R_reads' HO475.out).2.1); rintro e w55 ⟨rfl, hb⟩; have n0_ := Aside0.mk (Kd.R_below (ra HO457) hb); have n1_ := Aside0.mk (Kd.R_below (ra HO468) hb); have n2_ := Aside0.mk (Kd.R_below (ra HO475) hb); have n3_ := Aside0.mk (Kd.R_below (ra HO489) hb); have n4_ := Aside0.mk (blk_below (bk BK452) hb); have n5_ := Aside0.mk (blk_below (bk BK478) hb); have n6_ := Aside0.mk (blk_below (bk BK492) hb); have n7_ := Aside0.mk (Kd.C_below (by repeat (first | (with_reducible exact HR482.out) | (with_reducible refine Kd.C_alloc ?_ _) | (with_reducible refine Kd.C_drewN ?_ _) | (with_reducible refine Kd.C_drew ?_) | exact HR482.out)) hb); have n8_ := Aside0.mk (below_step blx hb); clear HO457; clear HO468; clear HO475; clear HO489; clear BK452; clear BK478; clear BK492; clear HR482; clear HB; have HO457 := n0_; have HO468 := n1_; have HO475 := n2_; have HO489 := n3_; have BK452 := n4_; have BK478 := n5_; have BK492 := n6_; have HR482 := n7_; have HB := n8_; clear n0_ n1_ n2_ n3_ n4_ n5_ n6_ n7_ n8_; (try clear hb); (try clear hb2); (try clear hk); (try clear hi)))
              go_ret
              exact ⟨by first | rfl | (simp [errW_none, errW_some] <;> rfl) | (simp only [← hji19]; first | rfl | (simp [errW_none, errW_some] <;> rfl)) | (simp [*, errW_none, errW_some] <;> rfl), by repeat (first | (with_reducible first | exact HB.out | apply below_alloc | apply pw_below_drewN | apply below_drew1 | refine below_set ?_ GE452.out | refine below_set ?_ GE478.out | refine below_set ?_ GE492.out) | exact HB.out)⟩
             ·replace c29 := Bool.eq_false_iff.mpr c29
              subst c29
              have H1 : (none) = some r := by rw [if_neg (show ¬ (false = true) by decide)] at H; exact H
              clear H
              have H := H1
              clear H1
              exact absurd H (by simp)
            ·rw [if_neg c27] at H
             exact absurd H (by simp)
           ·rw [if_neg c26] at H
            exact absurd H (by simp)
          ·replace c25 := Bool.eq_false_iff.mpr c25
           subst c25
           have H1 : (none) = some r := by rw [if_neg (show ¬ (false = true) by decide)] at H; exact H
           clear H
           have H := H1
           clear H1
           exact absurd H (by simp)
         ·replace c23 := Bool.eq_false_iff.mpr c23
          subst c23
          have H1 : (none) = some r := by rw [if_neg (show ¬ (false = true) by decide)] at H; exact H
          clear H
          have H := H1
          clear H1
          exact absurd H (by simp)
        ·rw [if_neg c21] at H
         exact absurd H (by simp)
       ·rw [if_neg c20] at H
        exact absurd H (by simp)
      ·rw [if_neg c17] at H
       exact absurd H (by simp)
     ·rw [if_neg c16] at H
      exact absurd H (by simp)
    ·rw [if_neg c15] at H
     have c15b0 : (t458 == 0) = false := beq_eq_false_iff_ne.mpr c15
     have c15b1 : (t458 != 0) = true := bne_iff_ne.mpr c15
     by_cases c56 : t453 = true
     ·subst c56
      have H1 : ((instr_Sane.f kj4 a1_0 a1_1 a1_2 a1_3 l1_4).bind fun t459 => (if t459 = true then (none) else (some ((t455.length : Int) == 0)))) = some r := by rw [if_pos rfl] at H; exact H
      clear H
      have H := H1
      clear H1
      replace H := Option.bind_eq_some_iff.mp H
      obtain ⟨t459, A570, H⟩ := H
      replace H : (if t459 = true then (none) else (some ((t455.length : Int) == 0))) = some r := H
      have A57 := Aside0.mk A570
      clear A570
      by_cases c58 : t459 = true
      ·subst c58
       have H1 : (none) = some r := by rw [if_pos rfl] at H; exact H
       clear H
       have H := H1
       clear H1
       exact absurd H (by simp)
      ·replace c58 := Bool.eq_false_iff.mpr c58
       subst c58
       have H1 : (some ((t455.length : Int) == 0)) = some r := by rw [if_neg (show ¬ (false = true) by decide)] at H; exact H
       clear H
       have H := H1
       clear H1
       obtain rfl := Option.some.inj H
       obtain ⟨hcz59_0, hcz59_1, hcz59_2, hcz59_3, hcz59_4⟩ := cells5 BK452.out
       obtain ⟨hfz59_0, hfz59_1, hfz59_2, hfz59_3, hfz59_4⟩ := froz5 BK452.out
       go_wp2_with (first | ((with_reducible refine gate_callee (f := 24) rfl ?_); refine goesL_ (some 35) rfl rfl Tryd.func24 (by kernel_rfl) rfl #[.slice A0 l0.length c0, .agg #[.int .i64 a1_0, .int .i64 a1_1, .int .i64 a1_2, .int .u64 a1_3, .slice A1_4 l1_4.length c1_4]] rfl am ?_; (with_reducible refine (instr_Put.calls kj4 _ _ l0 a1_0 a1_1 a1_2 a1_3 _ _ l1_4 t455 t458 _ ?side1 ?side2 ?side3 ?side4 ?side5 A14.out).mono ?_); (case side1 => exact Glob.below HG.out blx); (case side2 => exact ca HR0 HB); (case side3 => exact HC0.out); (case side4 => exact ca HR1_4 HB); (case side5 => exact HC1_4.out); rintro e w60 ⟨v456, rfl, ho0, hb⟩; refine ⟨_, rfl, ?_⟩; have n0_ := Aside0.mk (Kd.R_lower ho0 (below_size blx)); have n1_ := Aside0.mk (blk_below (bk BK452) hb); have n2_ := Aside0.mk (below_step blx hb); clear BK452; clear HB; have HO457 := n0_; have BK452 := n1_; have HB := n2_; clear n0_ n1_ n2_; (try clear hb); (try clear hb2); (try clear hk); (try clear hi); (try clear ho0); obtain ⟨hcz61_0, hcz61_1, hcz61_2, hcz61_3, hcz61_4⟩ := cells5 BK452.out; obtain ⟨hfz61_0, hfz61_1, hfz61_2, hfz61_3, hfz61_4⟩ := froz5 BK452.out) | (go_at_call 25; (with_reducible refine (instr_Sane.calls kj4 a1_0 a1_1 a1_2 a1_3 _ _ l1_4 false _ ?side1 ?side2 ?side3 A57.out).mono ?_); (case side1 => exact Glob.below HG.out blx); (case side2 => exact ca HR1_4 HB); (case side3 => exact HC1_4.out); rintro e w62 ⟨rfl, hb⟩; have n0_ := Aside0.mk (Kd.R_below (ra HO457) hb); have n1_ := Aside0.mk (blk_below (bk BK452) hb); have n2_ := Aside0.mk (below_step blx hb); clear HO457; clear BK452; clear HB; have HO457 := n0_; have BK452 := n1_; have HB := n2_; clear n0_ n1_ n2_; (try clear hb); (try clear hb2); (try clear hk); (try clear hi); obtain ⟨Ao63, co63, eo63⟩ := Kd.R_slice HO457.out; subst eo63))
       go_ret
       exact ⟨er, by repeat (first | (with_reducible first | exact HB.out | apply below_alloc | apply pw_below_drewN | apply below_drew1 | refine below_set ?_ GE452.out) | exact HB.out)⟩
     ·replace c56 := Bool.eq_false_iff.mpr c56
      subst c56
      have H1 : (none) = some r := by rw [if_neg (show ¬ (false = true) by decide)] at H; exact H
      clear H
      have H := H1
      clear H1
      exact absurd H (by simp)

end Go.Proofs.YtklnkkejkeelaaaDoor.X
