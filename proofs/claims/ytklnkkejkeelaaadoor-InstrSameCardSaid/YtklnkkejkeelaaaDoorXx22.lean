-- Printed by xprint, a tool of this work; Lean checks it.
import Derived.Test.YtklnkkejkeelaaaDoorXx0
import Derived.Test.YtklnkkejkeelaaaDoorXx3
import Derived.Test.YtklnkkejkeelaaaDoorXx4
import Derived.Test.YtklnkkejkeelaaaDoorXx6
import Derived.Test.YtklnkkejkeelaaaDoorXx9
namespace Go.Proofs.YtklnkkejkeelaaaDoor.X
open Go.RowKit Go.Proofs.YtklnkkejkeelaaaDoorW.PrintWords Go.Proofs.YtklnkkejkeelaaaDoorW.PrintLast Go.Proofs.YtklnkkejkeelaaaDoorW.PrintMore
attribute [local go_sem] max2_int min2_int max_two min_two max_three min_three max_four min_four   -- for this text's walks alone
set_option linter.unusedVariables false
set_option linter.unusedSimpArgs false

/-! ### avocetlaw05_InstrSame: function 10 -/
def avocetlaw05_InstrSame.j0 : Nat → Bool → Bool → Int → Int → Int → Int → List Int → Int → Int → Int → Int → List Int → Option (Bool)
 | 0, _, _, _, _, _, _, _, _, _, _, _, _ => none
 | k + 1, x5, x18, x539000, x539001, x539002, x539003, x539004, x540000, x540001, x540002, x540003, x540004 => if x18 = true then (some x5) else ((instr_Put.f k ([] : List Int) x539000 x539001 x539002 x539003 x539004).bind fun bt543 => ((instr_Put.f k ([] : List Int) x540000 x540001 x540002 x540003 x540004).bind fun bt547 => ((instr_Same.f k x539000 x539001 x539002 x539003 x539004 x539000 x539001 x539002 x539003 x539004).bind fun t551 => (if t551 = true then ((instr_Same.f k x539000 x539001 x539002 x539003 x539004 x540000 x540001 x540002 x540003 x540004).bind fun t552 => ((instr_Same.f k x540000 x540001 x540002 x540003 x540004 x539000 x539001 x539002 x539003 x539004).bind fun t553 => (if (t552 != t553) = true then (none) else (if x5 = true then (if bt543.2 = 0 then (if bt547.2 = 0 then ((instr_Same.f k x539000 x539001 x539002 x539003 x539004 x540000 x540001 x540002 x540003 x540004).bind fun t554 => (some (t554 == ((strOfNums bt543.1).toList == (strOfNums bt547.1).toList)))) else (some true)) else (some true)) else (none))))) else (none)))))
def avocetlaw05_InstrSame.f (k : Nat) (a0_0 : Int) (a0_1 : Int) (a0_2 : Int) (a0_3 : Int) (l0_4 : List Int) (a1_0 : Int) (a1_1 : Int) (a1_2 : Int) (a1_3 : Int) (l1_4 : List Int) : Option (Bool) := (avocetlaw05_awake.f k).bind fun t540 => ((avocetlaw05_small.f a0_0 a0_1 a0_2 a0_3 l0_4).bind fun t541 => (if t541 = true then ((avocetlaw05_small.f a1_0 a1_1 a1_2 a1_3 l1_4).bind fun t542 => (avocetlaw05_InstrSame.j0 k t540 (!t542) a0_0 a0_1 a0_2 a0_3 l0_4 a1_0 a1_1 a1_2 a1_3 l1_4)) else (avocetlaw05_InstrSame.j0 k t540 true a0_0 a0_1 a0_2 a0_3 l0_4 a1_0 a1_1 a1_2 a1_3 l1_4)))
theorem avocetlaw05_InstrSame.mono_l : ∀ k, (∀ y0 y1 y2 y3 y4 y5 y6 y7 y8 y9 y10 y11, LeO (avocetlaw05_InstrSame.j0 k y0 y1 y2 y3 y4 y5 y6 y7 y8 y9 y10 y11) (avocetlaw05_InstrSame.j0 (k + 1) y0 y1 y2 y3 y4 y5 y6 y7 y8 y9 y10 y11))
 | 0 => fun _ _ _ _ _ _ _ _ _ _ _ _ r h => by simp [avocetlaw05_InstrSame.j0] at h
 | k + 1 => by
  have ih0 := avocetlaw05_InstrSame.mono_l k
  ·intro y0 y1 y2 y3 y4 y5 y6 y7 y8 y9 y10 y11
   unfold avocetlaw05_InstrSame.j0
   repeat' first
   | (with_reducible exact ih0 _ _ _ _ _ _ _ _ _ _ _ _)
   | (with_reducible exact avocetlaw05_awake.mono _)
   | (with_reducible exact instr_Put.mono _ _ _ _ _ _ _)
   | (with_reducible exact instr_Same.mono _ _ _ _ _ _ _ _ _ _ _)
   | (with_reducible exact LeO.refl _)
   | (with_reducible exact LeO.none _)
   | (with_reducible refine LeO.ite ?_ ?_)
   | (with_reducible refine LeO.bind ?_ (fun _ => ?_))
   | exact ih0 _ _ _ _ _ _ _ _ _ _ _ _
   | exact avocetlaw05_awake.mono _
   | exact instr_Put.mono _ _ _ _ _ _ _
   | exact instr_Same.mono _ _ _ _ _ _ _ _ _ _ _
   | exact LeO.none _
   | refine LeO.ite ?_ ?_
   | refine LeO.bind ?_ (fun _ => ?_)
theorem avocetlaw05_InstrSame.mono : ∀ a0 a1 a2 a3 a4 a5 a6 a7 a8 a9 k, LeO (avocetlaw05_InstrSame.f k a0 a1 a2 a3 a4 a5 a6 a7 a8 a9) (avocetlaw05_InstrSame.f (k + 1) a0 a1 a2 a3 a4 a5 a6 a7 a8 a9) := by
 intro a0 a1 a2 a3 a4 a5 a6 a7 a8 a9 k
 have ih0 := avocetlaw05_InstrSame.mono_l k
 unfold avocetlaw05_InstrSame.f
 repeat' first
   | (with_reducible exact ih0 _ _ _ _ _ _ _ _ _ _ _ _)
   | (with_reducible exact avocetlaw05_awake.mono _)
   | (with_reducible exact instr_Put.mono _ _ _ _ _ _ _)
   | (with_reducible exact instr_Same.mono _ _ _ _ _ _ _ _ _ _ _)
   | (with_reducible exact LeO.refl _)
   | (with_reducible exact LeO.none _)
   | (with_reducible refine LeO.ite ?_ ?_)
   | (with_reducible refine LeO.bind ?_ (fun _ => ?_))
   | exact ih0 _ _ _ _ _ _ _ _ _ _ _ _
   | exact avocetlaw05_awake.mono _
   | exact instr_Put.mono _ _ _ _ _ _ _
   | exact instr_Same.mono _ _ _ _ _ _ _ _ _ _ _
   | exact LeO.none _
   | refine LeO.ite ?_ ?_
   | refine LeO.bind ?_ (fun _ => ?_)
def avocetlaw05_InstrSame.T6 : Bool × List (List Nat × List Nat) := (true, [([], []), ([], []), ([0, 1], [0, 1]), ([2], [2]), ([3, 2], [3]), ([4], [4]), ([4], [4]), ([5, 6, 4, 4], [4, 5, 6]), ([4], [4]), ([4], [4]), ([8, 9, 7, 4], [4, 8, 9]), ([7, 10, 4], [4, 7, 10]), ([4, 11], [4, 11])])
def avocetlaw05_InstrSame.B6 : List Nat := [0, 0, 3, 7, 15, 31, 31, 127, 31, 31, 1023, 2047, 4095]
theorem avocetlaw05_InstrSame.tab6 : rtab .any (opsOf Tryd.f10 6) = avocetlaw05_InstrSame.T6 := by kernel_rfl
theorem avocetlaw05_InstrSame.bits6 : waitsOk avocetlaw05_InstrSame.T6.2 avocetlaw05_InstrSame.B6 = true := by kernel_rfl
def avocetlaw05_InstrSame.T8 : Bool × List (List Nat × List Nat) := (true, [([], []), ([0], [0]), ([1], [1]), ([2, 1], [1, 2]), ([3, 1, 1], [1, 3]), ([4], [4]), ([5, 4], [4, 5]), ([4, 6, 1], [1, 4, 6]), ([7, 4, 1], [1, 7]), ([8], [8]), ([8], [8]), ([9, 10, 8, 8], [8, 9, 10]), ([8], [8]), ([12, 8], [8, 12]), ([8], [8]), ([14, 8], [8, 14]), ([13, 15, 8], [8, 13, 15]), ([11, 16, 8], [8, 11, 16]), ([8, 17, 1], [1, 8, 17]), ([1, 18], [1, 18]), ([19, 11, 0, 1, 2, 3, 4, 5, 6, 7, 8, 9, 10, 11, 12, 13, 14, 15, 16, 17, 18, 19], [19])])
def avocetlaw05_InstrSame.B8 : List Nat := [0, 1, 3, 7, 15, 31, 63, 127, 255, 511, 511, 2047, 511, 4607, 511, 16895, 61951, 131071, 262143, 524287, 1048575]
theorem avocetlaw05_InstrSame.tab8 : rtab .any (opsOf Tryd.f10 8) = avocetlaw05_InstrSame.T8 := by kernel_rfl
theorem avocetlaw05_InstrSame.bits8 : waitsOk avocetlaw05_InstrSame.T8.2 avocetlaw05_InstrSame.B8 = true := by kernel_rfl
set_option maxHeartbeats 8000000 in
set_option maxRecDepth 100000 in
theorem avocetlaw05_InstrSame.calls (k : Nat) (a0_0 : Int) (a0_1 : Int) (a0_2 : Int) (a0_3 : Int) (A0_4 : Option Addr) (c0_4 : Nat) (l0_4 : List Int) (a1_0 : Int) (a1_1 : Int) (a1_2 : Int) (a1_3 : Int) (A1_4 : Option Addr) (c1_4 : Nat) (l1_4 : List Int) (r : Bool) (w : World) (hG : Glob w) (hr0_4 : Kd.C (Kd.int .i64) w A0_4 l0_4.length l0_4) (hc0_4 : l0_4.length ≤ c0_4) (hr1_4 : Kd.C (Kd.int .i64) w A1_4 l1_4.length l1_4) (hc1_4 : l1_4.length ≤ c1_4) (h : avocetlaw05_InstrSame.f k a0_0 a0_1 a0_2 a0_3 l0_4 a1_0 a1_1 a1_2 a1_3 l1_4 = some r) :
  Calls Tryd.prog 10 #[.agg #[.int .i64 a0_0, .int .i64 a0_1, .int .i64 a0_2, .int .u64 a0_3, .slice A0_4 l0_4.length c0_4], .agg #[.int .i64 a1_0, .int .i64 a1_1, .int .i64 a1_2, .int .u64 a1_3, .slice A1_4 l1_4.length c1_4]] w fun e w' => e = .returned (.bool r) ∧ Below w.heap.size w w' := by
 have hu33 := Tryd.underlying33
 have HG := Aside0.mk hG
 clear hG
 have HR0_4 := Aside0.mk hr0_4
 have HC0_4 := Aside0.mk hc0_4
 clear hr0_4 hc0_4
 have HR1_4 := Aside0.mk hr1_4
 have HC1_4 := Aside0.mk hc1_4
 clear hr1_4 hc1_4
 have HB := Aside0.mk (Below.refl w.heap.size w)
 have H : ((avocetlaw05_awake.f k).bind fun t540 => ((avocetlaw05_small.f a0_0 a0_1 a0_2 a0_3 l0_4).bind fun t541 => (if t541 = true then ((avocetlaw05_small.f a1_0 a1_1 a1_2 a1_3 l1_4).bind fun t542 => (avocetlaw05_InstrSame.j0 k t540 (!t542) a0_0 a0_1 a0_2 a0_3 l0_4 a1_0 a1_1 a1_2 a1_3 l1_4)) else (avocetlaw05_InstrSame.j0 k t540 true a0_0 a0_1 a0_2 a0_3 l0_4 a1_0 a1_1 a1_2 a1_3 l1_4)))) = some r := h
 clear h
 replace H := Option.bind_eq_some_iff.mp H
 obtain ⟨t540, A30, H⟩ := H
 replace H : ((avocetlaw05_small.f a0_0 a0_1 a0_2 a0_3 l0_4).bind fun t541 => (if t541 = true then ((avocetlaw05_small.f a1_0 a1_1 a1_2 a1_3 l1_4).bind fun t542 => (avocetlaw05_InstrSame.j0 k t540 (!t542) a0_0 a0_1 a0_2 a0_3 l0_4 a1_0 a1_1 a1_2 a1_3 l1_4)) else (avocetlaw05_InstrSame.j0 k t540 true a0_0 a0_1 a0_2 a0_3 l0_4 a1_0 a1_1 a1_2 a1_3 l1_4))) = some r := H
 have A3 := Aside0.mk A30
 clear A30
 have HC4 := Aside0.mk H
 clear H
 go_enter Tryd.func10, Tryd.ntmps10
 go_upto_region 2 with (first | ((with_reducible refine gate_dst (N := 2) rfl ?_); refine box_event ?hg (N := 2) ?hd (cs := #[.int .i64 a0_0, .int .i64 a0_1, .int .i64 a0_2, .int .u64 a0_3, .slice A0_4 l0_4.length c0_4]) (t := 33) ?hr ?_; (case hd => rfl); (case hg => rfl); (case hr => first | (go_simp; done) | (go_simp; rfl)); intro gb538 hg w5 hbox hb; have n0_ := Aside0.mk (below_step bl hb); have n1_ := Aside0.mk (hbox); have n2_ := Aside0.mk ((by rw [hg]; exact (below_size bl) : w.heap.size ≤ gb538)); have n3_ := Aside0.mk ((by rw [hg]; exact (below_size bl) : w.heap.size ≤ gb538)); clear HB; have HB := n0_; have BK538 := n1_; have GW538 := n2_; have GE538 := n3_; clear n0_ n1_ n2_ n3_; clear hb hbox hg) | ((with_reducible refine gate_dst (N := 3) rfl ?_); refine box_event ?hg (N := 3) ?hd (cs := #[.int .i64 a1_0, .int .i64 a1_1, .int .i64 a1_2, .int .u64 a1_3, .slice A1_4 l1_4.length c1_4]) (t := 33) ?hr ?_; (case hd => rfl); (case hg => rfl); (case hr => first | (go_simp; done) | (go_simp; rfl)); intro gb539 hg w6 hbox hb; have n0_ := Aside0.mk (blk_below (bk BK538) hb); have n1_ := Aside0.mk (below_step blx hb); have n2_ := Aside0.mk (hbox); have n3_ := Aside0.mk ((by rw [hg]; exact (below_size blx) : w.heap.size ≤ gb539)); have n4_ := Aside0.mk ((by rw [hg]; exact (below_size blx) : w.heap.size ≤ gb539)); have n5_ := Aside0.mk ((by rw [hg]; exact Nat.ne_of_lt (blk_lt (bk BK538)) : gb538 ≠ gb539)); have n6_ := Aside0.mk ((by rw [hg]; exact Nat.ne_of_gt (blk_lt (bk BK538)) : gb539 ≠ gb538)); clear BK538; clear HB; have BK538 := n0_; have HB := n1_; have BK539 := n2_; have GW539 := n3_; have GE539 := n4_; have NB538_539 := n5_; have NB539_538 := n6_; clear n0_ n1_ n2_ n3_ n4_ n5_ n6_; clear hb hbox hg) | ((with_reducible refine gate_callee (f := 22) rfl ?_); refine goesL_ (some 10) rfl rfl Tryd.func22 (by kernel_rfl) rfl #[] rfl am ?_; (with_reducible refine (avocetlaw05_awake.calls k  t540 _ ?side1 A3.out).mono ?_); (case side1 => exact Glob.below HG.out blx); rintro e w7 ⟨rfl, hb⟩; refine ⟨_, rfl, ?_⟩; have n0_ := Aside0.mk (blk_below (bk BK538) hb); have n1_ := Aside0.mk (blk_below (bk BK539) hb); have n2_ := Aside0.mk (below_step blx hb); clear BK538; clear BK539; clear HB; have BK538 := n0_; have BK539 := n1_; have HB := n2_; clear n0_ n1_ n2_; (try clear hb); (try clear hb2); (try clear hk); (try clear hi)))
 (try simp only [Act.put, List.setIfInBounds_toArray, List.set_cons_zero, List.set_cons_succ])
 go_cut [18] (fun v18 wc => ∃ (kq : Nat) (x18_3 : Bool), v18 = .bool x18_3 ∧ Aside0 (avocetlaw05_InstrSame.j0 kq t540 x18_3 a0_0 a0_1 a0_2 a0_3 l0_4 a1_0 a1_1 a1_2 a1_3 l1_4 = some r) ∧ Aside0 (kq ≤ k) ∧ Aside0 (wc.heap[gb538]? = some (.cells #[.int .i64 a0_0, .int .i64 a0_1, .int .i64 a0_2, .int .u64 a0_3, (.slice A0_4 l0_4.length c0_4)] 33 (0, 0))) ∧ Aside0 (wc.heap[gb539]? = some (.cells #[.int .i64 a1_0, .int .i64 a1_1, .int .i64 a1_2, .int .u64 a1_3, (.slice A1_4 l1_4.length c1_4)] 33 (0, 0))) ∧ Aside0 (Below w.heap.size w wc))
 case first =>
  have H := HC4.out
  clear HC4
  replace H := Option.bind_eq_some_iff.mp H
  obtain ⟨t541, A80, H⟩ := H
  replace H : (if t541 = true then ((avocetlaw05_small.f a1_0 a1_1 a1_2 a1_3 l1_4).bind fun t542 => (avocetlaw05_InstrSame.j0 k t540 (!t542) a0_0 a0_1 a0_2 a0_3 l0_4 a1_0 a1_1 a1_2 a1_3 l1_4)) else (avocetlaw05_InstrSame.j0 k t540 true a0_0 a0_1 a0_2 a0_3 l0_4 a1_0 a1_1 a1_2 a1_3 l1_4)) = some r := H
  have A8 := Aside0.mk A80
  clear A80
  by_cases c9 : t541 = true
  ·subst c9
   have H1 : ((avocetlaw05_small.f a1_0 a1_1 a1_2 a1_3 l1_4).bind fun t542 => (avocetlaw05_InstrSame.j0 k t540 (!t542) a0_0 a0_1 a0_2 a0_3 l0_4 a1_0 a1_1 a1_2 a1_3 l1_4)) = some r := by rw [if_pos rfl] at H; exact H
   clear H
   have H := H1
   clear H1
   replace H := Option.bind_eq_some_iff.mp H
   obtain ⟨t542, A100, H⟩ := H
   replace H : (avocetlaw05_InstrSame.j0 k t540 (!t542) a0_0 a0_1 a0_2 a0_3 l0_4 a1_0 a1_1 a1_2 a1_3 l1_4) = some r := H
   have A10 := Aside0.mk A100
   clear A100
   have H' := Aside0.mk H
   clear H
   have hnb11 := NB538_539.out
   have hnc11 := NB539_538.out
   obtain ⟨hcz12_0, hcz12_1, hcz12_2, hcz12_3, hcz12_4⟩ := cells5 BK538.out
   obtain ⟨hfz12_0, hfz12_1, hfz12_2, hfz12_3, hfz12_4⟩ := froz5 BK538.out
   go_wp2_with (first | ((with_reducible refine gate_callee (f := 23) rfl ?_); refine goesL_ (some 12) rfl rfl Tryd.func23 (by kernel_rfl) rfl #[.agg #[.int .i64 a0_0, .int .i64 a0_1, .int .i64 a0_2, .int .u64 a0_3, .slice A0_4 l0_4.length c0_4]] rfl am ?_; (with_reducible refine (avocetlaw05_small.calls a0_0 a0_1 a0_2 a0_3 _ _ l0_4 true _ ?side1 ?side2 A8.out).mono ?_); (case side1 => exact ca HR0_4 HB); (case side2 => exact HC0_4.out); rintro e w13 ⟨rfl, hb⟩; refine ⟨_, rfl, ?_⟩; have n0_ := Aside0.mk (blk_below (bk BK538) hb); have n1_ := Aside0.mk (blk_below (bk BK539) hb); have n2_ := Aside0.mk (below_step blx hb); clear BK538; clear BK539; clear HB; have BK538 := n0_; have BK539 := n1_; have HB := n2_; clear n0_ n1_ n2_; (try clear hb); (try clear hb2); (try clear hk); (try clear hi); obtain ⟨hcz14_0, hcz14_1, hcz14_2, hcz14_3, hcz14_4⟩ := cells5 BK539.out; obtain ⟨hfz14_0, hfz14_1, hfz14_2, hfz14_3, hfz14_4⟩ := froz5 BK539.out) | (go_at_call 23; (with_reducible refine (avocetlaw05_small.calls a1_0 a1_1 a1_2 a1_3 _ _ l1_4 t542 _ ?side1 ?side2 A10.out).mono ?_); (case side1 => exact ca HR1_4 HB); (case side2 => exact HC1_4.out); rintro e w15 ⟨rfl, hb⟩; have n0_ := Aside0.mk (blk_below (bk BK538) hb); have n1_ := Aside0.mk (blk_below (bk BK539) hb); have n2_ := Aside0.mk (below_step blx hb); clear BK538; clear BK539; clear HB; have BK538 := n0_; have BK539 := n1_; have HB := n2_; clear n0_ n1_ n2_; (try clear hb); (try clear hb2); (try clear hk); (try clear hi)))
   go_meet
   case rel => exact ⟨_, (!t542), rs, H', ⟨by first | omega | exact Nat.le_refl _⟩, ⟨by (with_reducible repeat (first | refine blk_drewN ?_ _ | refine blk_drew ?_ | refine blk_alloc ?_ _)); exact BK538.out⟩, ⟨by (with_reducible repeat (first | refine blk_drewN ?_ _ | refine blk_drew ?_ | refine blk_alloc ?_ _)); exact BK539.out⟩, ⟨by repeat (first | (with_reducible first | exact HB.out | apply below_alloc | apply pw_below_drewN | apply below_drew1 | refine below_set ?_ GE538.out | refine below_set ?_ GE539.out) | exact HB.out)⟩⟩
  ·replace c9 := Bool.eq_false_iff.mpr c9
   subst c9
   have H1 : (avocetlaw05_InstrSame.j0 k t540 true a0_0 a0_1 a0_2 a0_3 l0_4 a1_0 a1_1 a1_2 a1_3 l1_4) = some r := by rw [if_neg (show ¬ (false = true) by decide)] at H; exact H
   clear H
   have H := H1
   clear H1
   have H' := Aside0.mk H
   clear H
   have hnb16 := NB538_539.out
   have hnc16 := NB539_538.out
   obtain ⟨hcz17_0, hcz17_1, hcz17_2, hcz17_3, hcz17_4⟩ := cells5 BK538.out
   obtain ⟨hfz17_0, hfz17_1, hfz17_2, hfz17_3, hfz17_4⟩ := froz5 BK538.out
   go_wp2_with (first | ((with_reducible refine gate_callee (f := 23) rfl ?_); refine goesL_ (some 12) rfl rfl Tryd.func23 (by kernel_rfl) rfl #[.agg #[.int .i64 a0_0, .int .i64 a0_1, .int .i64 a0_2, .int .u64 a0_3, .slice A0_4 l0_4.length c0_4]] rfl am ?_; (with_reducible refine (avocetlaw05_small.calls a0_0 a0_1 a0_2 a0_3 _ _ l0_4 false _ ?side1 ?side2 A8.out).mono ?_); (case side1 => exact ca HR0_4 HB); (case side2 => exact HC0_4.out); rintro e w18 ⟨rfl, hb⟩; refine ⟨_, rfl, ?_⟩; have n0_ := Aside0.mk (blk_below (bk BK538) hb); have n1_ := Aside0.mk (blk_below (bk BK539) hb); have n2_ := Aside0.mk (below_step blx hb); clear BK538; clear BK539; clear HB; have BK538 := n0_; have BK539 := n1_; have HB := n2_; clear n0_ n1_ n2_; (try clear hb); (try clear hb2); (try clear hk); (try clear hi)))
   go_meet
   case rel => exact ⟨_, (true), rs, H', ⟨by first | omega | exact Nat.le_refl _⟩, ⟨by (with_reducible repeat (first | refine blk_drewN ?_ _ | refine blk_drew ?_ | refine blk_alloc ?_ _)); exact BK538.out⟩, ⟨by (with_reducible repeat (first | refine blk_drewN ?_ _ | refine blk_drew ?_ | refine blk_alloc ?_ _)); exact BK539.out⟩, ⟨by repeat (first | (with_reducible first | exact HB.out | apply below_alloc | apply pw_below_drewN | apply below_drew1 | refine below_set ?_ GE538.out | refine below_set ?_ GE539.out) | exact HB.out)⟩⟩
 case rest =>
  clear HC4
  (try clear c1); (try clear c2); (try clear p2); (try clear c9); (try clear c10); (try clear c11); (try clear c16); (try clear hcz12_0); (try clear hcz12_1); (try clear hcz12_2); (try clear hcz12_3); (try clear hcz12_4); (try clear hcz14_0); (try clear hcz14_1); (try clear hcz14_2); (try clear hcz14_3); (try clear hcz14_4); (try clear hcz17_0); (try clear hcz17_1); (try clear hcz17_2); (try clear hcz17_3); (try clear hcz17_4); (try clear hfz12_0); (try clear hfz12_1); (try clear hfz12_2); (try clear hfz12_3); (try clear hfz12_4); (try clear hfz14_0); (try clear hfz14_1); (try clear hfz14_2); (try clear hfz14_3); (try clear hfz14_4); (try clear hfz17_0); (try clear hfz17_1); (try clear hfz17_2); (try clear hfz17_3); (try clear hfz17_4)
  obtain ⟨kq, x18_3, rfl, HA, HJ3, BK538, BK539, HB⟩ := hcut
  cases kq with
  | zero => exact absurd HA.out (by simp [avocetlaw05_InstrSame.j0])
  | succ kj3 =>
   have H := HA.out
   clear HA
   simp only [avocetlaw05_InstrSame.j0] at H
   by_cases c19 : x18_3 = true
   ·subst c19
    have H1 : (some t540) = some r := by rw [if_pos rfl] at H; exact H
    clear H
    have H := H1
    clear H1
    obtain rfl := Option.some.inj H
    go_wp2
    go_ret
    exact ⟨er, by repeat (first | (with_reducible first | exact HB.out | apply below_alloc | apply pw_below_drewN | apply below_drew1 | refine below_set ?_ GE538.out | refine below_set ?_ GE539.out) | exact HB.out)⟩
   ·replace c19 := Bool.eq_false_iff.mpr c19
    subst c19
    have H1 : ((instr_Put.f kj3 ([] : List Int) a0_0 a0_1 a0_2 a0_3 l0_4).bind fun bt543 => ((instr_Put.f kj3 ([] : List Int) a1_0 a1_1 a1_2 a1_3 l1_4).bind fun bt547 => ((instr_Same.f kj3 a0_0 a0_1 a0_2 a0_3 l0_4 a0_0 a0_1 a0_2 a0_3 l0_4).bind fun t551 => (if t551 = true then ((instr_Same.f kj3 a0_0 a0_1 a0_2 a0_3 l0_4 a1_0 a1_1 a1_2 a1_3 l1_4).bind fun t552 => ((instr_Same.f kj3 a1_0 a1_1 a1_2 a1_3 l1_4 a0_0 a0_1 a0_2 a0_3 l0_4).bind fun t553 => (if (t552 != t553) = true then (none) else (if t540 = true then (if bt543.2 = 0 then (if bt547.2 = 0 then ((instr_Same.f kj3 a0_0 a0_1 a0_2 a0_3 l0_4 a1_0 a1_1 a1_2 a1_3 l1_4).bind fun t554 => (some (t554 == ((strOfNums bt543.1).toList == (strOfNums bt547.1).toList)))) else (some true)) else (some true)) else (none))))) else (none))))) = some r := by rw [if_neg (show ¬ (false = true) by decide)] at H; exact H
    clear H
    have H := H1
    clear H1
    replace H := Option.bind_eq_some_iff.mp H
    obtain ⟨⟨t543, t546⟩, A200, H⟩ := H
    replace H : ((instr_Put.f kj3 ([] : List Int) a1_0 a1_1 a1_2 a1_3 l1_4).bind fun bt547 => ((instr_Same.f kj3 a0_0 a0_1 a0_2 a0_3 l0_4 a0_0 a0_1 a0_2 a0_3 l0_4).bind fun t551 => (if t551 = true then ((instr_Same.f kj3 a0_0 a0_1 a0_2 a0_3 l0_4 a1_0 a1_1 a1_2 a1_3 l1_4).bind fun t552 => ((instr_Same.f kj3 a1_0 a1_1 a1_2 a1_3 l1_4 a0_0 a0_1 a0_2 a0_3 l0_4).bind fun t553 => (if (t552 != t553) = true then (none) else (if t540 = true then (if t546 = 0 then (if bt547.2 = 0 then ((instr_Same.f kj3 a0_0 a0_1 a0_2 a0_3 l0_4 a1_0 a1_1 a1_2 a1_3 l1_4).bind fun t554 => (some (t554 == ((strOfNums t543).toList == (strOfNums bt547.1).toList)))) else (some true)) else (some true)) else (none))))) else (none)))) = some r := H
    have A20 := Aside0.mk A200
    clear A200
    replace H := Option.bind_eq_some_iff.mp H
    obtain ⟨⟨t547, t550⟩, A210, H⟩ := H
    replace H : ((instr_Same.f kj3 a0_0 a0_1 a0_2 a0_3 l0_4 a0_0 a0_1 a0_2 a0_3 l0_4).bind fun t551 => (if t551 = true then ((instr_Same.f kj3 a0_0 a0_1 a0_2 a0_3 l0_4 a1_0 a1_1 a1_2 a1_3 l1_4).bind fun t552 => ((instr_Same.f kj3 a1_0 a1_1 a1_2 a1_3 l1_4 a0_0 a0_1 a0_2 a0_3 l0_4).bind fun t553 => (if (t552 != t553) = true then (none) else (if t540 = true then (if t546 = 0 then (if t550 = 0 then ((instr_Same.f kj3 a0_0 a0_1 a0_2 a0_3 l0_4 a1_0 a1_1 a1_2 a1_3 l1_4).bind fun t554 => (some (t554 == ((strOfNums t543).toList == (strOfNums t547).toList)))) else (some true)) else (some true)) else (none))))) else (none))) = some r := H
    have A21 := Aside0.mk A210
    clear A210
    replace H := Option.bind_eq_some_iff.mp H
    obtain ⟨t551, A220, H⟩ := H
    replace H : (if t551 = true then ((instr_Same.f kj3 a0_0 a0_1 a0_2 a0_3 l0_4 a1_0 a1_1 a1_2 a1_3 l1_4).bind fun t552 => ((instr_Same.f kj3 a1_0 a1_1 a1_2 a1_3 l1_4 a0_0 a0_1 a0_2 a0_3 l0_4).bind fun t553 => (if (t552 != t553) = true then (none) else (if t540 = true then (if t546 = 0 then (if t550 = 0 then ((instr_Same.f kj3 a0_0 a0_1 a0_2 a0_3 l0_4 a1_0 a1_1 a1_2 a1_3 l1_4).bind fun t554 => (some (t554 == ((strOfNums t543).toList == (strOfNums t547).toList)))) else (some true)) else (some true)) else (none))))) else (none)) = some r := H
    have A22 := Aside0.mk A220
    clear A220
    by_cases c23 : t551 = true
    ·subst c23
     have H1 : ((instr_Same.f kj3 a0_0 a0_1 a0_2 a0_3 l0_4 a1_0 a1_1 a1_2 a1_3 l1_4).bind fun t552 => ((instr_Same.f kj3 a1_0 a1_1 a1_2 a1_3 l1_4 a0_0 a0_1 a0_2 a0_3 l0_4).bind fun t553 => (if (t552 != t553) = true then (none) else (if t540 = true then (if t546 = 0 then (if t550 = 0 then ((instr_Same.f kj3 a0_0 a0_1 a0_2 a0_3 l0_4 a1_0 a1_1 a1_2 a1_3 l1_4).bind fun t554 => (some (t554 == ((strOfNums t543).toList == (strOfNums t547).toList)))) else (some true)) else (some true)) else (none))))) = some r := by rw [if_pos rfl] at H; exact H
     clear H
     have H := H1
     clear H1
     replace H := Option.bind_eq_some_iff.mp H
     obtain ⟨t552, A240, H⟩ := H
     replace H : ((instr_Same.f kj3 a1_0 a1_1 a1_2 a1_3 l1_4 a0_0 a0_1 a0_2 a0_3 l0_4).bind fun t553 => (if (t552 != t553) = true then (none) else (if t540 = true then (if t546 = 0 then (if t550 = 0 then ((instr_Same.f kj3 a0_0 a0_1 a0_2 a0_3 l0_4 a1_0 a1_1 a1_2 a1_3 l1_4).bind fun t554 => (some (t554 == ((strOfNums t543).toList == (strOfNums t547).toList)))) else (some true)) else (some true)) else (none)))) = some r := H
     have A24 := Aside0.mk A240
     clear A240
     replace H := Option.bind_eq_some_iff.mp H
     obtain ⟨t553, A250, H⟩ := H
     replace H : (if (t552 != t553) = true then (none) else (if t540 = true then (if t546 = 0 then (if t550 = 0 then ((instr_Same.f kj3 a0_0 a0_1 a0_2 a0_3 l0_4 a1_0 a1_1 a1_2 a1_3 l1_4).bind fun t554 => (some (t554 == ((strOfNums t543).toList == (strOfNums t547).toList)))) else (some true)) else (some true)) else (none))) = some r := H
     have A25 := Aside0.mk A250
     clear A250
     by_cases c26 : (t552 != t553) = true
     ·rw [if_pos c26] at H
      exact absurd H (by simp)
     ·rw [if_neg c26] at H
      have c26b0 : (t552 != t553) = false := by simpa using c26
      (try (have c26b1 : decide (t552 = t553) = true := by simpa using c26))
      (try (have c26b2 : (t552 == t553) = true := by simpa using c26))
      clear c26
      by_cases c27 : t540 = true
      ·subst c27
       have H1 : (if t546 = 0 then (if t550 = 0 then ((instr_Same.f kj3 a0_0 a0_1 a0_2 a0_3 l0_4 a1_0 a1_1 a1_2 a1_3 l1_4).bind fun t554 => (some (t554 == ((strOfNums t543).toList == (strOfNums t547).toList)))) else (some true)) else (some true)) = some r := by rw [if_pos rfl] at H; exact H
       clear H
       have H := H1
       clear H1
       by_cases c28 : t546 = 0
       ·rw [if_pos c28] at H
        have c28b0 : (t546 == 0) = true := beq_iff_eq.mpr c28
        have c28b1 : (t546 != 0) = false := bne_eq_false_iff_eq.mpr c28
        clear c28
        by_cases c29 : t550 = 0
        ·rw [if_pos c29] at H
         have c29b0 : (t550 == 0) = true := beq_iff_eq.mpr c29
         have c29b1 : (t550 != 0) = false := bne_eq_false_iff_eq.mpr c29
         clear c29
         replace H := Option.bind_eq_some_iff.mp H
         obtain ⟨t554, A300, H⟩ := H
         replace H : (some (t554 == ((strOfNums t543).toList == (strOfNums t547).toList))) = some r := H
         have A30 := Aside0.mk A300
         clear A300
         obtain rfl := Option.some.inj H
         have hnb31 := NB538_539.out
         have hnc31 := NB539_538.out
         obtain ⟨hcz32_0, hcz32_1, hcz32_2, hcz32_3, hcz32_4⟩ := cells5 BK538.out
         obtain ⟨hfz32_0, hfz32_1, hfz32_2, hfz32_3, hfz32_4⟩ := froz5 BK538.out
         try go_wp2_with (first | ((with_reducible refine gate_callee (f := 24) rfl ?_); refine goesL_ (some 22) rfl rfl Tryd.func24 (by kernel_rfl) rfl #[.slice none 0 0, .agg #[.int .i64 a0_0, .int .i64 a0_1, .int .i64 a0_2, .int .u64 a0_3, .slice A0_4 l0_4.length c0_4]] rfl am ?_; (refine (instr_Put.calls kj3 _ _ ([] : List Int) a0_0 a0_1 a0_2 a0_3 _ _ l0_4 t543 t546 _ ?side1 ?side2 ?side3 ?side4 ?side5 A20.out).mono ?_); (case side1 => exact Glob.below HG.out blx); (case side2 => exact Kd.C_nil _ _); (case side3 => exact Nat.le_refl _); (case side4 => exact ca HR0_4 HB); (case side5 => exact HC0_4.out); rintro e w33 ⟨v544, rfl, ho0, hb⟩; refine ⟨_, rfl, ?_⟩; have n0_ := Aside0.mk (Kd.R_lower ho0 (below_size blx)); have n1_ := Aside0.mk (blk_below (bk BK538) hb); have n2_ := Aside0.mk (blk_below (bk BK539) hb); have n3_ := Aside0.mk (below_step blx hb); clear BK538; clear BK539; clear HB; have HO545 := n0_; have BK538 := n1_; have BK539 := n2_; have HB := n3_; clear n0_ n1_ n2_ n3_; (try clear hb); (try clear hb2); (try clear hk); (try clear hi); (try clear ho0); obtain ⟨hcz34_0, hcz34_1, hcz34_2, hcz34_3, hcz34_4⟩ := cells5 BK539.out; obtain ⟨hfz34_0, hfz34_1, hfz34_2, hfz34_3, hfz34_4⟩ := froz5 BK539.out) | ((with_reducible refine gate_callee (f := 24) rfl ?_); refine goesL_ (some 27) rfl rfl Tryd.func24 (by kernel_rfl) rfl #[.slice none 0 0, .agg #[.int .i64 a1_0, .int .i64 a1_1, .int .i64 a1_2, .int .u64 a1_3, .slice A1_4 l1_4.length c1_4]] rfl am ?_; (refine (instr_Put.calls kj3 _ _ ([] : List Int) a1_0 a1_1 a1_2 a1_3 _ _ l1_4 t547 t550 _ ?side1 ?side2 ?side3 ?side4 ?side5 A21.out).mono ?_); (case side1 => exact Glob.below HG.out blx); (case side2 => exact Kd.C_nil _ _); (case side3 => exact Nat.le_refl _); (case side4 => exact ca HR1_4 HB); (case side5 => exact HC1_4.out); rintro e w35 ⟨v548, rfl, ho0, hb⟩; refine ⟨_, rfl, ?_⟩; have n0_ := Aside0.mk (Kd.R_elder' (ra HO545) (Kd.R_base ho0) hb); have n1_ := Aside0.mk (Kd.R_lower (Kd.R_new' ho0 (Kd.R_lt (ra HO545))) (below_size blx)); have n2_ := Aside0.mk (blk_below (bk BK538) hb); have n3_ := Aside0.mk (blk_below (bk BK539) hb); have n4_ := Aside0.mk (below_step blx hb); clear HO545; clear BK538; clear BK539; clear HB; have HO545 := n0_; have HO549 := n1_; have BK538 := n2_; have BK539 := n3_; have HB := n4_; clear n0_ n1_ n2_ n3_ n4_; (try clear hb); (try clear hb2); (try clear hk); (try clear hi); (try clear ho0)))
         have n0_ := Aside0.mk (Kd.R_drew HO545.out)
         have n1_ := Aside0.mk (Kd.R_drew HO549.out)
         have n2_ := Aside0.mk (blk_drew BK538.out)
         have n3_ := Aside0.mk (blk_drew BK539.out)
         have n4_ := Aside0.mk (below_drew1 HB.out)
         clear HO545
         clear HO549
         clear BK538
         clear BK539
         clear HB
         have HO545 := n0_
         have HO549 := n1_
         have BK538 := n2_
         have BK539 := n3_
         have HB := n4_
         clear n0_ n1_ n2_ n3_ n4_
         refine start_ (n := 13) (S := fun w' => w'.cell? ⟨gb538, 0, none⟩ = some (.int .i64 a0_0) ∧ w'.cell? ⟨gb538, 1, none⟩ = some (.int .i64 a0_1) ∧ w'.cell? ⟨gb538, 2, none⟩ = some (.int .i64 a0_2) ∧ w'.cell? ⟨gb538, 3, none⟩ = some (.int .u64 a0_3) ∧ w'.cell? ⟨gb538, 4, none⟩ = some (.slice A0_4 l0_4.length c0_4) ∧ w'.cell? ⟨gb539, 0, none⟩ = some (.int .i64 a1_0) ∧ w'.cell? ⟨gb539, 1, none⟩ = some (.int .i64 a1_1) ∧ w'.cell? ⟨gb539, 2, none⟩ = some (.int .i64 a1_2) ∧ w'.cell? ⟨gb539, 3, none⟩ = some (.int .u64 a1_3) ∧ w'.cell? ⟨gb539, 4, none⟩ = some (.slice A1_4 l1_4.length c1_4)) (ds := []) #[false, false, false, false, false, false, false, false, false, false, false, false, false] (by kernel_rfl) rfl rfl ⟨(blk_cell BK538.out 0).trans rfl, (blk_cell BK538.out 1).trans rfl, (blk_cell BK538.out 2).trans rfl, (blk_cell BK538.out 3).trans rfl, (blk_cell BK538.out 4).trans rfl, (blk_cell BK539.out 0).trans rfl, (blk_cell BK539.out 1).trans rfl, (blk_cell BK539.out 2).trans rfl, (blk_cell BK539.out 3).trans rfl, (blk_cell BK539.out 4).trans rfl⟩ (fun hHeld => ?_); refine with_tabW avocetlaw05_InstrSame.tab6 avocetlaw05_InstrSame.bits6 (fun HT_ HW_ => ?_)
         generalize w35.drew = w36 at HO545 HO549 BK538 BK539 HB hHeld ⊢
         refine take_ (i := 0) (N := some 30) (v := ?_) (a' := ?_) #[true, false, false, false, false, false, false, false, false, false, false, false, false] rfl rfl (take_ofW HT_.out HW_.out (by kernel_rfl)) (fun _ _ _ h => h) (Or.inl ⟨by rfl, ?_⟩) hHeld ?_ ?_
         rotate_left
         ·rintro w' ⟨s0, s1, s2, s3, s4, s5, s6, s7, s8, s9⟩
          go_simp
          with_reducible rfl
         rotate_left
         ·simp only [Act.put, List.setIfInBounds_toArray, List.set_cons_zero, List.set_cons_succ, i64_w, i32_w]
          rfl
         refine take_ (i := 1) (N := some 31) (v := ?_) (a' := ?_) #[true, true, false, false, false, false, false, false, false, false, false, false, false] rfl rfl (take_ofW HT_.out HW_.out (by kernel_rfl)) (fun _ _ _ h => h) (Or.inl ⟨by rfl, ?_⟩) hHeld ?_ ?_
         rotate_left
         ·rintro w' ⟨s0, s1, s2, s3, s4, s5, s6, s7, s8, s9⟩
          go_simp
          with_reducible rfl
         rotate_left
         ·simp only [Act.put, List.setIfInBounds_toArray, List.set_cons_zero, List.set_cons_succ, i64_w, i32_w]
          rfl
         refine one_ (i := 2) (N := some 32) #[true, true, true, false, false, false, false, false, false, false, false, false, false] rfl rfl (one_of HT_.out (by kernel_rfl)) (by decide) (fun K hK => ?_)
         refine goes_ Tryd.func27 (by kernel_rfl) rfl #[.agg #[.int .i64 a0_0, .int .i64 a0_1, .int .i64 a0_2, .int .u64 a0_3, .slice A0_4 l0_4.length c0_4], .agg #[.int .i64 a0_0, .int .i64 a0_1, .int .i64 a0_2, .int .u64 a0_3, .slice A0_4 l0_4.length c0_4]] (by rfl) rfl rfl am ?_
         with_reducible refine (instr_Same.calls kj3 a0_0 a0_1 a0_2 a0_3 _ _ l0_4 a0_0 a0_1 a0_2 a0_3 _ _ l0_4 true _ ?side1 ?side2 ?side3 ?side4 A22.out).mono ?_
         (case side1 => exact ca HR0_4 HB)
         (case side2 => exact HC0_4.out)
         (case side3 => exact ca HR0_4 HB)
         (case side4 => exact HC0_4.out)
         rintro e w37 ⟨rfl, hb⟩
         refine ⟨_, rfl, ?_⟩
         have n0_ := Aside0.mk (Kd.R_below (ra HO545) hb)
         have n1_ := Aside0.mk (Kd.R_below (ra HO549) hb)
         have n2_ := Aside0.mk (blk_below (bk BK538) hb)
         have n3_ := Aside0.mk (blk_below (bk BK539) hb)
         have n4_ := Aside0.mk (below_step blx hb)
         clear HO545
         clear HO549
         clear BK538
         clear BK539
         clear HB
         have HO545 := n0_
         have HO549 := n1_
         have BK538 := n2_
         have BK539 := n3_
         have HB := n4_
         clear n0_ n1_ n2_ n3_ n4_
         (try clear hb)
         (try clear hb2)
         (try clear hk)
         (try clear hi)
         refine hK.out _ _ ⟨(blk_cell BK538.out 0).trans rfl, (blk_cell BK538.out 1).trans rfl, (blk_cell BK538.out 2).trans rfl, (blk_cell BK538.out 3).trans rfl, (blk_cell BK538.out 4).trans rfl, (blk_cell BK539.out 0).trans rfl, (blk_cell BK539.out 1).trans rfl, (blk_cell BK539.out 2).trans rfl, (blk_cell BK539.out 3).trans rfl, (blk_cell BK539.out 4).trans rfl⟩ (fun hHeld => ?_)
         clear hK K
         refine norm_ (a' := ?_) ?_ ?_
         rotate_left
         ·show Act.put _ (some 32) _ = _
          simp only [Act.put, List.setIfInBounds_toArray, List.set_cons_zero, List.set_cons_succ, i64_w, i32_w]
          rfl
         refine pure_ (i := 3) (N := some 33) (v := ?_) (a' := ?_) #[true, true, true, true, false, false, false, false, false, false, false, false, false] rfl rfl (any_of HT_.out (by kernel_rfl)) (fun _ _ _ h => h) (Or.inl ⟨by rfl, ?_⟩) ?_ ?_
         rotate_left
         ·intro w'
          go_simp
          with_reducible rfl
         rotate_left
         ·simp only [Act.put, List.setIfInBounds_toArray, List.set_cons_zero, List.set_cons_succ, i64_w, i32_w]
          rfl
         refine pure_ (i := 4) (N := some 34) (v := ?_) (a' := ?_) #[true, true, true, true, true, false, false, false, false, false, false, false, false] rfl rfl (any_of HT_.out (by kernel_rfl)) (fun _ _ _ h => h) (Or.inl ⟨by rfl, ?_⟩) ?_ ?_
         rotate_left
         ·intro w'
          go_simp
          with_reducible rfl
         rotate_left
         ·simp only [Act.put, List.setIfInBounds_toArray, List.set_cons_zero, List.set_cons_succ, i64_w, i32_w]
          rfl
         refine take_ (i := 5) (N := some 35) (v := ?_) (a' := ?_) #[true, true, true, true, true, true, false, false, false, false, false, false, false] rfl rfl (take_ofW HT_.out HW_.out (by kernel_rfl)) (fun _ _ _ h => h) (Or.inl ⟨by rfl, ?_⟩) hHeld ?_ ?_
         rotate_left
         ·rintro w' ⟨s0, s1, s2, s3, s4, s5, s6, s7, s8, s9⟩
          go_simp
          with_reducible rfl
         rotate_left
         ·simp only [Act.put, List.setIfInBounds_toArray, List.set_cons_zero, List.set_cons_succ, i64_w, i32_w]
          rfl
         refine take_ (i := 6) (N := some 36) (v := ?_) (a' := ?_) #[true, true, true, true, true, true, true, false, false, false, false, false, false] rfl rfl (take_ofW HT_.out HW_.out (by kernel_rfl)) (fun _ _ _ h => h) (Or.inl ⟨by rfl, ?_⟩) hHeld ?_ ?_
         rotate_left
         ·rintro w' ⟨s0, s1, s2, s3, s4, s5, s6, s7, s8, s9⟩
          go_simp
          with_reducible rfl
         rotate_left
         ·simp only [Act.put, List.setIfInBounds_toArray, List.set_cons_zero, List.set_cons_succ, i64_w, i32_w]
          rfl
         refine take_ (i := 8) (N := some 38) (v := ?_) (a' := ?_) #[true, true, true, true, true, true, true, false, true, false, false, false, false] rfl rfl (take_ofW HT_.out HW_.out (by kernel_rfl)) (fun _ _ _ h => h) (Or.inl ⟨by rfl, ?_⟩) hHeld ?_ ?_
         rotate_left
         ·rintro w' ⟨s0, s1, s2, s3, s4, s5, s6, s7, s8, s9⟩
          go_simp
          with_reducible rfl
         rotate_left
         ·simp only [Act.put, List.setIfInBounds_toArray, List.set_cons_zero, List.set_cons_succ, i64_w, i32_w]
          rfl
         refine take_ (i := 9) (N := some 39) (v := ?_) (a' := ?_) #[true, true, true, true, true, true, true, false, true, true, false, false, false] rfl rfl (take_ofW HT_.out HW_.out (by kernel_rfl)) (fun _ _ _ h => h) (Or.inl ⟨by rfl, ?_⟩) hHeld ?_ ?_
         rotate_left
         ·rintro w' ⟨s0, s1, s2, s3, s4, s5, s6, s7, s8, s9⟩
          go_simp
          with_reducible rfl
         rotate_left
         ·simp only [Act.put, List.setIfInBounds_toArray, List.set_cons_zero, List.set_cons_succ, i64_w, i32_w]
          rfl
         refine one_ (i := 7) (N := some 37) #[true, true, true, true, true, true, true, true, true, true, false, false, false] rfl rfl (one_of HT_.out (by kernel_rfl)) (by decide) (fun K hK => ?_)
         refine goes_ Tryd.func27 (by kernel_rfl) rfl #[.agg #[.int .i64 a0_0, .int .i64 a0_1, .int .i64 a0_2, .int .u64 a0_3, .slice A0_4 l0_4.length c0_4], .agg #[.int .i64 a1_0, .int .i64 a1_1, .int .i64 a1_2, .int .u64 a1_3, .slice A1_4 l1_4.length c1_4]] (by rfl) rfl rfl am ?_
         with_reducible refine (instr_Same.calls kj3 a0_0 a0_1 a0_2 a0_3 _ _ l0_4 a1_0 a1_1 a1_2 a1_3 _ _ l1_4 t552 _ ?side1 ?side2 ?side3 ?side4 A24.out).mono ?_
         (case side1 => exact ca HR0_4 HB)
         (case side2 => exact HC0_4.out)
         (case side3 => exact ca HR1_4 HB)
         (case side4 => exact HC1_4.out)
         rintro e w38 ⟨rfl, hb⟩
         refine ⟨_, rfl, ?_⟩
         have n0_ := Aside0.mk (Kd.R_below (ra HO545) hb)
         have n1_ := Aside0.mk (Kd.R_below (ra HO549) hb)
         have n2_ := Aside0.mk (blk_below (bk BK538) hb)
         have n3_ := Aside0.mk (blk_below (bk BK539) hb)
         have n4_ := Aside0.mk (below_step blx hb)
         clear HO545
         clear HO549
         clear BK538
         clear BK539
         clear HB
         have HO545 := n0_
         have HO549 := n1_
         have BK538 := n2_
         have BK539 := n3_
         have HB := n4_
         clear n0_ n1_ n2_ n3_ n4_
         (try clear hb)
         (try clear hb2)
         (try clear hk)
         (try clear hi)
         refine hK.out _ _ ⟨(blk_cell BK538.out 0).trans rfl, (blk_cell BK538.out 1).trans rfl, (blk_cell BK538.out 2).trans rfl, (blk_cell BK538.out 3).trans rfl, (blk_cell BK538.out 4).trans rfl, (blk_cell BK539.out 0).trans rfl, (blk_cell BK539.out 1).trans rfl, (blk_cell BK539.out 2).trans rfl, (blk_cell BK539.out 3).trans rfl, (blk_cell BK539.out 4).trans rfl⟩ (fun hHeld => ?_)
         clear hK K
         refine norm_ (a' := ?_) ?_ ?_
         rotate_left
         ·show Act.put _ (some 37) _ = _
          simp only [Act.put, List.setIfInBounds_toArray, List.set_cons_zero, List.set_cons_succ, i64_w, i32_w]
          rfl
         refine one_ (i := 10) (N := some 40) #[true, true, true, true, true, true, true, true, true, true, true, false, false] rfl rfl (one_of HT_.out (by kernel_rfl)) (by decide) (fun K hK => ?_)
         refine goes_ Tryd.func27 (by kernel_rfl) rfl #[.agg #[.int .i64 a1_0, .int .i64 a1_1, .int .i64 a1_2, .int .u64 a1_3, .slice A1_4 l1_4.length c1_4], .agg #[.int .i64 a0_0, .int .i64 a0_1, .int .i64 a0_2, .int .u64 a0_3, .slice A0_4 l0_4.length c0_4]] (by rfl) rfl rfl am ?_
         with_reducible refine (instr_Same.calls kj3 a1_0 a1_1 a1_2 a1_3 _ _ l1_4 a0_0 a0_1 a0_2 a0_3 _ _ l0_4 t553 _ ?side1 ?side2 ?side3 ?side4 A25.out).mono ?_
         (case side1 => exact ca HR1_4 HB)
         (case side2 => exact HC1_4.out)
         (case side3 => exact ca HR0_4 HB)
         (case side4 => exact HC0_4.out)
         rintro e w39 ⟨rfl, hb⟩
         refine ⟨_, rfl, ?_⟩
         have n0_ := Aside0.mk (Kd.R_below (ra HO545) hb)
         have n1_ := Aside0.mk (Kd.R_below (ra HO549) hb)
         have n2_ := Aside0.mk (blk_below (bk BK538) hb)
         have n3_ := Aside0.mk (blk_below (bk BK539) hb)
         have n4_ := Aside0.mk (below_step blx hb)
         clear HO545
         clear HO549
         clear BK538
         clear BK539
         clear HB
         have HO545 := n0_
         have HO549 := n1_
         have BK538 := n2_
         have BK539 := n3_
         have HB := n4_
         clear n0_ n1_ n2_ n3_ n4_
         (try clear hb)
         (try clear hb2)
         (try clear hk)
         (try clear hi)
         refine hK.out _ _ ⟨(blk_cell BK538.out 0).trans rfl, (blk_cell BK538.out 1).trans rfl, (blk_cell BK538.out 2).trans rfl, (blk_cell BK538.out 3).trans rfl, (blk_cell BK538.out 4).trans rfl, (blk_cell BK539.out 0).trans rfl, (blk_cell BK539.out 1).trans rfl, (blk_cell BK539.out 2).trans rfl, (blk_cell BK539.out 3).trans rfl, (blk_cell BK539.out 4).trans rfl⟩ (fun hHeld => ?_)
         clear hK K
         refine norm_ (a' := ?_) ?_ ?_
         rotate_left
         ·show Act.put _ (some 40) _ = _
          simp only [Act.put, List.setIfInBounds_toArray, List.set_cons_zero, List.set_cons_succ, i64_w, i32_w]
          rfl
         refine pure_ (i := 11) (N := some 41) (v := ?_) (a' := ?_) #[true, true, true, true, true, true, true, true, true, true, true, true, false] rfl rfl (any_of HT_.out (by kernel_rfl)) (fun _ _ _ h => h) (Or.inl ⟨by rfl, ?_⟩) ?_ ?_
         rotate_left
         ·intro w'
          go_simp
          with_reducible rfl
         rotate_left
         ·simp only [Act.put, List.setIfInBounds_toArray, List.set_cons_zero, List.set_cons_succ, i64_w, i32_w]
          rfl
         refine pure_ (i := 12) (N := some 42) (v := ?_) (a' := ?_) #[true, true, true, true, true, true, true, true, true, true, true, true, true] rfl rfl (any_of HT_.out (by kernel_rfl)) (fun _ _ _ h => h) (Or.inl ⟨by rfl, ?_⟩) ?_ ?_
         rotate_left
         ·intro w'
          go_simp
          with_reducible rfl
         rotate_left
         ·simp only [Act.put, List.setIfInBounds_toArray, List.set_cons_zero, List.set_cons_succ, i64_w, i32_w]
          rfl
         refine done_ (done_of HT_.out (by kernel_rfl)) ?_
         try go_wp2
         have n0_ := Aside0.mk (Kd.R_drew HO545.out)
         have n1_ := Aside0.mk (Kd.R_drew HO549.out)
         have n2_ := Aside0.mk (blk_drew BK538.out)
         have n3_ := Aside0.mk (blk_drew BK539.out)
         have n4_ := Aside0.mk (below_drew1 HB.out)
         clear HO545
         clear HO549
         clear BK538
         clear BK539
         clear HB
         have HO545 := n0_
         have HO549 := n1_
         have BK538 := n2_
         have BK539 := n3_
         have HB := n4_
         clear n0_ n1_ n2_ n3_ n4_
         refine start_ (n := 21) (S := fun w' => w'.cell? ⟨gb538, 0, none⟩ = some (.int .i64 a0_0) ∧ w'.cell? ⟨gb538, 1, none⟩ = some (.int .i64 a0_1) ∧ w'.cell? ⟨gb538, 2, none⟩ = some (.int .i64 a0_2) ∧ w'.cell? ⟨gb538, 3, none⟩ = some (.int .u64 a0_3) ∧ w'.cell? ⟨gb538, 4, none⟩ = some (.slice A0_4 l0_4.length c0_4) ∧ w'.cell? ⟨gb539, 0, none⟩ = some (.int .i64 a1_0) ∧ w'.cell? ⟨gb539, 1, none⟩ = some (.int .i64 a1_1) ∧ w'.cell? ⟨gb539, 2, none⟩ = some (.int .i64 a1_2) ∧ w'.cell? ⟨gb539, 3, none⟩ = some (.int .u64 a1_3) ∧ w'.cell? ⟨gb539, 4, none⟩ = some (.slice A1_4 l1_4.length c1_4)) (ds := []) #[false, false, false, false, false, false, false, false, false, false, false, false, false, false, false, false, false, false, false, false, false] (by kernel_rfl) rfl rfl ⟨(blk_cell BK538.out 0).trans rfl, (blk_cell BK538.out 1).trans rfl, (blk_cell BK538.out 2).trans rfl, (blk_cell BK538.out 3).trans rfl, (blk_cell BK538.out 4).trans rfl, (blk_cell BK539.out 0).trans rfl, (blk_cell BK539.out 1).trans rfl, (blk_cell BK539.out 2).trans rfl, (blk_cell BK539.out 3).trans rfl, (blk_cell BK539.out 4).trans rfl⟩ (fun hHeld => ?_); refine with_tabW avocetlaw05_InstrSame.tab8 avocetlaw05_InstrSame.bits8 (fun HT_ HW_ => ?_)
         generalize w39.drew = w40 at HO545 HO549 BK538 BK539 HB hHeld ⊢
         refine pure_ (i := 0) (N := some 43) (v := ?_) (a' := ?_) #[true, false, false, false, false, false, false, false, false, false, false, false, false, false, false, false, false, false, false, false, false] rfl rfl (any_of HT_.out (by kernel_rfl)) (fun _ _ _ h => h) (Or.inl ⟨by rfl, ?_⟩) ?_ ?_
         rotate_left
         ·intro w'
          go_simp
          with_reducible rfl
         rotate_left
         ·simp only [Act.put, List.setIfInBounds_toArray, List.set_cons_zero, List.set_cons_succ, i64_w, i32_w]
          rfl
         refine pure_ (i := 1) (N := some 44) (v := ?_) (a' := ?_) #[true, true, false, false, false, false, false, false, false, false, false, false, false, false, false, false, false, false, false, false, false] rfl rfl (any_of HT_.out (by kernel_rfl)) (fun _ _ _ h => h) (Or.inl ⟨by rfl, ?_⟩) ?_ ?_
         rotate_left
         ·intro w'
          go_simp
          with_reducible rfl
         rotate_left
         ·simp only [Act.put, List.setIfInBounds_toArray, List.set_cons_zero, List.set_cons_succ, i64_w, i32_w]
          rfl
         refine pure_ (i := 2) (N := some 45) (v := ?_) (a' := ?_) #[true, true, true, false, false, false, false, false, false, false, false, false, false, false, false, false, false, false, false, false, false] rfl rfl (any_of HT_.out (by kernel_rfl)) (fun _ _ _ h => h) (Or.inl ⟨by rfl, ?_⟩) ?_ ?_
         rotate_left
         ·intro w'
          go_simp
          with_reducible rfl
         rotate_left
         ·simp only [Act.put, List.setIfInBounds_toArray, List.set_cons_zero, List.set_cons_succ, i64_w, i32_w]
          rfl
         refine pure_ (i := 3) (N := some 46) (v := ?_) (a' := ?_) #[true, true, true, true, false, false, false, false, false, false, false, false, false, false, false, false, false, false, false, false, false] rfl rfl (any_of HT_.out (by kernel_rfl)) (fun _ _ _ h => h) (Or.inl ⟨by rfl, ?_⟩) ?_ ?_
         rotate_left
         ·intro w'
          go_simp
          with_reducible rfl
         rotate_left
         ·simp only [Act.put, List.setIfInBounds_toArray, List.set_cons_zero, List.set_cons_succ, i64_w, i32_w]
          rfl
         refine pure_ (i := 4) (N := some 47) (v := ?_) (a' := ?_) #[true, true, true, true, true, false, false, false, false, false, false, false, false, false, false, false, false, false, false, false, false] rfl rfl (any_of HT_.out (by kernel_rfl)) (fun _ _ _ h => h) (Or.inl ⟨by rfl, ?_⟩) ?_ ?_
         rotate_left
         ·intro w'
          go_simp
          with_reducible rfl
         rotate_left
         ·simp only [Act.put, List.setIfInBounds_toArray, List.set_cons_zero, List.set_cons_succ, i64_w, i32_w]
          rfl
         refine pure_ (i := 5) (N := some 48) (v := ?_) (a' := ?_) #[true, true, true, true, true, true, false, false, false, false, false, false, false, false, false, false, false, false, false, false, false] rfl rfl (any_of HT_.out (by kernel_rfl)) (fun _ _ _ h => h) (Or.inl ⟨by rfl, ?_⟩) ?_ ?_
         rotate_left
         ·intro w'
          go_simp
          with_reducible rfl
         rotate_left
         ·simp only [Act.put, List.setIfInBounds_toArray, List.set_cons_zero, List.set_cons_succ, i64_w, i32_w]
          rfl
         refine pure_ (i := 6) (N := some 49) (v := ?_) (a' := ?_) #[true, true, true, true, true, true, true, false, false, false, false, false, false, false, false, false, false, false, false, false, false] rfl rfl (any_of HT_.out (by kernel_rfl)) (fun _ _ _ h => h) (Or.inl ⟨by rfl, ?_⟩) ?_ ?_
         rotate_left
         ·intro w'
          go_simp
          with_reducible rfl
         rotate_left
         ·simp only [Act.put, List.setIfInBounds_toArray, List.set_cons_zero, List.set_cons_succ, i64_w, i32_w]
          rfl
         refine pure_ (i := 7) (N := some 50) (v := ?_) (a' := ?_) #[true, true, true, true, true, true, true, true, false, false, false, false, false, false, false, false, false, false, false, false, false] rfl rfl (any_of HT_.out (by kernel_rfl)) (fun _ _ _ h => h) (Or.inl ⟨by rfl, ?_⟩) ?_ ?_
         rotate_left
         ·intro w'
          go_simp
          with_reducible rfl
         rotate_left
         ·simp only [Act.put, List.setIfInBounds_toArray, List.set_cons_zero, List.set_cons_succ, i64_w, i32_w]
          rfl
         refine pure_ (i := 8) (N := some 51) (v := ?_) (a' := ?_) #[true, true, true, true, true, true, true, true, true, false, false, false, false, false, false, false, false, false, false, false, false] rfl rfl (any_of HT_.out (by kernel_rfl)) (fun _ _ _ h => h) (Or.inl ⟨by rfl, ?_⟩) ?_ ?_
         rotate_left
         ·intro w'
          go_simp
          with_reducible rfl
         rotate_left
         ·simp only [Act.put, List.setIfInBounds_toArray, List.set_cons_zero, List.set_cons_succ, i64_w, i32_w]
          rfl
         refine pure_ (i := 12) (N := some 55) (v := ?_) (a' := ?_) #[true, true, true, true, true, true, true, true, true, false, false, false, true, false, false, false, false, false, false, false, false] rfl rfl (any_of HT_.out (by kernel_rfl)) (fun _ _ _ h => h) (Or.inl ⟨by rfl, ?_⟩) ?_ ?_
         rotate_left
         ·intro w'
          go_simp
          with_reducible rfl
         rotate_left
         ·simp only [Act.put, List.setIfInBounds_toArray, List.set_cons_zero, List.set_cons_succ, i64_w, i32_w]
          rfl
         refine pure_ (i := 14) (N := some 57) (v := ?_) (a' := ?_) #[true, true, true, true, true, true, true, true, true, false, false, false, true, false, true, false, false, false, false, false, false] rfl rfl (any_of HT_.out (by kernel_rfl)) (fun _ _ _ h => h) (Or.inl ⟨by rfl, ?_⟩) ?_ ?_
         rotate_left
         ·intro w'
          go_simp
          with_reducible rfl
         rotate_left
         ·simp only [Act.put, List.setIfInBounds_toArray, List.set_cons_zero, List.set_cons_succ, i64_w, i32_w]
          rfl
         refine take_ (i := 9) (N := some 52) (v := ?_) (a' := ?_) #[true, true, true, true, true, true, true, true, true, true, false, false, true, false, true, false, false, false, false, false, false] rfl rfl (take_ofW HT_.out HW_.out (by kernel_rfl)) (fun _ _ _ h => h) (Or.inl ⟨by rfl, ?_⟩) hHeld ?_ ?_
         rotate_left
         ·rintro w' ⟨s0, s1, s2, s3, s4, s5, s6, s7, s8, s9⟩
          go_simp
          with_reducible rfl
         rotate_left
         ·simp only [Act.put, List.setIfInBounds_toArray, List.set_cons_zero, List.set_cons_succ, i64_w, i32_w]
          rfl
         refine take_ (i := 10) (N := some 53) (v := ?_) (a' := ?_) #[true, true, true, true, true, true, true, true, true, true, true, false, true, false, true, false, false, false, false, false, false] rfl rfl (take_ofW HT_.out HW_.out (by kernel_rfl)) (fun _ _ _ h => h) (Or.inl ⟨by rfl, ?_⟩) hHeld ?_ ?_
         rotate_left
         ·rintro w' ⟨s0, s1, s2, s3, s4, s5, s6, s7, s8, s9⟩
          go_simp
          with_reducible rfl
         rotate_left
         ·simp only [Act.put, List.setIfInBounds_toArray, List.set_cons_zero, List.set_cons_succ, i64_w, i32_w]
          rfl
         refine join_ (σ := Unit) 4 #[true, true, true, true, true, true, true, true, true, true, true, true, true, true, true, true, true, false, false, false, false] (fun s_ => [(54, .bool t554), (56, .string (strOfNums t543)), (58, .string (strOfNums t547)), (59, .bool ((strOfNums t543).toList == (strOfNums t547).toList))]) (fun s_ w' => (w'.cell? ⟨gb538, 0, none⟩ = some (.int .i64 a0_0) ∧ w'.cell? ⟨gb538, 1, none⟩ = some (.int .i64 a0_1) ∧ w'.cell? ⟨gb538, 2, none⟩ = some (.int .i64 a0_2) ∧ w'.cell? ⟨gb538, 3, none⟩ = some (.int .u64 a0_3) ∧ w'.cell? ⟨gb538, 4, none⟩ = some (.slice A0_4 l0_4.length c0_4) ∧ w'.cell? ⟨gb539, 0, none⟩ = some (.int .i64 a1_0) ∧ w'.cell? ⟨gb539, 1, none⟩ = some (.int .i64 a1_1) ∧ w'.cell? ⟨gb539, 2, none⟩ = some (.int .i64 a1_2) ∧ w'.cell? ⟨gb539, 3, none⟩ = some (.int .u64 a1_3) ∧ w'.cell? ⟨gb539, 4, none⟩ = some (.slice A1_4 l1_4.length c1_4)) ∧ (Kd.R (Kd.int .u8) 5 w' w.heap.size (fun k_ => some k_ ≠ (v548 : Value).ownBlock) v544 t543) ∧ (Kd.R (Kd.int .u8) 5 w' w.heap.size (fun k_ => some k_ ≠ (v544 : Value).ownBlock) v548 t547) ∧ (w'.heap[gb538]? = some (.cells #[.int .i64 a0_0, .int .i64 a0_1, .int .i64 a0_2, .int .u64 a0_3, .slice A0_4 l0_4.length c0_4] 33 (0, 0))) ∧ (w'.heap[gb539]? = some (.cells #[.int .i64 a1_0, .int .i64 a1_1, .int .i64 a1_2, .int .u64 a1_3, .slice A1_4 l1_4.length c1_4] 33 (0, 0))) ∧ (Below w.heap.size w w')) ?_ ?_
         rotate_left
         ·intro hJ11_13_15
          refine join_ (σ := Unit) 6 #[true, true, true, true, true, true, true, true, true, true, true, true, true, true, true, false, false, false, false, false, false] (fun s_ => [(54, .bool t554), (56, .string (strOfNums t543))]) (fun s_ w' => (w'.cell? ⟨gb538, 0, none⟩ = some (.int .i64 a0_0) ∧ w'.cell? ⟨gb538, 1, none⟩ = some (.int .i64 a0_1) ∧ w'.cell? ⟨gb538, 2, none⟩ = some (.int .i64 a0_2) ∧ w'.cell? ⟨gb538, 3, none⟩ = some (.int .u64 a0_3) ∧ w'.cell? ⟨gb538, 4, none⟩ = some (.slice A0_4 l0_4.length c0_4) ∧ w'.cell? ⟨gb539, 0, none⟩ = some (.int .i64 a1_0) ∧ w'.cell? ⟨gb539, 1, none⟩ = some (.int .i64 a1_1) ∧ w'.cell? ⟨gb539, 2, none⟩ = some (.int .i64 a1_2) ∧ w'.cell? ⟨gb539, 3, none⟩ = some (.int .u64 a1_3) ∧ w'.cell? ⟨gb539, 4, none⟩ = some (.slice A1_4 l1_4.length c1_4)) ∧ (Kd.R (Kd.int .u8) 5 w' w.heap.size (fun k_ => some k_ ≠ (v548 : Value).ownBlock) v544 t543) ∧ (Kd.R (Kd.int .u8) 5 w' w.heap.size (fun k_ => some k_ ≠ (v544 : Value).ownBlock) v548 t547) ∧ (w'.heap[gb538]? = some (.cells #[.int .i64 a0_0, .int .i64 a0_1, .int .i64 a0_2, .int .u64 a0_3, .slice A0_4 l0_4.length c0_4] 33 (0, 0))) ∧ (w'.heap[gb539]? = some (.cells #[.int .i64 a1_0, .int .i64 a1_1, .int .i64 a1_2, .int .u64 a1_3, .slice A1_4 l1_4.length c1_4] 33 (0, 0))) ∧ (Below w.heap.size w w')) ?_ ?_
          rotate_left
          ·intro hJ11_13
           refine join_ (σ := Unit) 6 #[true, true, true, true, true, true, true, true, true, true, true, true, true, false, true, true, false, false, false, false, false] (fun s_ => [(54, .bool t554), (58, .string (strOfNums t547))]) (fun s_ w' => (w'.cell? ⟨gb538, 0, none⟩ = some (.int .i64 a0_0) ∧ w'.cell? ⟨gb538, 1, none⟩ = some (.int .i64 a0_1) ∧ w'.cell? ⟨gb538, 2, none⟩ = some (.int .i64 a0_2) ∧ w'.cell? ⟨gb538, 3, none⟩ = some (.int .u64 a0_3) ∧ w'.cell? ⟨gb538, 4, none⟩ = some (.slice A0_4 l0_4.length c0_4) ∧ w'.cell? ⟨gb539, 0, none⟩ = some (.int .i64 a1_0) ∧ w'.cell? ⟨gb539, 1, none⟩ = some (.int .i64 a1_1) ∧ w'.cell? ⟨gb539, 2, none⟩ = some (.int .i64 a1_2) ∧ w'.cell? ⟨gb539, 3, none⟩ = some (.int .u64 a1_3) ∧ w'.cell? ⟨gb539, 4, none⟩ = some (.slice A1_4 l1_4.length c1_4)) ∧ (Kd.R (Kd.int .u8) 5 w' w.heap.size (fun k_ => some k_ ≠ (v548 : Value).ownBlock) v544 t543) ∧ (Kd.R (Kd.int .u8) 5 w' w.heap.size (fun k_ => some k_ ≠ (v544 : Value).ownBlock) v548 t547) ∧ (w'.heap[gb538]? = some (.cells #[.int .i64 a0_0, .int .i64 a0_1, .int .i64 a0_2, .int .u64 a0_3, .slice A0_4 l0_4.length c0_4] 33 (0, 0))) ∧ (w'.heap[gb539]? = some (.cells #[.int .i64 a1_0, .int .i64 a1_1, .int .i64 a1_2, .int .u64 a1_3, .slice A1_4 l1_4.length c1_4] 33 (0, 0))) ∧ (Below w.heap.size w w')) ?_ ?_
           rotate_left
           ·intro hJ11_15
            refine join_ (σ := Unit) 5 #[true, true, true, true, true, true, true, true, true, true, true, false, true, true, true, true, true, false, false, false, false] (fun s_ => [(56, .string (strOfNums t543)), (58, .string (strOfNums t547)), (59, .bool ((strOfNums t543).toList == (strOfNums t547).toList))]) (fun s_ w' => (w'.cell? ⟨gb538, 0, none⟩ = some (.int .i64 a0_0) ∧ w'.cell? ⟨gb538, 1, none⟩ = some (.int .i64 a0_1) ∧ w'.cell? ⟨gb538, 2, none⟩ = some (.int .i64 a0_2) ∧ w'.cell? ⟨gb538, 3, none⟩ = some (.int .u64 a0_3) ∧ w'.cell? ⟨gb538, 4, none⟩ = some (.slice A0_4 l0_4.length c0_4) ∧ w'.cell? ⟨gb539, 0, none⟩ = some (.int .i64 a1_0) ∧ w'.cell? ⟨gb539, 1, none⟩ = some (.int .i64 a1_1) ∧ w'.cell? ⟨gb539, 2, none⟩ = some (.int .i64 a1_2) ∧ w'.cell? ⟨gb539, 3, none⟩ = some (.int .u64 a1_3) ∧ w'.cell? ⟨gb539, 4, none⟩ = some (.slice A1_4 l1_4.length c1_4)) ∧ (Kd.R (Kd.int .u8) 5 w' w.heap.size (fun k_ => some k_ ≠ (v548 : Value).ownBlock) v544 t543) ∧ (Kd.R (Kd.int .u8) 5 w' w.heap.size (fun k_ => some k_ ≠ (v544 : Value).ownBlock) v548 t547) ∧ (w'.heap[gb538]? = some (.cells #[.int .i64 a0_0, .int .i64 a0_1, .int .i64 a0_2, .int .u64 a0_3, .slice A0_4 l0_4.length c0_4] 33 (0, 0))) ∧ (w'.heap[gb539]? = some (.cells #[.int .i64 a1_0, .int .i64 a1_1, .int .i64 a1_2, .int .u64 a1_3, .slice A1_4 l1_4.length c1_4] 33 (0, 0))) ∧ (Below w.heap.size w w')) ?_ ?_
            rotate_left
            ·intro hJ13_15
             refine join_ (σ := Unit) 7 #[true, true, true, true, true, true, true, true, true, true, true, true, true, false, true, false, false, false, false, false, false] (fun s_ => [(54, .bool t554)]) (fun s_ w' => (w'.cell? ⟨gb538, 0, none⟩ = some (.int .i64 a0_0) ∧ w'.cell? ⟨gb538, 1, none⟩ = some (.int .i64 a0_1) ∧ w'.cell? ⟨gb538, 2, none⟩ = some (.int .i64 a0_2) ∧ w'.cell? ⟨gb538, 3, none⟩ = some (.int .u64 a0_3) ∧ w'.cell? ⟨gb538, 4, none⟩ = some (.slice A0_4 l0_4.length c0_4) ∧ w'.cell? ⟨gb539, 0, none⟩ = some (.int .i64 a1_0) ∧ w'.cell? ⟨gb539, 1, none⟩ = some (.int .i64 a1_1) ∧ w'.cell? ⟨gb539, 2, none⟩ = some (.int .i64 a1_2) ∧ w'.cell? ⟨gb539, 3, none⟩ = some (.int .u64 a1_3) ∧ w'.cell? ⟨gb539, 4, none⟩ = some (.slice A1_4 l1_4.length c1_4)) ∧ (Kd.R (Kd.int .u8) 5 w' w.heap.size (fun k_ => some k_ ≠ (v548 : Value).ownBlock) v544 t543) ∧ (Kd.R (Kd.int .u8) 5 w' w.heap.size (fun k_ => some k_ ≠ (v544 : Value).ownBlock) v548 t547) ∧ (w'.heap[gb538]? = some (.cells #[.int .i64 a0_0, .int .i64 a0_1, .int .i64 a0_2, .int .u64 a0_3, .slice A0_4 l0_4.length c0_4] 33 (0, 0))) ∧ (w'.heap[gb539]? = some (.cells #[.int .i64 a1_0, .int .i64 a1_1, .int .i64 a1_2, .int .u64 a1_3, .slice A1_4 l1_4.length c1_4] 33 (0, 0))) ∧ (Below w.heap.size w w')) ?_ ?_
             rotate_left
             ·intro hJ11
              refine join_ (σ := Unit) 7 #[true, true, true, true, true, true, true, true, true, true, true, false, true, true, true, false, false, false, false, false, false] (fun s_ => [(56, .string (strOfNums t543))]) (fun s_ w' => (w'.cell? ⟨gb538, 0, none⟩ = some (.int .i64 a0_0) ∧ w'.cell? ⟨gb538, 1, none⟩ = some (.int .i64 a0_1) ∧ w'.cell? ⟨gb538, 2, none⟩ = some (.int .i64 a0_2) ∧ w'.cell? ⟨gb538, 3, none⟩ = some (.int .u64 a0_3) ∧ w'.cell? ⟨gb538, 4, none⟩ = some (.slice A0_4 l0_4.length c0_4) ∧ w'.cell? ⟨gb539, 0, none⟩ = some (.int .i64 a1_0) ∧ w'.cell? ⟨gb539, 1, none⟩ = some (.int .i64 a1_1) ∧ w'.cell? ⟨gb539, 2, none⟩ = some (.int .i64 a1_2) ∧ w'.cell? ⟨gb539, 3, none⟩ = some (.int .u64 a1_3) ∧ w'.cell? ⟨gb539, 4, none⟩ = some (.slice A1_4 l1_4.length c1_4)) ∧ (Kd.R (Kd.int .u8) 5 w' w.heap.size (fun k_ => some k_ ≠ (v548 : Value).ownBlock) v544 t543) ∧ (Kd.R (Kd.int .u8) 5 w' w.heap.size (fun k_ => some k_ ≠ (v544 : Value).ownBlock) v548 t547) ∧ (w'.heap[gb538]? = some (.cells #[.int .i64 a0_0, .int .i64 a0_1, .int .i64 a0_2, .int .u64 a0_3, .slice A0_4 l0_4.length c0_4] 33 (0, 0))) ∧ (w'.heap[gb539]? = some (.cells #[.int .i64 a1_0, .int .i64 a1_1, .int .i64 a1_2, .int .u64 a1_3, .slice A1_4 l1_4.length c1_4] 33 (0, 0))) ∧ (Below w.heap.size w w')) ?_ ?_
              rotate_left
              ·intro hJ13
               refine join_ (σ := Unit) 7 #[true, true, true, true, true, true, true, true, true, true, true, false, true, false, true, true, false, false, false, false, false] (fun s_ => [(58, .string (strOfNums t547))]) (fun s_ w' => (w'.cell? ⟨gb538, 0, none⟩ = some (.int .i64 a0_0) ∧ w'.cell? ⟨gb538, 1, none⟩ = some (.int .i64 a0_1) ∧ w'.cell? ⟨gb538, 2, none⟩ = some (.int .i64 a0_2) ∧ w'.cell? ⟨gb538, 3, none⟩ = some (.int .u64 a0_3) ∧ w'.cell? ⟨gb538, 4, none⟩ = some (.slice A0_4 l0_4.length c0_4) ∧ w'.cell? ⟨gb539, 0, none⟩ = some (.int .i64 a1_0) ∧ w'.cell? ⟨gb539, 1, none⟩ = some (.int .i64 a1_1) ∧ w'.cell? ⟨gb539, 2, none⟩ = some (.int .i64 a1_2) ∧ w'.cell? ⟨gb539, 3, none⟩ = some (.int .u64 a1_3) ∧ w'.cell? ⟨gb539, 4, none⟩ = some (.slice A1_4 l1_4.length c1_4)) ∧ (Kd.R (Kd.int .u8) 5 w' w.heap.size (fun k_ => some k_ ≠ (v548 : Value).ownBlock) v544 t543) ∧ (Kd.R (Kd.int .u8) 5 w' w.heap.size (fun k_ => some k_ ≠ (v544 : Value).ownBlock) v548 t547) ∧ (w'.heap[gb538]? = some (.cells #[.int .i64 a0_0, .int .i64 a0_1, .int .i64 a0_2, .int .u64 a0_3, .slice A0_4 l0_4.length c0_4] 33 (0, 0))) ∧ (w'.heap[gb539]? = some (.cells #[.int .i64 a1_0, .int .i64 a1_1, .int .i64 a1_2, .int .u64 a1_3, .slice A1_4 l1_4.length c1_4] 33 (0, 0))) ∧ (Below w.heap.size w w')) ?_ ?_
               rotate_left
               ·intro hJ15
                refine three_ (i := 11) (j := 13) (k := 15) (Ni := some 54) (Nj := some 56) (Nk := some 58) #[true, true, true, true, true, true, true, true, true, true, true, true, true, false, true, false, false, false, false, false, false] #[true, true, true, true, true, true, true, true, true, true, true, false, true, true, true, false, false, false, false, false, false] #[true, true, true, true, true, true, true, true, true, true, true, false, true, false, true, true, false, false, false, false, false] rfl rfl rfl rfl rfl rfl (three_of HT_.out (by kernel_rfl)) (by decide) (by decide) (by decide) (fun K hK => ?_) (fun K hK => ?_) (fun K hK => ?_)
                ·skip
                 refine goes_ Tryd.func27 (by kernel_rfl) rfl #[.agg #[.int .i64 a0_0, .int .i64 a0_1, .int .i64 a0_2, .int .u64 a0_3, .slice A0_4 l0_4.length c0_4], .agg #[.int .i64 a1_0, .int .i64 a1_1, .int .i64 a1_2, .int .u64 a1_3, .slice A1_4 l1_4.length c1_4]] (by rfl) rfl rfl am ?_
                 with_reducible refine (instr_Same.calls kj3 a0_0 a0_1 a0_2 a0_3 _ _ l0_4 a1_0 a1_1 a1_2 a1_3 _ _ l1_4 t554 _ ?side1 ?side2 ?side3 ?side4 A30.out).mono ?_
                 (case side1 => exact ca HR0_4 HB)
                 (case side2 => exact HC0_4.out)
                 (case side3 => exact ca HR1_4 HB)
                 (case side4 => exact HC1_4.out)
                 rintro e w41 ⟨rfl, hb⟩
                 refine ⟨_, rfl, ?_⟩
                 have n0_ := Aside0.mk (Kd.R_below (ra HO545) hb)
                 have n1_ := Aside0.mk (Kd.R_below (ra HO549) hb)
                 have n2_ := Aside0.mk (blk_below (bk BK538) hb)
                 have n3_ := Aside0.mk (blk_below (bk BK539) hb)
                 have n4_ := Aside0.mk (below_step blx hb)
                 clear HO545
                 clear HO549
                 clear BK538
                 clear BK539
                 clear HB
                 have HO545 := n0_
                 have HO549 := n1_
                 have BK538 := n2_
                 have BK539 := n3_
                 have HB := n4_
                 clear n0_ n1_ n2_ n3_ n4_
                 (try clear hb)
                 (try clear hb2)
                 (try clear hk)
                 (try clear hi)
                 refine hK.out _ _ ⟨(blk_cell BK538.out 0).trans rfl, (blk_cell BK538.out 1).trans rfl, (blk_cell BK538.out 2).trans rfl, (blk_cell BK538.out 3).trans rfl, (blk_cell BK538.out 4).trans rfl, (blk_cell BK539.out 0).trans rfl, (blk_cell BK539.out 1).trans rfl, (blk_cell BK539.out 2).trans rfl, (blk_cell BK539.out 3).trans rfl, (blk_cell BK539.out 4).trans rfl⟩ (fun hHeld => ?_)
                 clear hK K
                 refine norm_ (a' := ?_) ?_ ?_
                 rotate_left
                 ·show Act.put _ (some 54) _ = _
                  simp only [Act.put, List.setIfInBounds_toArray, List.set_cons_zero, List.set_cons_succ, i64_w, i32_w]
                  rfl
                 exact norm_ (by first | (simp only [putAll, Act.put, List.setIfInBounds_toArray, List.set_cons_zero, List.set_cons_succ]; done) | (simp only [putAll, Act.put, List.setIfInBounds_toArray, List.set_cons_zero, List.set_cons_succ]; rfl)) (hJ11 () _ ⟨hHeld, (by (with_reducible repeat (first | apply Kd.R_alloc | apply Kd.R_drewN | apply Kd.R_drew)); exact Kd.R_mono HO545.out (fun _ hk => hk.2)), (by (with_reducible repeat (first | apply Kd.R_alloc | apply Kd.R_drewN | apply Kd.R_drew)); exact Kd.R_mono HO549.out (fun _ hk => hk.2)), (bk BK538), (bk BK539), blx⟩)
                ·skip
                 have hcv41 := own_string (P := Tryd.prog) Tryd.underlying41 Tryd.underlying5 Tryd.underlying9 (Kd.own_of_R HO545.out)
                 refine value_ (w1 := ?_) (v := ?_) (by rfl) rfl ?_ ?_
                 rotate_left 2
                 ·go_simp
                  constructor
                  ·rfl
                  ·rfl
                 clear hcv41
                 refine hK.out _ _ ⟨(blk_cell BK538.out 0).trans rfl, (blk_cell BK538.out 1).trans rfl, (blk_cell BK538.out 2).trans rfl, (blk_cell BK538.out 3).trans rfl, (blk_cell BK538.out 4).trans rfl, (blk_cell BK539.out 0).trans rfl, (blk_cell BK539.out 1).trans rfl, (blk_cell BK539.out 2).trans rfl, (blk_cell BK539.out 3).trans rfl, (blk_cell BK539.out 4).trans rfl⟩ (fun hHeld => ?_)
                 clear hK K
                 refine norm_ (a' := ?_) ?_ ?_
                 rotate_left
                 ·show Act.put _ (some 56) _ = _
                  simp only [Act.put, List.setIfInBounds_toArray, List.set_cons_zero, List.set_cons_succ, i64_w, i32_w]
                  rfl
                 exact norm_ (by first | (simp only [putAll, Act.put, List.setIfInBounds_toArray, List.set_cons_zero, List.set_cons_succ]; done) | (simp only [putAll, Act.put, List.setIfInBounds_toArray, List.set_cons_zero, List.set_cons_succ]; rfl)) (hJ13 () _ ⟨hHeld, (by (with_reducible repeat (first | apply Kd.R_alloc | apply Kd.R_drewN | apply Kd.R_drew)); exact Kd.R_mono HO545.out (fun _ hk => hk.2)), (by (with_reducible repeat (first | apply Kd.R_alloc | apply Kd.R_drewN | apply Kd.R_drew)); exact Kd.R_mono HO549.out (fun _ hk => hk.2)), (bk BK538), (bk BK539), blx⟩)
                ·skip
                 have hcv41 := own_string (P := Tryd.prog) Tryd.underlying41 Tryd.underlying5 Tryd.underlying9 (Kd.own_of_R HO549.out)
                 refine value_ (w1 := ?_) (v := ?_) (by rfl) rfl ?_ ?_
                 rotate_left 2
                 ·go_simp
                  constructor
                  ·rfl
                  ·rfl
                 clear hcv41
                 refine hK.out _ _ ⟨(blk_cell BK538.out 0).trans rfl, (blk_cell BK538.out 1).trans rfl, (blk_cell BK538.out 2).trans rfl, (blk_cell BK538.out 3).trans rfl, (blk_cell BK538.out 4).trans rfl, (blk_cell BK539.out 0).trans rfl, (blk_cell BK539.out 1).trans rfl, (blk_cell BK539.out 2).trans rfl, (blk_cell BK539.out 3).trans rfl, (blk_cell BK539.out 4).trans rfl⟩ (fun hHeld => ?_)
                 clear hK K
                 refine norm_ (a' := ?_) ?_ ?_
                 rotate_left
                 ·show Act.put _ (some 58) _ = _
                  simp only [Act.put, List.setIfInBounds_toArray, List.set_cons_zero, List.set_cons_succ, i64_w, i32_w]
                  rfl
                 exact norm_ (by first | (simp only [putAll, Act.put, List.setIfInBounds_toArray, List.set_cons_zero, List.set_cons_succ]; done) | (simp only [putAll, Act.put, List.setIfInBounds_toArray, List.set_cons_zero, List.set_cons_succ]; rfl)) (hJ15 () _ ⟨hHeld, (by (with_reducible repeat (first | apply Kd.R_alloc | apply Kd.R_drewN | apply Kd.R_drew)); exact Kd.R_mono HO545.out (fun _ hk => hk.2)), (by (with_reducible repeat (first | apply Kd.R_alloc | apply Kd.R_drewN | apply Kd.R_drew)); exact Kd.R_mono HO549.out (fun _ hk => hk.2)), (bk BK538), (bk BK539), blx⟩)
               ·skip
                rintro _ w42 ⟨hS_, h0_, h1_, h2_, h3_, h4_⟩
                have n0_ : Aside0 (Kd.R (Kd.int .u8) 5 w42 w.heap.size (fun k_ => some k_ ≠ (v548 : Value).ownBlock) v544 t543) := ⟨h0_⟩
                have n1_ : Aside0 (Kd.R (Kd.int .u8) 5 w42 w.heap.size (fun k_ => some k_ ≠ (v544 : Value).ownBlock) v548 t547) := ⟨h1_⟩
                have n2_ : Aside0 (w42.heap[gb538]? = some (.cells #[.int .i64 a0_0, .int .i64 a0_1, .int .i64 a0_2, .int .u64 a0_3, .slice A0_4 l0_4.length c0_4] 33 (0, 0))) := ⟨h2_⟩
                have n3_ : Aside0 (w42.heap[gb539]? = some (.cells #[.int .i64 a1_0, .int .i64 a1_1, .int .i64 a1_2, .int .u64 a1_3, .slice A1_4 l1_4.length c1_4] 33 (0, 0))) := ⟨h3_⟩
                have n4_ : Aside0 (Below w.heap.size w w42) := ⟨h4_⟩
                clear HO545
                clear HO549
                clear BK538
                clear BK539
                clear HB
                clear h0_ h1_ h2_ h3_ h4_
                have HO545 := n0_
                have HO549 := n1_
                have BK538 := n2_
                have BK539 := n3_
                have HB := n4_
                clear n0_ n1_ n2_ n3_ n4_
                have hHeld : w42.cell? ⟨gb538, 0, none⟩ = some (.int .i64 a0_0) ∧ w42.cell? ⟨gb538, 1, none⟩ = some (.int .i64 a0_1) ∧ w42.cell? ⟨gb538, 2, none⟩ = some (.int .i64 a0_2) ∧ w42.cell? ⟨gb538, 3, none⟩ = some (.int .u64 a0_3) ∧ w42.cell? ⟨gb538, 4, none⟩ = some (.slice A0_4 l0_4.length c0_4) ∧ w42.cell? ⟨gb539, 0, none⟩ = some (.int .i64 a1_0) ∧ w42.cell? ⟨gb539, 1, none⟩ = some (.int .i64 a1_1) ∧ w42.cell? ⟨gb539, 2, none⟩ = some (.int .i64 a1_2) ∧ w42.cell? ⟨gb539, 3, none⟩ = some (.int .u64 a1_3) ∧ w42.cell? ⟨gb539, 4, none⟩ = some (.slice A1_4 l1_4.length c1_4) := hS_
                refine norm_ (a' := ?_) ?_ ?_
                rotate_left
                ·simp only [putAll, Act.put, List.setIfInBounds_toArray, List.set_cons_zero, List.set_cons_succ]
                 rfl
                refine two_ (i := 11) (j := 13) (Ni := some 54) (Nj := some 56) #[true, true, true, true, true, true, true, true, true, true, true, true, true, false, true, true, false, false, false, false, false] #[true, true, true, true, true, true, true, true, true, true, true, false, true, true, true, true, false, false, false, false, false] rfl rfl rfl rfl (two_of HT_.out (by kernel_rfl)) (by decide) (by decide) (fun K hK => ?_) (fun K hK => ?_)
                ·skip
                 refine goes_ Tryd.func27 (by kernel_rfl) rfl #[.agg #[.int .i64 a0_0, .int .i64 a0_1, .int .i64 a0_2, .int .u64 a0_3, .slice A0_4 l0_4.length c0_4], .agg #[.int .i64 a1_0, .int .i64 a1_1, .int .i64 a1_2, .int .u64 a1_3, .slice A1_4 l1_4.length c1_4]] (by rfl) rfl rfl am ?_
                 with_reducible refine (instr_Same.calls kj3 a0_0 a0_1 a0_2 a0_3 _ _ l0_4 a1_0 a1_1 a1_2 a1_3 _ _ l1_4 t554 _ ?side1 ?side2 ?side3 ?side4 A30.out).mono ?_
                 (case side1 => exact ca HR0_4 HB)
                 (case side2 => exact HC0_4.out)
                 (case side3 => exact ca HR1_4 HB)
                 (case side4 => exact HC1_4.out)
                 rintro e w43 ⟨rfl, hb⟩
                 refine ⟨_, rfl, ?_⟩
                 have n0_ := Aside0.mk (Kd.R_below (ra HO545) hb)
                 have n1_ := Aside0.mk (Kd.R_below (ra HO549) hb)
                 have n2_ := Aside0.mk (blk_below (bk BK538) hb)
                 have n3_ := Aside0.mk (blk_below (bk BK539) hb)
                 have n4_ := Aside0.mk (below_step blx hb)
                 clear HO545
                 clear HO549
                 clear BK538
                 clear BK539
                 clear HB
                 have HO545 := n0_
                 have HO549 := n1_
                 have BK538 := n2_
                 have BK539 := n3_
                 have HB := n4_
                 clear n0_ n1_ n2_ n3_ n4_
                 (try clear hb)
                 (try clear hb2)
                 (try clear hk)
                 (try clear hi)
                 refine hK.out _ _ ⟨(blk_cell BK538.out 0).trans rfl, (blk_cell BK538.out 1).trans rfl, (blk_cell BK538.out 2).trans rfl, (blk_cell BK538.out 3).trans rfl, (blk_cell BK538.out 4).trans rfl, (blk_cell BK539.out 0).trans rfl, (blk_cell BK539.out 1).trans rfl, (blk_cell BK539.out 2).trans rfl, (blk_cell BK539.out 3).trans rfl, (blk_cell BK539.out 4).trans rfl⟩ (fun hHeld => ?_)
                 clear hK K
                 refine norm_ (a' := ?_) ?_ ?_
                 rotate_left
                 ·show Act.put _ (some 54) _ = _
                  simp only [Act.put, List.setIfInBounds_toArray, List.set_cons_zero, List.set_cons_succ, i64_w, i32_w]
                  rfl
                 exact norm_ (by first | (simp only [putAll, Act.put, List.setIfInBounds_toArray, List.set_cons_zero, List.set_cons_succ]; done) | (simp only [putAll, Act.put, List.setIfInBounds_toArray, List.set_cons_zero, List.set_cons_succ]; rfl)) (hJ11_15 () _ ⟨hHeld, (ra HO545), (ra HO549), (bk BK538), (bk BK539), blx⟩)
                ·skip
                 have hcv43 := own_string (P := Tryd.prog) Tryd.underlying41 Tryd.underlying5 Tryd.underlying9 (Kd.own_of_R HO545.out)
                 refine value_ (w1 := ?_) (v := ?_) (by rfl) rfl ?_ ?_
                 rotate_left 2
                 ·go_simp
                  constructor
                  ·rfl
                  ·rfl
                 clear hcv43
                 refine hK.out _ _ ⟨(blk_cell BK538.out 0).trans rfl, (blk_cell BK538.out 1).trans rfl, (blk_cell BK538.out 2).trans rfl, (blk_cell BK538.out 3).trans rfl, (blk_cell BK538.out 4).trans rfl, (blk_cell BK539.out 0).trans rfl, (blk_cell BK539.out 1).trans rfl, (blk_cell BK539.out 2).trans rfl, (blk_cell BK539.out 3).trans rfl, (blk_cell BK539.out 4).trans rfl⟩ (fun hHeld => ?_)
                 clear hK K
                 refine norm_ (a' := ?_) ?_ ?_
                 rotate_left
                 ·show Act.put _ (some 56) _ = _
                  simp only [Act.put, List.setIfInBounds_toArray, List.set_cons_zero, List.set_cons_succ, i64_w, i32_w]
                  rfl
                 refine pure_ (i := 16) (N := some 59) (v := ?_) (a' := ?_) #[true, true, true, true, true, true, true, true, true, true, true, false, true, true, true, true, true, false, false, false, false] rfl rfl (any_of HT_.out (by kernel_rfl)) (fun _ _ _ h => h) (Or.inl ⟨by rfl, ?_⟩) ?_ ?_
                 rotate_left
                 ·intro w'
                  go_simp
                  with_reducible rfl
                 rotate_left
                 ·simp only [Act.put, List.setIfInBounds_toArray, List.set_cons_zero, List.set_cons_succ, i64_w, i32_w]
                  rfl
                 exact norm_ (by first | (simp only [putAll, Act.put, List.setIfInBounds_toArray, List.set_cons_zero, List.set_cons_succ]; done) | (simp only [putAll, Act.put, List.setIfInBounds_toArray, List.set_cons_zero, List.set_cons_succ]; rfl)) (hJ13_15 () _ ⟨hHeld, (ra HO545), (ra HO549), (bk BK538), (bk BK539), blx⟩)
              ·skip
               rintro _ w42 ⟨hS_, h0_, h1_, h2_, h3_, h4_⟩
               have n0_ : Aside0 (Kd.R (Kd.int .u8) 5 w42 w.heap.size (fun k_ => some k_ ≠ (v548 : Value).ownBlock) v544 t543) := ⟨h0_⟩
               have n1_ : Aside0 (Kd.R (Kd.int .u8) 5 w42 w.heap.size (fun k_ => some k_ ≠ (v544 : Value).ownBlock) v548 t547) := ⟨h1_⟩
               have n2_ : Aside0 (w42.heap[gb538]? = some (.cells #[.int .i64 a0_0, .int .i64 a0_1, .int .i64 a0_2, .int .u64 a0_3, .slice A0_4 l0_4.length c0_4] 33 (0, 0))) := ⟨h2_⟩
               have n3_ : Aside0 (w42.heap[gb539]? = some (.cells #[.int .i64 a1_0, .int .i64 a1_1, .int .i64 a1_2, .int .u64 a1_3, .slice A1_4 l1_4.length c1_4] 33 (0, 0))) := ⟨h3_⟩
               have n4_ : Aside0 (Below w.heap.size w w42) := ⟨h4_⟩
               clear HO545
               clear HO549
               clear BK538
               clear BK539
               clear HB
               clear h0_ h1_ h2_ h3_ h4_
               have HO545 := n0_
               have HO549 := n1_
               have BK538 := n2_
               have BK539 := n3_
               have HB := n4_
               clear n0_ n1_ n2_ n3_ n4_
               have hHeld : w42.cell? ⟨gb538, 0, none⟩ = some (.int .i64 a0_0) ∧ w42.cell? ⟨gb538, 1, none⟩ = some (.int .i64 a0_1) ∧ w42.cell? ⟨gb538, 2, none⟩ = some (.int .i64 a0_2) ∧ w42.cell? ⟨gb538, 3, none⟩ = some (.int .u64 a0_3) ∧ w42.cell? ⟨gb538, 4, none⟩ = some (.slice A0_4 l0_4.length c0_4) ∧ w42.cell? ⟨gb539, 0, none⟩ = some (.int .i64 a1_0) ∧ w42.cell? ⟨gb539, 1, none⟩ = some (.int .i64 a1_1) ∧ w42.cell? ⟨gb539, 2, none⟩ = some (.int .i64 a1_2) ∧ w42.cell? ⟨gb539, 3, none⟩ = some (.int .u64 a1_3) ∧ w42.cell? ⟨gb539, 4, none⟩ = some (.slice A1_4 l1_4.length c1_4) := hS_
               refine norm_ (a' := ?_) ?_ ?_
               rotate_left
               ·simp only [putAll, Act.put, List.setIfInBounds_toArray, List.set_cons_zero, List.set_cons_succ]
                rfl
               refine two_ (i := 11) (j := 15) (Ni := some 54) (Nj := some 58) #[true, true, true, true, true, true, true, true, true, true, true, true, true, true, true, false, false, false, false, false, false] #[true, true, true, true, true, true, true, true, true, true, true, false, true, true, true, true, false, false, false, false, false] rfl rfl rfl rfl (two_of HT_.out (by kernel_rfl)) (by decide) (by decide) (fun K hK => ?_) (fun K hK => ?_)
               ·skip
                refine goes_ Tryd.func27 (by kernel_rfl) rfl #[.agg #[.int .i64 a0_0, .int .i64 a0_1, .int .i64 a0_2, .int .u64 a0_3, .slice A0_4 l0_4.length c0_4], .agg #[.int .i64 a1_0, .int .i64 a1_1, .int .i64 a1_2, .int .u64 a1_3, .slice A1_4 l1_4.length c1_4]] (by rfl) rfl rfl am ?_
                with_reducible refine (instr_Same.calls kj3 a0_0 a0_1 a0_2 a0_3 _ _ l0_4 a1_0 a1_1 a1_2 a1_3 _ _ l1_4 t554 _ ?side1 ?side2 ?side3 ?side4 A30.out).mono ?_
                (case side1 => exact ca HR0_4 HB)
                (case side2 => exact HC0_4.out)
                (case side3 => exact ca HR1_4 HB)
                (case side4 => exact HC1_4.out)
                rintro e w43 ⟨rfl, hb⟩
                refine ⟨_, rfl, ?_⟩
                have n0_ := Aside0.mk (Kd.R_below (ra HO545) hb)
                have n1_ := Aside0.mk (Kd.R_below (ra HO549) hb)
                have n2_ := Aside0.mk (blk_below (bk BK538) hb)
                have n3_ := Aside0.mk (blk_below (bk BK539) hb)
                have n4_ := Aside0.mk (below_step blx hb)
                clear HO545
                clear HO549
                clear BK538
                clear BK539
                clear HB
                have HO545 := n0_
                have HO549 := n1_
                have BK538 := n2_
                have BK539 := n3_
                have HB := n4_
                clear n0_ n1_ n2_ n3_ n4_
                (try clear hb)
                (try clear hb2)
                (try clear hk)
                (try clear hi)
                refine hK.out _ _ ⟨(blk_cell BK538.out 0).trans rfl, (blk_cell BK538.out 1).trans rfl, (blk_cell BK538.out 2).trans rfl, (blk_cell BK538.out 3).trans rfl, (blk_cell BK538.out 4).trans rfl, (blk_cell BK539.out 0).trans rfl, (blk_cell BK539.out 1).trans rfl, (blk_cell BK539.out 2).trans rfl, (blk_cell BK539.out 3).trans rfl, (blk_cell BK539.out 4).trans rfl⟩ (fun hHeld => ?_)
                clear hK K
                refine norm_ (a' := ?_) ?_ ?_
                rotate_left
                ·show Act.put _ (some 54) _ = _
                 simp only [Act.put, List.setIfInBounds_toArray, List.set_cons_zero, List.set_cons_succ, i64_w, i32_w]
                 rfl
                exact norm_ (by first | (simp only [putAll, Act.put, List.setIfInBounds_toArray, List.set_cons_zero, List.set_cons_succ]; done) | (simp only [putAll, Act.put, List.setIfInBounds_toArray, List.set_cons_zero, List.set_cons_succ]; rfl)) (hJ11_13 () _ ⟨hHeld, (ra HO545), (ra HO549), (bk BK538), (bk BK539), blx⟩)
               ·skip
                have hcv43 := own_string (P := Tryd.prog) Tryd.underlying41 Tryd.underlying5 Tryd.underlying9 (Kd.own_of_R HO549.out)
                refine value_ (w1 := ?_) (v := ?_) (by rfl) rfl ?_ ?_
                rotate_left 2
                ·go_simp
                 constructor
                 ·rfl
                 ·rfl
                clear hcv43
                refine hK.out _ _ ⟨(blk_cell BK538.out 0).trans rfl, (blk_cell BK538.out 1).trans rfl, (blk_cell BK538.out 2).trans rfl, (blk_cell BK538.out 3).trans rfl, (blk_cell BK538.out 4).trans rfl, (blk_cell BK539.out 0).trans rfl, (blk_cell BK539.out 1).trans rfl, (blk_cell BK539.out 2).trans rfl, (blk_cell BK539.out 3).trans rfl, (blk_cell BK539.out 4).trans rfl⟩ (fun hHeld => ?_)
                clear hK K
                refine norm_ (a' := ?_) ?_ ?_
                rotate_left
                ·show Act.put _ (some 58) _ = _
                 simp only [Act.put, List.setIfInBounds_toArray, List.set_cons_zero, List.set_cons_succ, i64_w, i32_w]
                 rfl
                refine pure_ (i := 16) (N := some 59) (v := ?_) (a' := ?_) #[true, true, true, true, true, true, true, true, true, true, true, false, true, true, true, true, true, false, false, false, false] rfl rfl (any_of HT_.out (by kernel_rfl)) (fun _ _ _ h => h) (Or.inl ⟨by rfl, ?_⟩) ?_ ?_
                rotate_left
                ·intro w'
                 go_simp
                 with_reducible rfl
                rotate_left
                ·simp only [Act.put, List.setIfInBounds_toArray, List.set_cons_zero, List.set_cons_succ, i64_w, i32_w]
                 rfl
                exact norm_ (by first | (simp only [putAll, Act.put, List.setIfInBounds_toArray, List.set_cons_zero, List.set_cons_succ]; done) | (simp only [putAll, Act.put, List.setIfInBounds_toArray, List.set_cons_zero, List.set_cons_succ]; rfl)) (hJ13_15 () _ ⟨hHeld, (ra HO545), (ra HO549), (bk BK538), (bk BK539), blx⟩)
             ·skip
              rintro _ w42 ⟨hS_, h0_, h1_, h2_, h3_, h4_⟩
              have n0_ : Aside0 (Kd.R (Kd.int .u8) 5 w42 w.heap.size (fun k_ => some k_ ≠ (v548 : Value).ownBlock) v544 t543) := ⟨h0_⟩
              have n1_ : Aside0 (Kd.R (Kd.int .u8) 5 w42 w.heap.size (fun k_ => some k_ ≠ (v544 : Value).ownBlock) v548 t547) := ⟨h1_⟩
              have n2_ : Aside0 (w42.heap[gb538]? = some (.cells #[.int .i64 a0_0, .int .i64 a0_1, .int .i64 a0_2, .int .u64 a0_3, .slice A0_4 l0_4.length c0_4] 33 (0, 0))) := ⟨h2_⟩
              have n3_ : Aside0 (w42.heap[gb539]? = some (.cells #[.int .i64 a1_0, .int .i64 a1_1, .int .i64 a1_2, .int .u64 a1_3, .slice A1_4 l1_4.length c1_4] 33 (0, 0))) := ⟨h3_⟩
              have n4_ : Aside0 (Below w.heap.size w w42) := ⟨h4_⟩
              clear HO545
              clear HO549
              clear BK538
              clear BK539
              clear HB
              clear h0_ h1_ h2_ h3_ h4_
              have HO545 := n0_
              have HO549 := n1_
              have BK538 := n2_
              have BK539 := n3_
              have HB := n4_
              clear n0_ n1_ n2_ n3_ n4_
              have hHeld : w42.cell? ⟨gb538, 0, none⟩ = some (.int .i64 a0_0) ∧ w42.cell? ⟨gb538, 1, none⟩ = some (.int .i64 a0_1) ∧ w42.cell? ⟨gb538, 2, none⟩ = some (.int .i64 a0_2) ∧ w42.cell? ⟨gb538, 3, none⟩ = some (.int .u64 a0_3) ∧ w42.cell? ⟨gb538, 4, none⟩ = some (.slice A0_4 l0_4.length c0_4) ∧ w42.cell? ⟨gb539, 0, none⟩ = some (.int .i64 a1_0) ∧ w42.cell? ⟨gb539, 1, none⟩ = some (.int .i64 a1_1) ∧ w42.cell? ⟨gb539, 2, none⟩ = some (.int .i64 a1_2) ∧ w42.cell? ⟨gb539, 3, none⟩ = some (.int .u64 a1_3) ∧ w42.cell? ⟨gb539, 4, none⟩ = some (.slice A1_4 l1_4.length c1_4) := hS_
              refine norm_ (a' := ?_) ?_ ?_
              rotate_left
              ·simp only [putAll, Act.put, List.setIfInBounds_toArray, List.set_cons_zero, List.set_cons_succ]
               rfl
              refine two_ (i := 13) (j := 15) (Ni := some 56) (Nj := some 58) #[true, true, true, true, true, true, true, true, true, true, true, true, true, true, true, false, false, false, false, false, false] #[true, true, true, true, true, true, true, true, true, true, true, true, true, false, true, true, false, false, false, false, false] rfl rfl rfl rfl (two_of HT_.out (by kernel_rfl)) (by decide) (by decide) (fun K hK => ?_) (fun K hK => ?_)
              ·skip
               have hcv43 := own_string (P := Tryd.prog) Tryd.underlying41 Tryd.underlying5 Tryd.underlying9 (Kd.own_of_R HO545.out)
               refine value_ (w1 := ?_) (v := ?_) (by rfl) rfl ?_ ?_
               rotate_left 2
               ·go_simp
                constructor
                ·rfl
                ·rfl
               clear hcv43
               refine hK.out _ _ ⟨(blk_cell BK538.out 0).trans rfl, (blk_cell BK538.out 1).trans rfl, (blk_cell BK538.out 2).trans rfl, (blk_cell BK538.out 3).trans rfl, (blk_cell BK538.out 4).trans rfl, (blk_cell BK539.out 0).trans rfl, (blk_cell BK539.out 1).trans rfl, (blk_cell BK539.out 2).trans rfl, (blk_cell BK539.out 3).trans rfl, (blk_cell BK539.out 4).trans rfl⟩ (fun hHeld => ?_)
               clear hK K
               refine norm_ (a' := ?_) ?_ ?_
               rotate_left
               ·show Act.put _ (some 56) _ = _
                simp only [Act.put, List.setIfInBounds_toArray, List.set_cons_zero, List.set_cons_succ, i64_w, i32_w]
                rfl
               exact norm_ (by first | (simp only [putAll, Act.put, List.setIfInBounds_toArray, List.set_cons_zero, List.set_cons_succ]; done) | (simp only [putAll, Act.put, List.setIfInBounds_toArray, List.set_cons_zero, List.set_cons_succ]; rfl)) (hJ11_13 () _ ⟨hHeld, (ra HO545), (ra HO549), (bk BK538), (bk BK539), blx⟩)
              ·skip
               have hcv43 := own_string (P := Tryd.prog) Tryd.underlying41 Tryd.underlying5 Tryd.underlying9 (Kd.own_of_R HO549.out)
               refine value_ (w1 := ?_) (v := ?_) (by rfl) rfl ?_ ?_
               rotate_left 2
               ·go_simp
                constructor
                ·rfl
                ·rfl
               clear hcv43
               refine hK.out _ _ ⟨(blk_cell BK538.out 0).trans rfl, (blk_cell BK538.out 1).trans rfl, (blk_cell BK538.out 2).trans rfl, (blk_cell BK538.out 3).trans rfl, (blk_cell BK538.out 4).trans rfl, (blk_cell BK539.out 0).trans rfl, (blk_cell BK539.out 1).trans rfl, (blk_cell BK539.out 2).trans rfl, (blk_cell BK539.out 3).trans rfl, (blk_cell BK539.out 4).trans rfl⟩ (fun hHeld => ?_)
               clear hK K
               refine norm_ (a' := ?_) ?_ ?_
               rotate_left
               ·show Act.put _ (some 58) _ = _
                simp only [Act.put, List.setIfInBounds_toArray, List.set_cons_zero, List.set_cons_succ, i64_w, i32_w]
                rfl
               exact norm_ (by first | (simp only [putAll, Act.put, List.setIfInBounds_toArray, List.set_cons_zero, List.set_cons_succ]; done) | (simp only [putAll, Act.put, List.setIfInBounds_toArray, List.set_cons_zero, List.set_cons_succ]; rfl)) (hJ11_15 () _ ⟨hHeld, (ra HO545), (ra HO549), (bk BK538), (bk BK539), blx⟩)
            ·skip
             rintro _ w43 ⟨hS_, h0_, h1_, h2_, h3_, h4_⟩
             have n0_ : Aside0 (Kd.R (Kd.int .u8) 5 w43 w.heap.size (fun k_ => some k_ ≠ (v548 : Value).ownBlock) v544 t543) := ⟨h0_⟩
             have n1_ : Aside0 (Kd.R (Kd.int .u8) 5 w43 w.heap.size (fun k_ => some k_ ≠ (v544 : Value).ownBlock) v548 t547) := ⟨h1_⟩
             have n2_ : Aside0 (w43.heap[gb538]? = some (.cells #[.int .i64 a0_0, .int .i64 a0_1, .int .i64 a0_2, .int .u64 a0_3, .slice A0_4 l0_4.length c0_4] 33 (0, 0))) := ⟨h2_⟩
             have n3_ : Aside0 (w43.heap[gb539]? = some (.cells #[.int .i64 a1_0, .int .i64 a1_1, .int .i64 a1_2, .int .u64 a1_3, .slice A1_4 l1_4.length c1_4] 33 (0, 0))) := ⟨h3_⟩
             have n4_ : Aside0 (Below w.heap.size w w43) := ⟨h4_⟩
             clear HO545
             clear HO549
             clear BK538
             clear BK539
             clear HB
             clear h0_ h1_ h2_ h3_ h4_
             have HO545 := n0_
             have HO549 := n1_
             have BK538 := n2_
             have BK539 := n3_
             have HB := n4_
             clear n0_ n1_ n2_ n3_ n4_
             have hHeld : w43.cell? ⟨gb538, 0, none⟩ = some (.int .i64 a0_0) ∧ w43.cell? ⟨gb538, 1, none⟩ = some (.int .i64 a0_1) ∧ w43.cell? ⟨gb538, 2, none⟩ = some (.int .i64 a0_2) ∧ w43.cell? ⟨gb538, 3, none⟩ = some (.int .u64 a0_3) ∧ w43.cell? ⟨gb538, 4, none⟩ = some (.slice A0_4 l0_4.length c0_4) ∧ w43.cell? ⟨gb539, 0, none⟩ = some (.int .i64 a1_0) ∧ w43.cell? ⟨gb539, 1, none⟩ = some (.int .i64 a1_1) ∧ w43.cell? ⟨gb539, 2, none⟩ = some (.int .i64 a1_2) ∧ w43.cell? ⟨gb539, 3, none⟩ = some (.int .u64 a1_3) ∧ w43.cell? ⟨gb539, 4, none⟩ = some (.slice A1_4 l1_4.length c1_4) := hS_
             refine norm_ (a' := ?_) ?_ ?_
             rotate_left
             ·simp only [putAll, Act.put, List.setIfInBounds_toArray, List.set_cons_zero, List.set_cons_succ]
              rfl
             refine one_ (i := 11) (N := some 54) #[true, true, true, true, true, true, true, true, true, true, true, true, true, true, true, true, true, false, false, false, false] rfl rfl (one_of HT_.out (by kernel_rfl)) (by decide) (fun K hK => ?_)
             refine goes_ Tryd.func27 (by kernel_rfl) rfl #[.agg #[.int .i64 a0_0, .int .i64 a0_1, .int .i64 a0_2, .int .u64 a0_3, .slice A0_4 l0_4.length c0_4], .agg #[.int .i64 a1_0, .int .i64 a1_1, .int .i64 a1_2, .int .u64 a1_3, .slice A1_4 l1_4.length c1_4]] (by rfl) rfl rfl am ?_
             with_reducible refine (instr_Same.calls kj3 a0_0 a0_1 a0_2 a0_3 _ _ l0_4 a1_0 a1_1 a1_2 a1_3 _ _ l1_4 t554 _ ?side1 ?side2 ?side3 ?side4 A30.out).mono ?_
             (case side1 => exact ca HR0_4 HB)
             (case side2 => exact HC0_4.out)
             (case side3 => exact ca HR1_4 HB)
             (case side4 => exact HC1_4.out)
             rintro e w44 ⟨rfl, hb⟩
             refine ⟨_, rfl, ?_⟩
             have n0_ := Aside0.mk (Kd.R_below (ra HO545) hb)
             have n1_ := Aside0.mk (Kd.R_below (ra HO549) hb)
             have n2_ := Aside0.mk (blk_below (bk BK538) hb)
             have n3_ := Aside0.mk (blk_below (bk BK539) hb)
             have n4_ := Aside0.mk (below_step blx hb)
             clear HO545
             clear HO549
             clear BK538
             clear BK539
             clear HB
             have HO545 := n0_
             have HO549 := n1_
             have BK538 := n2_
             have BK539 := n3_
             have HB := n4_
             clear n0_ n1_ n2_ n3_ n4_
             (try clear hb)
             (try clear hb2)
             (try clear hk)
             (try clear hi)
             refine hK.out _ _ ⟨(blk_cell BK538.out 0).trans rfl, (blk_cell BK538.out 1).trans rfl, (blk_cell BK538.out 2).trans rfl, (blk_cell BK538.out 3).trans rfl, (blk_cell BK538.out 4).trans rfl, (blk_cell BK539.out 0).trans rfl, (blk_cell BK539.out 1).trans rfl, (blk_cell BK539.out 2).trans rfl, (blk_cell BK539.out 3).trans rfl, (blk_cell BK539.out 4).trans rfl⟩ (fun hHeld => ?_)
             clear hK K
             refine norm_ (a' := ?_) ?_ ?_
             rotate_left
             ·show Act.put _ (some 54) _ = _
              simp only [Act.put, List.setIfInBounds_toArray, List.set_cons_zero, List.set_cons_succ, i64_w, i32_w]
              rfl
             exact norm_ (by first | (simp only [putAll, Act.put, List.setIfInBounds_toArray, List.set_cons_zero, List.set_cons_succ]; done) | (simp only [putAll, Act.put, List.setIfInBounds_toArray, List.set_cons_zero, List.set_cons_succ]; rfl)) (hJ11_13_15 () _ ⟨hHeld, (ra HO545), (ra HO549), (bk BK538), (bk BK539), blx⟩)
           ·skip
            rintro _ w43 ⟨hS_, h0_, h1_, h2_, h3_, h4_⟩
            have n0_ : Aside0 (Kd.R (Kd.int .u8) 5 w43 w.heap.size (fun k_ => some k_ ≠ (v548 : Value).ownBlock) v544 t543) := ⟨h0_⟩
            have n1_ : Aside0 (Kd.R (Kd.int .u8) 5 w43 w.heap.size (fun k_ => some k_ ≠ (v544 : Value).ownBlock) v548 t547) := ⟨h1_⟩
            have n2_ : Aside0 (w43.heap[gb538]? = some (.cells #[.int .i64 a0_0, .int .i64 a0_1, .int .i64 a0_2, .int .u64 a0_3, .slice A0_4 l0_4.length c0_4] 33 (0, 0))) := ⟨h2_⟩
            have n3_ : Aside0 (w43.heap[gb539]? = some (.cells #[.int .i64 a1_0, .int .i64 a1_1, .int .i64 a1_2, .int .u64 a1_3, .slice A1_4 l1_4.length c1_4] 33 (0, 0))) := ⟨h3_⟩
            have n4_ : Aside0 (Below w.heap.size w w43) := ⟨h4_⟩
            clear HO545
            clear HO549
            clear BK538
            clear BK539
            clear HB
            clear h0_ h1_ h2_ h3_ h4_
            have HO545 := n0_
            have HO549 := n1_
            have BK538 := n2_
            have BK539 := n3_
            have HB := n4_
            clear n0_ n1_ n2_ n3_ n4_
            have hHeld : w43.cell? ⟨gb538, 0, none⟩ = some (.int .i64 a0_0) ∧ w43.cell? ⟨gb538, 1, none⟩ = some (.int .i64 a0_1) ∧ w43.cell? ⟨gb538, 2, none⟩ = some (.int .i64 a0_2) ∧ w43.cell? ⟨gb538, 3, none⟩ = some (.int .u64 a0_3) ∧ w43.cell? ⟨gb538, 4, none⟩ = some (.slice A0_4 l0_4.length c0_4) ∧ w43.cell? ⟨gb539, 0, none⟩ = some (.int .i64 a1_0) ∧ w43.cell? ⟨gb539, 1, none⟩ = some (.int .i64 a1_1) ∧ w43.cell? ⟨gb539, 2, none⟩ = some (.int .i64 a1_2) ∧ w43.cell? ⟨gb539, 3, none⟩ = some (.int .u64 a1_3) ∧ w43.cell? ⟨gb539, 4, none⟩ = some (.slice A1_4 l1_4.length c1_4) := hS_
            refine norm_ (a' := ?_) ?_ ?_
            rotate_left
            ·simp only [putAll, Act.put, List.setIfInBounds_toArray, List.set_cons_zero, List.set_cons_succ]
             rfl
            refine one_ (i := 13) (N := some 56) #[true, true, true, true, true, true, true, true, true, true, true, true, true, true, true, true, false, false, false, false, false] rfl rfl (one_of HT_.out (by kernel_rfl)) (by decide) (fun K hK => ?_)
            have hcv44 := own_string (P := Tryd.prog) Tryd.underlying41 Tryd.underlying5 Tryd.underlying9 (Kd.own_of_R HO545.out)
            refine value_ (w1 := ?_) (v := ?_) (by rfl) rfl ?_ ?_
            rotate_left 2
            ·go_simp
             constructor
             ·rfl
             ·rfl
            clear hcv44
            refine hK.out _ _ ⟨(blk_cell BK538.out 0).trans rfl, (blk_cell BK538.out 1).trans rfl, (blk_cell BK538.out 2).trans rfl, (blk_cell BK538.out 3).trans rfl, (blk_cell BK538.out 4).trans rfl, (blk_cell BK539.out 0).trans rfl, (blk_cell BK539.out 1).trans rfl, (blk_cell BK539.out 2).trans rfl, (blk_cell BK539.out 3).trans rfl, (blk_cell BK539.out 4).trans rfl⟩ (fun hHeld => ?_)
            clear hK K
            refine norm_ (a' := ?_) ?_ ?_
            rotate_left
            ·show Act.put _ (some 56) _ = _
             simp only [Act.put, List.setIfInBounds_toArray, List.set_cons_zero, List.set_cons_succ, i64_w, i32_w]
             rfl
            refine pure_ (i := 16) (N := some 59) (v := ?_) (a' := ?_) #[true, true, true, true, true, true, true, true, true, true, true, true, true, true, true, true, true, false, false, false, false] rfl rfl (any_of HT_.out (by kernel_rfl)) (fun _ _ _ h => h) (Or.inl ⟨by rfl, ?_⟩) ?_ ?_
            rotate_left
            ·intro w'
             go_simp
             with_reducible rfl
            rotate_left
            ·simp only [Act.put, List.setIfInBounds_toArray, List.set_cons_zero, List.set_cons_succ, i64_w, i32_w]
             rfl
            exact norm_ (by first | (simp only [putAll, Act.put, List.setIfInBounds_toArray, List.set_cons_zero, List.set_cons_succ]; done) | (simp only [putAll, Act.put, List.setIfInBounds_toArray, List.set_cons_zero, List.set_cons_succ]; rfl)) (hJ11_13_15 () _ ⟨hHeld, (ra HO545), (ra HO549), (bk BK538), (bk BK539), blx⟩)
          ·skip
           rintro _ w43 ⟨hS_, h0_, h1_, h2_, h3_, h4_⟩
           have n0_ : Aside0 (Kd.R (Kd.int .u8) 5 w43 w.heap.size (fun k_ => some k_ ≠ (v548 : Value).ownBlock) v544 t543) := ⟨h0_⟩
           have n1_ : Aside0 (Kd.R (Kd.int .u8) 5 w43 w.heap.size (fun k_ => some k_ ≠ (v544 : Value).ownBlock) v548 t547) := ⟨h1_⟩
           have n2_ : Aside0 (w43.heap[gb538]? = some (.cells #[.int .i64 a0_0, .int .i64 a0_1, .int .i64 a0_2, .int .u64 a0_3, .slice A0_4 l0_4.length c0_4] 33 (0, 0))) := ⟨h2_⟩
           have n3_ : Aside0 (w43.heap[gb539]? = some (.cells #[.int .i64 a1_0, .int .i64 a1_1, .int .i64 a1_2, .int .u64 a1_3, .slice A1_4 l1_4.length c1_4] 33 (0, 0))) := ⟨h3_⟩
           have n4_ : Aside0 (Below w.heap.size w w43) := ⟨h4_⟩
           clear HO545
           clear HO549
           clear BK538
           clear BK539
           clear HB
           clear h0_ h1_ h2_ h3_ h4_
           have HO545 := n0_
           have HO549 := n1_
           have BK538 := n2_
           have BK539 := n3_
           have HB := n4_
           clear n0_ n1_ n2_ n3_ n4_
           have hHeld : w43.cell? ⟨gb538, 0, none⟩ = some (.int .i64 a0_0) ∧ w43.cell? ⟨gb538, 1, none⟩ = some (.int .i64 a0_1) ∧ w43.cell? ⟨gb538, 2, none⟩ = some (.int .i64 a0_2) ∧ w43.cell? ⟨gb538, 3, none⟩ = some (.int .u64 a0_3) ∧ w43.cell? ⟨gb538, 4, none⟩ = some (.slice A0_4 l0_4.length c0_4) ∧ w43.cell? ⟨gb539, 0, none⟩ = some (.int .i64 a1_0) ∧ w43.cell? ⟨gb539, 1, none⟩ = some (.int .i64 a1_1) ∧ w43.cell? ⟨gb539, 2, none⟩ = some (.int .i64 a1_2) ∧ w43.cell? ⟨gb539, 3, none⟩ = some (.int .u64 a1_3) ∧ w43.cell? ⟨gb539, 4, none⟩ = some (.slice A1_4 l1_4.length c1_4) := hS_
           refine norm_ (a' := ?_) ?_ ?_
           rotate_left
           ·simp only [putAll, Act.put, List.setIfInBounds_toArray, List.set_cons_zero, List.set_cons_succ]
            rfl
           refine one_ (i := 15) (N := some 58) #[true, true, true, true, true, true, true, true, true, true, true, true, true, true, true, true, false, false, false, false, false] rfl rfl (one_of HT_.out (by kernel_rfl)) (by decide) (fun K hK => ?_)
           have hcv44 := own_string (P := Tryd.prog) Tryd.underlying41 Tryd.underlying5 Tryd.underlying9 (Kd.own_of_R HO549.out)
           refine value_ (w1 := ?_) (v := ?_) (by rfl) rfl ?_ ?_
           rotate_left 2
           ·go_simp
            constructor
            ·rfl
            ·rfl
           clear hcv44
           refine hK.out _ _ ⟨(blk_cell BK538.out 0).trans rfl, (blk_cell BK538.out 1).trans rfl, (blk_cell BK538.out 2).trans rfl, (blk_cell BK538.out 3).trans rfl, (blk_cell BK538.out 4).trans rfl, (blk_cell BK539.out 0).trans rfl, (blk_cell BK539.out 1).trans rfl, (blk_cell BK539.out 2).trans rfl, (blk_cell BK539.out 3).trans rfl, (blk_cell BK539.out 4).trans rfl⟩ (fun hHeld => ?_)
           clear hK K
           refine norm_ (a' := ?_) ?_ ?_
           rotate_left
           ·show Act.put _ (some 58) _ = _
            simp only [Act.put, List.setIfInBounds_toArray, List.set_cons_zero, List.set_cons_succ, i64_w, i32_w]
            rfl
           refine pure_ (i := 16) (N := some 59) (v := ?_) (a' := ?_) #[true, true, true, true, true, true, true, true, true, true, true, true, true, true, true, true, true, false, false, false, false] rfl rfl (any_of HT_.out (by kernel_rfl)) (fun _ _ _ h => h) (Or.inl ⟨by rfl, ?_⟩) ?_ ?_
           rotate_left
           ·intro w'
            go_simp
            with_reducible rfl
           rotate_left
           ·simp only [Act.put, List.setIfInBounds_toArray, List.set_cons_zero, List.set_cons_succ, i64_w, i32_w]
            rfl
           exact norm_ (by first | (simp only [putAll, Act.put, List.setIfInBounds_toArray, List.set_cons_zero, List.set_cons_succ]; done) | (simp only [putAll, Act.put, List.setIfInBounds_toArray, List.set_cons_zero, List.set_cons_succ]; rfl)) (hJ11_13_15 () _ ⟨hHeld, (ra HO545), (ra HO549), (bk BK538), (bk BK539), blx⟩)
         rintro _ w44 ⟨hS_, h0_, h1_, h2_, h3_, h4_⟩
         have n0_ : Aside0 (Kd.R (Kd.int .u8) 5 w44 w.heap.size (fun k_ => some k_ ≠ (v548 : Value).ownBlock) v544 t543) := ⟨h0_⟩
         have n1_ : Aside0 (Kd.R (Kd.int .u8) 5 w44 w.heap.size (fun k_ => some k_ ≠ (v544 : Value).ownBlock) v548 t547) := ⟨h1_⟩
         have n2_ : Aside0 (w44.heap[gb538]? = some (.cells #[.int .i64 a0_0, .int .i64 a0_1, .int .i64 a0_2, .int .u64 a0_3, .slice A0_4 l0_4.length c0_4] 33 (0, 0))) := ⟨h2_⟩
         have n3_ : Aside0 (w44.heap[gb539]? = some (.cells #[.int .i64 a1_0, .int .i64 a1_1, .int .i64 a1_2, .int .u64 a1_3, .slice A1_4 l1_4.length c1_4] 33 (0, 0))) := ⟨h3_⟩
         have n4_ : Aside0 (Below w.heap.size w w44) := ⟨h4_⟩
         clear HO545
         clear HO549
         clear BK538
         clear BK539
         clear HB
         clear h0_ h1_ h2_ h3_ h4_
         have HO545 := n0_
         have HO549 := n1_
         have BK538 := n2_
         have BK539 := n3_
         have HB := n4_
         clear n0_ n1_ n2_ n3_ n4_
         have hHeld : w44.cell? ⟨gb538, 0, none⟩ = some (.int .i64 a0_0) ∧ w44.cell? ⟨gb538, 1, none⟩ = some (.int .i64 a0_1) ∧ w44.cell? ⟨gb538, 2, none⟩ = some (.int .i64 a0_2) ∧ w44.cell? ⟨gb538, 3, none⟩ = some (.int .u64 a0_3) ∧ w44.cell? ⟨gb538, 4, none⟩ = some (.slice A0_4 l0_4.length c0_4) ∧ w44.cell? ⟨gb539, 0, none⟩ = some (.int .i64 a1_0) ∧ w44.cell? ⟨gb539, 1, none⟩ = some (.int .i64 a1_1) ∧ w44.cell? ⟨gb539, 2, none⟩ = some (.int .i64 a1_2) ∧ w44.cell? ⟨gb539, 3, none⟩ = some (.int .u64 a1_3) ∧ w44.cell? ⟨gb539, 4, none⟩ = some (.slice A1_4 l1_4.length c1_4) := hS_
         refine norm_ (a' := ?_) ?_ ?_
         rotate_left
         ·simp only [putAll, Act.put, List.setIfInBounds_toArray, List.set_cons_zero, List.set_cons_succ]
          rfl
         refine pure_ (i := 17) (N := some 60) (v := ?_) (a' := ?_) #[true, true, true, true, true, true, true, true, true, true, true, true, true, true, true, true, true, true, false, false, false] rfl rfl (any_of HT_.out (by kernel_rfl)) (fun _ _ _ h => h) (Or.inl ⟨by rfl, ?_⟩) ?_ ?_
         rotate_left
         ·intro w'
          go_simp
          with_reducible rfl
         rotate_left
         ·simp only [Act.put, List.setIfInBounds_toArray, List.set_cons_zero, List.set_cons_succ, i64_w, i32_w]
          rfl
         refine pure_ (i := 18) (N := some 61) (v := ?_) (a' := ?_) #[true, true, true, true, true, true, true, true, true, true, true, true, true, true, true, true, true, true, true, false, false] rfl rfl (any_of HT_.out (by kernel_rfl)) (fun _ _ _ h => h) (Or.inl ⟨by rfl, ?_⟩) ?_ ?_
         rotate_left
         ·intro w'
          go_simp
          with_reducible rfl
         rotate_left
         ·simp only [Act.put, List.setIfInBounds_toArray, List.set_cons_zero, List.set_cons_succ, i64_w, i32_w]
          rfl
         refine pure_ (i := 19) (N := some 62) (v := ?_) (a' := ?_) #[true, true, true, true, true, true, true, true, true, true, true, true, true, true, true, true, true, true, true, true, false] rfl rfl (any_of HT_.out (by kernel_rfl)) (fun _ _ _ h => h) (Or.inl ⟨by rfl, ?_⟩) ?_ ?_
         rotate_left
         ·intro w'
          go_simp
          with_reducible rfl
         rotate_left
         ·simp only [Act.put, List.setIfInBounds_toArray, List.set_cons_zero, List.set_cons_succ, i64_w, i32_w]
          rfl
         refine pure_ (i := 20) (N := some 4) (v := ?_) (a' := ?_) #[true, true, true, true, true, true, true, true, true, true, true, true, true, true, true, true, true, true, true, true, true] rfl rfl (any_of HT_.out (by kernel_rfl)) (fun _ _ _ h => h) (Or.inl ⟨by rfl, ?_⟩) ?_ ?_
         rotate_left
         ·intro w'
          go_simp
          with_reducible rfl
         rotate_left
         ·simp only [Act.put, List.setIfInBounds_toArray, List.set_cons_zero, List.set_cons_succ, i64_w, i32_w]
          rfl
         refine done_ (done_of HT_.out (by kernel_rfl)) ?_
         try go_wp2
         go_ret
         exact ⟨er, by repeat (first | (with_reducible first | exact HB.out | apply below_alloc | apply pw_below_drewN | apply below_drew1 | refine below_set ?_ GE538.out | refine below_set ?_ GE539.out) | exact HB.out)⟩
        ·rw [if_neg c29] at H
         have c29b0 : (t550 == 0) = false := beq_eq_false_iff_ne.mpr c29
         have c29b1 : (t550 != 0) = true := bne_iff_ne.mpr c29
         obtain rfl := Option.some.inj H
         have hnb45 := NB538_539.out
         have hnc45 := NB539_538.out
         obtain ⟨hcz46_0, hcz46_1, hcz46_2, hcz46_3, hcz46_4⟩ := cells5 BK538.out
         obtain ⟨hfz46_0, hfz46_1, hfz46_2, hfz46_3, hfz46_4⟩ := froz5 BK538.out
         try go_wp2_with (first | ((with_reducible refine gate_callee (f := 24) rfl ?_); refine goesL_ (some 22) rfl rfl Tryd.func24 (by kernel_rfl) rfl #[.slice none 0 0, .agg #[.int .i64 a0_0, .int .i64 a0_1, .int .i64 a0_2, .int .u64 a0_3, .slice A0_4 l0_4.length c0_4]] rfl am ?_; (refine (instr_Put.calls kj3 _ _ ([] : List Int) a0_0 a0_1 a0_2 a0_3 _ _ l0_4 t543 t546 _ ?side1 ?side2 ?side3 ?side4 ?side5 A20.out).mono ?_); (case side1 => exact Glob.below HG.out blx); (case side2 => exact Kd.C_nil _ _); (case side3 => exact Nat.le_refl _); (case side4 => exact ca HR0_4 HB); (case side5 => exact HC0_4.out); rintro e w47 ⟨v544, rfl, ho0, hb⟩; refine ⟨_, rfl, ?_⟩; have n0_ := Aside0.mk (Kd.R_lower ho0 (below_size blx)); have n1_ := Aside0.mk (blk_below (bk BK538) hb); have n2_ := Aside0.mk (blk_below (bk BK539) hb); have n3_ := Aside0.mk (below_step blx hb); clear BK538; clear BK539; clear HB; have HO545 := n0_; have BK538 := n1_; have BK539 := n2_; have HB := n3_; clear n0_ n1_ n2_ n3_; (try clear hb); (try clear hb2); (try clear hk); (try clear hi); (try clear ho0); obtain ⟨hcz48_0, hcz48_1, hcz48_2, hcz48_3, hcz48_4⟩ := cells5 BK539.out; obtain ⟨hfz48_0, hfz48_1, hfz48_2, hfz48_3, hfz48_4⟩ := froz5 BK539.out) | ((with_reducible refine gate_callee (f := 24) rfl ?_); refine goesL_ (some 27) rfl rfl Tryd.func24 (by kernel_rfl) rfl #[.slice none 0 0, .agg #[.int .i64 a1_0, .int .i64 a1_1, .int .i64 a1_2, .int .u64 a1_3, .slice A1_4 l1_4.length c1_4]] rfl am ?_; (refine (instr_Put.calls kj3 _ _ ([] : List Int) a1_0 a1_1 a1_2 a1_3 _ _ l1_4 t547 t550 _ ?side1 ?side2 ?side3 ?side4 ?side5 A21.out).mono ?_); (case side1 => exact Glob.below HG.out blx); (case side2 => exact Kd.C_nil _ _); (case side3 => exact Nat.le_refl _); (case side4 => exact ca HR1_4 HB); (case side5 => exact HC1_4.out); rintro e w49 ⟨v548, rfl, ho0, hb⟩; refine ⟨_, rfl, ?_⟩; have n0_ := Aside0.mk (Kd.R_elder' (ra HO545) (Kd.R_base ho0) hb); have n1_ := Aside0.mk (Kd.R_lower (Kd.R_new' ho0 (Kd.R_lt (ra HO545))) (below_size blx)); have n2_ := Aside0.mk (blk_below (bk BK538) hb); have n3_ := Aside0.mk (blk_below (bk BK539) hb); have n4_ := Aside0.mk (below_step blx hb); clear HO545; clear BK538; clear BK539; clear HB; have HO545 := n0_; have HO549 := n1_; have BK538 := n2_; have BK539 := n3_; have HB := n4_; clear n0_ n1_ n2_ n3_ n4_; (try clear hb); (try clear hb2); (try clear hk); (try clear hi); (try clear ho0)))
         have n0_ := Aside0.mk (Kd.R_drew HO545.out)
         have n1_ := Aside0.mk (Kd.R_drew HO549.out)
         have n2_ := Aside0.mk (blk_drew BK538.out)
         have n3_ := Aside0.mk (blk_drew BK539.out)
         have n4_ := Aside0.mk (below_drew1 HB.out)
         clear HO545
         clear HO549
         clear BK538
         clear BK539
         clear HB
         have HO545 := n0_
         have HO549 := n1_
         have BK538 := n2_
         have BK539 := n3_
         have HB := n4_
         clear n0_ n1_ n2_ n3_ n4_
         refine start_ (n := 13) (S := fun w' => w'.cell? ⟨gb538, 0, none⟩ = some (.int .i64 a0_0) ∧ w'.cell? ⟨gb538, 1, none⟩ = some (.int .i64 a0_1) ∧ w'.cell? ⟨gb538, 2, none⟩ = some (.int .i64 a0_2) ∧ w'.cell? ⟨gb538, 3, none⟩ = some (.int .u64 a0_3) ∧ w'.cell? ⟨gb538, 4, none⟩ = some (.slice A0_4 l0_4.length c0_4) ∧ w'.cell? ⟨gb539, 0, none⟩ = some (.int .i64 a1_0) ∧ w'.cell? ⟨gb539, 1, none⟩ = some (.int .i64 a1_1) ∧ w'.cell? ⟨gb539, 2, none⟩ = some (.int .i64 a1_2) ∧ w'.cell? ⟨gb539, 3, none⟩ = some (.int .u64 a1_3) ∧ w'.cell? ⟨gb539, 4, none⟩ = some (.slice A1_4 l1_4.length c1_4)) (ds := []) #[false, false, false, false, false, false, false, false, false, false, false, false, false] (by kernel_rfl) rfl rfl ⟨(blk_cell BK538.out 0).trans rfl, (blk_cell BK538.out 1).trans rfl, (blk_cell BK538.out 2).trans rfl, (blk_cell BK538.out 3).trans rfl, (blk_cell BK538.out 4).trans rfl, (blk_cell BK539.out 0).trans rfl, (blk_cell BK539.out 1).trans rfl, (blk_cell BK539.out 2).trans rfl, (blk_cell BK539.out 3).trans rfl, (blk_cell BK539.out 4).trans rfl⟩ (fun hHeld => ?_); refine with_tabW avocetlaw05_InstrSame.tab6 avocetlaw05_InstrSame.bits6 (fun HT_ HW_ => ?_)
         generalize w49.drew = w50 at HO545 HO549 BK538 BK539 HB hHeld ⊢
         refine take_ (i := 0) (N := some 30) (v := ?_) (a' := ?_) #[true, false, false, false, false, false, false, false, false, false, false, false, false] rfl rfl (take_ofW HT_.out HW_.out (by kernel_rfl)) (fun _ _ _ h => h) (Or.inl ⟨by rfl, ?_⟩) hHeld ?_ ?_
         rotate_left
         ·rintro w' ⟨s0, s1, s2, s3, s4, s5, s6, s7, s8, s9⟩
          go_simp
          with_reducible rfl
         rotate_left
         ·simp only [Act.put, List.setIfInBounds_toArray, List.set_cons_zero, List.set_cons_succ, i64_w, i32_w]
          rfl
         refine take_ (i := 1) (N := some 31) (v := ?_) (a' := ?_) #[true, true, false, false, false, false, false, false, false, false, false, false, false] rfl rfl (take_ofW HT_.out HW_.out (by kernel_rfl)) (fun _ _ _ h => h) (Or.inl ⟨by rfl, ?_⟩) hHeld ?_ ?_
         rotate_left
         ·rintro w' ⟨s0, s1, s2, s3, s4, s5, s6, s7, s8, s9⟩
          go_simp
          with_reducible rfl
         rotate_left
         ·simp only [Act.put, List.setIfInBounds_toArray, List.set_cons_zero, List.set_cons_succ, i64_w, i32_w]
          rfl
         refine one_ (i := 2) (N := some 32) #[true, true, true, false, false, false, false, false, false, false, false, false, false] rfl rfl (one_of HT_.out (by kernel_rfl)) (by decide) (fun K hK => ?_)
         refine goes_ Tryd.func27 (by kernel_rfl) rfl #[.agg #[.int .i64 a0_0, .int .i64 a0_1, .int .i64 a0_2, .int .u64 a0_3, .slice A0_4 l0_4.length c0_4], .agg #[.int .i64 a0_0, .int .i64 a0_1, .int .i64 a0_2, .int .u64 a0_3, .slice A0_4 l0_4.length c0_4]] (by rfl) rfl rfl am ?_
         with_reducible refine (instr_Same.calls kj3 a0_0 a0_1 a0_2 a0_3 _ _ l0_4 a0_0 a0_1 a0_2 a0_3 _ _ l0_4 true _ ?side1 ?side2 ?side3 ?side4 A22.out).mono ?_
         (case side1 => exact ca HR0_4 HB)
         (case side2 => exact HC0_4.out)
         (case side3 => exact ca HR0_4 HB)
         (case side4 => exact HC0_4.out)
         rintro e w51 ⟨rfl, hb⟩
         refine ⟨_, rfl, ?_⟩
         have n0_ := Aside0.mk (Kd.R_below (ra HO545) hb)
         have n1_ := Aside0.mk (Kd.R_below (ra HO549) hb)
         have n2_ := Aside0.mk (blk_below (bk BK538) hb)
         have n3_ := Aside0.mk (blk_below (bk BK539) hb)
         have n4_ := Aside0.mk (below_step blx hb)
         clear HO545
         clear HO549
         clear BK538
         clear BK539
         clear HB
         have HO545 := n0_
         have HO549 := n1_
         have BK538 := n2_
         have BK539 := n3_
         have HB := n4_
         clear n0_ n1_ n2_ n3_ n4_
         (try clear hb)
         (try clear hb2)
         (try clear hk)
         (try clear hi)
         refine hK.out _ _ ⟨(blk_cell BK538.out 0).trans rfl, (blk_cell BK538.out 1).trans rfl, (blk_cell BK538.out 2).trans rfl, (blk_cell BK538.out 3).trans rfl, (blk_cell BK538.out 4).trans rfl, (blk_cell BK539.out 0).trans rfl, (blk_cell BK539.out 1).trans rfl, (blk_cell BK539.out 2).trans rfl, (blk_cell BK539.out 3).trans rfl, (blk_cell BK539.out 4).trans rfl⟩ (fun hHeld => ?_)
         clear hK K
         refine norm_ (a' := ?_) ?_ ?_
         rotate_left
         ·show Act.put _ (some 32) _ = _
          simp only [Act.put, List.setIfInBounds_toArray, List.set_cons_zero, List.set_cons_succ, i64_w, i32_w]
          rfl
         refine pure_ (i := 3) (N := some 33) (v := ?_) (a' := ?_) #[true, true, true, true, false, false, false, false, false, false, false, false, false] rfl rfl (any_of HT_.out (by kernel_rfl)) (fun _ _ _ h => h) (Or.inl ⟨by rfl, ?_⟩) ?_ ?_
         rotate_left
         ·intro w'
          go_simp
          with_reducible rfl
         rotate_left
         ·simp only [Act.put, List.setIfInBounds_toArray, List.set_cons_zero, List.set_cons_succ, i64_w, i32_w]
          rfl
         refine pure_ (i := 4) (N := some 34) (v := ?_) (a' := ?_) #[true, true, true, true, true, false, false, false, false, false, false, false, false] rfl rfl (any_of HT_.out (by kernel_rfl)) (fun _ _ _ h => h) (Or.inl ⟨by rfl, ?_⟩) ?_ ?_
         rotate_left
         ·intro w'
          go_simp
          with_reducible rfl
         rotate_left
         ·simp only [Act.put, List.setIfInBounds_toArray, List.set_cons_zero, List.set_cons_succ, i64_w, i32_w]
          rfl
         refine take_ (i := 5) (N := some 35) (v := ?_) (a' := ?_) #[true, true, true, true, true, true, false, false, false, false, false, false, false] rfl rfl (take_ofW HT_.out HW_.out (by kernel_rfl)) (fun _ _ _ h => h) (Or.inl ⟨by rfl, ?_⟩) hHeld ?_ ?_
         rotate_left
         ·rintro w' ⟨s0, s1, s2, s3, s4, s5, s6, s7, s8, s9⟩
          go_simp
          with_reducible rfl
         rotate_left
         ·simp only [Act.put, List.setIfInBounds_toArray, List.set_cons_zero, List.set_cons_succ, i64_w, i32_w]
          rfl
         refine take_ (i := 6) (N := some 36) (v := ?_) (a' := ?_) #[true, true, true, true, true, true, true, false, false, false, false, false, false] rfl rfl (take_ofW HT_.out HW_.out (by kernel_rfl)) (fun _ _ _ h => h) (Or.inl ⟨by rfl, ?_⟩) hHeld ?_ ?_
         rotate_left
         ·rintro w' ⟨s0, s1, s2, s3, s4, s5, s6, s7, s8, s9⟩
          go_simp
          with_reducible rfl
         rotate_left
         ·simp only [Act.put, List.setIfInBounds_toArray, List.set_cons_zero, List.set_cons_succ, i64_w, i32_w]
          rfl
         refine take_ (i := 8) (N := some 38) (v := ?_) (a' := ?_) #[true, true, true, true, true, true, true, false, true, false, false, false, false] rfl rfl (take_ofW HT_.out HW_.out (by kernel_rfl)) (fun _ _ _ h => h) (Or.inl ⟨by rfl, ?_⟩) hHeld ?_ ?_
         rotate_left
         ·rintro w' ⟨s0, s1, s2, s3, s4, s5, s6, s7, s8, s9⟩
          go_simp
          with_reducible rfl
         rotate_left
         ·simp only [Act.put, List.setIfInBounds_toArray, List.set_cons_zero, List.set_cons_succ, i64_w, i32_w]
          rfl
         refine take_ (i := 9) (N := some 39) (v := ?_) (a' := ?_) #[true, true, true, true, true, true, true, false, true, true, false, false, false] rfl rfl (take_ofW HT_.out HW_.out (by kernel_rfl)) (fun _ _ _ h => h) (Or.inl ⟨by rfl, ?_⟩) hHeld ?_ ?_
         rotate_left
         ·rintro w' ⟨s0, s1, s2, s3, s4, s5, s6, s7, s8, s9⟩
          go_simp
          with_reducible rfl
         rotate_left
         ·simp only [Act.put, List.setIfInBounds_toArray, List.set_cons_zero, List.set_cons_succ, i64_w, i32_w]
          rfl
         refine one_ (i := 7) (N := some 37) #[true, true, true, true, true, true, true, true, true, true, false, false, false] rfl rfl (one_of HT_.out (by kernel_rfl)) (by decide) (fun K hK => ?_)
         refine goes_ Tryd.func27 (by kernel_rfl) rfl #[.agg #[.int .i64 a0_0, .int .i64 a0_1, .int .i64 a0_2, .int .u64 a0_3, .slice A0_4 l0_4.length c0_4], .agg #[.int .i64 a1_0, .int .i64 a1_1, .int .i64 a1_2, .int .u64 a1_3, .slice A1_4 l1_4.length c1_4]] (by rfl) rfl rfl am ?_
         with_reducible refine (instr_Same.calls kj3 a0_0 a0_1 a0_2 a0_3 _ _ l0_4 a1_0 a1_1 a1_2 a1_3 _ _ l1_4 t552 _ ?side1 ?side2 ?side3 ?side4 A24.out).mono ?_
         (case side1 => exact ca HR0_4 HB)
         (case side2 => exact HC0_4.out)
         (case side3 => exact ca HR1_4 HB)
         (case side4 => exact HC1_4.out)
         rintro e w52 ⟨rfl, hb⟩
         refine ⟨_, rfl, ?_⟩
         have n0_ := Aside0.mk (Kd.R_below (ra HO545) hb)
         have n1_ := Aside0.mk (Kd.R_below (ra HO549) hb)
         have n2_ := Aside0.mk (blk_below (bk BK538) hb)
         have n3_ := Aside0.mk (blk_below (bk BK539) hb)
         have n4_ := Aside0.mk (below_step blx hb)
         clear HO545
         clear HO549
         clear BK538
         clear BK539
         clear HB
         have HO545 := n0_
         have HO549 := n1_
         have BK538 := n2_
         have BK539 := n3_
         have HB := n4_
         clear n0_ n1_ n2_ n3_ n4_
         (try clear hb)
         (try clear hb2)
         (try clear hk)
         (try clear hi)
         refine hK.out _ _ ⟨(blk_cell BK538.out 0).trans rfl, (blk_cell BK538.out 1).trans rfl, (blk_cell BK538.out 2).trans rfl, (blk_cell BK538.out 3).trans rfl, (blk_cell BK538.out 4).trans rfl, (blk_cell BK539.out 0).trans rfl, (blk_cell BK539.out 1).trans rfl, (blk_cell BK539.out 2).trans rfl, (blk_cell BK539.out 3).trans rfl, (blk_cell BK539.out 4).trans rfl⟩ (fun hHeld => ?_)
         clear hK K
         refine norm_ (a' := ?_) ?_ ?_
         rotate_left
         ·show Act.put _ (some 37) _ = _
          simp only [Act.put, List.setIfInBounds_toArray, List.set_cons_zero, List.set_cons_succ, i64_w, i32_w]
          rfl
         refine one_ (i := 10) (N := some 40) #[true, true, true, true, true, true, true, true, true, true, true, false, false] rfl rfl (one_of HT_.out (by kernel_rfl)) (by decide) (fun K hK => ?_)
         refine goes_ Tryd.func27 (by kernel_rfl) rfl #[.agg #[.int .i64 a1_0, .int .i64 a1_1, .int .i64 a1_2, .int .u64 a1_3, .slice A1_4 l1_4.length c1_4], .agg #[.int .i64 a0_0, .int .i64 a0_1, .int .i64 a0_2, .int .u64 a0_3, .slice A0_4 l0_4.length c0_4]] (by rfl) rfl rfl am ?_
         with_reducible refine (instr_Same.calls kj3 a1_0 a1_1 a1_2 a1_3 _ _ l1_4 a0_0 a0_1 a0_2 a0_3 _ _ l0_4 t553 _ ?side1 ?side2 ?side3 ?side4 A25.out).mono ?_
         (case side1 => exact ca HR1_4 HB)
         (case side2 => exact HC1_4.out)
         (case side3 => exact ca HR0_4 HB)
         (case side4 => exact HC0_4.out)
         rintro e w53 ⟨rfl, hb⟩
         refine ⟨_, rfl, ?_⟩
         have n0_ := Aside0.mk (Kd.R_below (ra HO545) hb)
         have n1_ := Aside0.mk (Kd.R_below (ra HO549) hb)
         have n2_ := Aside0.mk (blk_below (bk BK538) hb)
         have n3_ := Aside0.mk (blk_below (bk BK539) hb)
         have n4_ := Aside0.mk (below_step blx hb)
         clear HO545
         clear HO549
         clear BK538
         clear BK539
         clear HB
         have HO545 := n0_
         have HO549 := n1_
         have BK538 := n2_
         have BK539 := n3_
         have HB := n4_
         clear n0_ n1_ n2_ n3_ n4_
         (try clear hb)
         (try clear hb2)
         (try clear hk)
         (try clear hi)
         refine hK.out _ _ ⟨(blk_cell BK538.out 0).trans rfl, (blk_cell BK538.out 1).trans rfl, (blk_cell BK538.out 2).trans rfl, (blk_cell BK538.out 3).trans rfl, (blk_cell BK538.out 4).trans rfl, (blk_cell BK539.out 0).trans rfl, (blk_cell BK539.out 1).trans rfl, (blk_cell BK539.out 2).trans rfl, (blk_cell BK539.out 3).trans rfl, (blk_cell BK539.out 4).trans rfl⟩ (fun hHeld => ?_)
         clear hK K
         refine norm_ (a' := ?_) ?_ ?_
         rotate_left
         ·show Act.put _ (some 40) _ = _
          simp only [Act.put, List.setIfInBounds_toArray, List.set_cons_zero, List.set_cons_succ, i64_w, i32_w]
          rfl
         refine pure_ (i := 11) (N := some 41) (v := ?_) (a' := ?_) #[true, true, true, true, true, true, true, true, true, true, true, true, false] rfl rfl (any_of HT_.out (by kernel_rfl)) (fun _ _ _ h => h) (Or.inl ⟨by rfl, ?_⟩) ?_ ?_
         rotate_left
         ·intro w'
          go_simp
          with_reducible rfl
         rotate_left
         ·simp only [Act.put, List.setIfInBounds_toArray, List.set_cons_zero, List.set_cons_succ, i64_w, i32_w]
          rfl
         refine pure_ (i := 12) (N := some 42) (v := ?_) (a' := ?_) #[true, true, true, true, true, true, true, true, true, true, true, true, true] rfl rfl (any_of HT_.out (by kernel_rfl)) (fun _ _ _ h => h) (Or.inl ⟨by rfl, ?_⟩) ?_ ?_
         rotate_left
         ·intro w'
          go_simp
          with_reducible rfl
         rotate_left
         ·simp only [Act.put, List.setIfInBounds_toArray, List.set_cons_zero, List.set_cons_succ, i64_w, i32_w]
          rfl
         refine done_ (done_of HT_.out (by kernel_rfl)) ?_
         try go_wp2
         have n0_ := Aside0.mk (Kd.R_drew HO545.out)
         have n1_ := Aside0.mk (Kd.R_drew HO549.out)
         have n2_ := Aside0.mk (blk_drew BK538.out)
         have n3_ := Aside0.mk (blk_drew BK539.out)
         have n4_ := Aside0.mk (below_drew1 HB.out)
         clear HO545
         clear HO549
         clear BK538
         clear BK539
         clear HB
         have HO545 := n0_
         have HO549 := n1_
         have BK538 := n2_
         have BK539 := n3_
         have HB := n4_
         clear n0_ n1_ n2_ n3_ n4_
         refine start_ (n := 21) (S := fun w' => True) (ds := []) #[false, false, false, false, false, false, false, false, false, false, false, false, false, false, false, false, false, false, false, false, false] (by kernel_rfl) rfl rfl trivial (fun hHeld => ?_); refine with_tabW avocetlaw05_InstrSame.tab8 avocetlaw05_InstrSame.bits8 (fun HT_ HW_ => ?_)
         generalize w53.drew = w54 at HO545 HO549 BK538 BK539 HB hHeld ⊢
         refine pure_ (i := 0) (N := some 43) (v := ?_) (a' := ?_) #[true, false, false, false, false, false, false, false, false, false, false, false, false, false, false, false, false, false, false, false, false] rfl rfl (any_of HT_.out (by kernel_rfl)) (fun _ _ _ h => h) (Or.inl ⟨by rfl, ?_⟩) ?_ ?_
         rotate_left
         ·intro w'
          go_simp
          with_reducible rfl
         rotate_left
         ·simp only [Act.put, List.setIfInBounds_toArray, List.set_cons_zero, List.set_cons_succ, i64_w, i32_w]
          rfl
         refine pure_ (i := 1) (N := some 44) (v := ?_) (a' := ?_) #[true, true, false, false, false, false, false, false, false, false, false, false, false, false, false, false, false, false, false, false, false] rfl rfl (any_of HT_.out (by kernel_rfl)) (fun _ _ _ h => h) (Or.inl ⟨by rfl, ?_⟩) ?_ ?_
         rotate_left
         ·intro w'
          go_simp
          with_reducible rfl
         rotate_left
         ·simp only [Act.put, List.setIfInBounds_toArray, List.set_cons_zero, List.set_cons_succ, i64_w, i32_w]
          rfl
         refine pure_ (i := 2) (N := some 45) (v := ?_) (a' := ?_) #[true, true, true, false, false, false, false, false, false, false, false, false, false, false, false, false, false, false, false, false, false] rfl rfl (any_of HT_.out (by kernel_rfl)) (fun _ _ _ h => h) (Or.inl ⟨by rfl, ?_⟩) ?_ ?_
         rotate_left
         ·intro w'
          go_simp
          with_reducible rfl
         rotate_left
         ·simp only [Act.put, List.setIfInBounds_toArray, List.set_cons_zero, List.set_cons_succ, i64_w, i32_w]
          rfl
         refine pure_ (i := 3) (N := some 46) (v := ?_) (a' := ?_) #[true, true, true, true, false, false, false, false, false, false, false, false, false, false, false, false, false, false, false, false, false] rfl rfl (any_of HT_.out (by kernel_rfl)) (fun _ _ _ h => h) (Or.inl ⟨by rfl, ?_⟩) ?_ ?_
         rotate_left
         ·intro w'
          go_simp
          with_reducible rfl
         rotate_left
         ·simp only [Act.put, List.setIfInBounds_toArray, List.set_cons_zero, List.set_cons_succ, i64_w, i32_w]
          rfl
         refine pure_ (i := 4) (N := some 47) (v := ?_) (a' := ?_) #[true, true, true, true, true, false, false, false, false, false, false, false, false, false, false, false, false, false, false, false, false] rfl rfl (any_of HT_.out (by kernel_rfl)) (fun _ _ _ h => h) (Or.inl ⟨by rfl, ?_⟩) ?_ ?_
         rotate_left
         ·intro w'
          go_simp
          with_reducible rfl
         rotate_left
         ·simp only [Act.put, List.setIfInBounds_toArray, List.set_cons_zero, List.set_cons_succ, i64_w, i32_w]
          rfl
         refine pure_ (i := 5) (N := some 48) (v := ?_) (a' := ?_) #[true, true, true, true, true, true, false, false, false, false, false, false, false, false, false, false, false, false, false, false, false] rfl rfl (any_of HT_.out (by kernel_rfl)) (fun _ _ _ h => h) (Or.inl ⟨by rfl, ?_⟩) ?_ ?_
         rotate_left
         ·intro w'
          go_simp
          with_reducible rfl
         rotate_left
         ·simp only [Act.put, List.setIfInBounds_toArray, List.set_cons_zero, List.set_cons_succ, i64_w, i32_w]
          rfl
         refine pure_ (i := 6) (N := some 49) (v := ?_) (a' := ?_) #[true, true, true, true, true, true, true, false, false, false, false, false, false, false, false, false, false, false, false, false, false] rfl rfl (any_of HT_.out (by kernel_rfl)) (fun _ _ _ h => h) (Or.inl ⟨by rfl, ?_⟩) ?_ ?_
         rotate_left
         ·intro w'
          go_simp
          with_reducible rfl
         rotate_left
         ·simp only [Act.put, List.setIfInBounds_toArray, List.set_cons_zero, List.set_cons_succ, i64_w, i32_w]
          rfl
         refine pure_ (i := 7) (N := some 50) (v := ?_) (a' := ?_) #[true, true, true, true, true, true, true, true, false, false, false, false, false, false, false, false, false, false, false, false, false] rfl rfl (any_of HT_.out (by kernel_rfl)) (fun _ _ _ h => h) (Or.inl ⟨by rfl, ?_⟩) ?_ ?_
         rotate_left
         ·intro w'
          go_simp
          with_reducible rfl
         rotate_left
         ·simp only [Act.put, List.setIfInBounds_toArray, List.set_cons_zero, List.set_cons_succ, i64_w, i32_w]
          rfl
         refine pure_ (i := 8) (N := some 51) (v := ?_) (a' := ?_) #[true, true, true, true, true, true, true, true, true, false, false, false, false, false, false, false, false, false, false, false, false] rfl rfl (any_of HT_.out (by kernel_rfl)) (fun _ _ _ h => h) (Or.inl ⟨by rfl, ?_⟩) ?_ ?_
         rotate_left
         ·intro w'
          go_simp
          with_reducible rfl
         rotate_left
         ·simp only [Act.put, List.setIfInBounds_toArray, List.set_cons_zero, List.set_cons_succ, i64_w, i32_w]
          rfl
         refine pure_ (i := 9) (N := some 52) (v := undef) (a' := ?_) #[true, true, true, true, true, true, true, true, true, true, false, false, false, false, false, false, false, false, false, false, false] rfl rfl (any_of HT_.out (by kernel_rfl)) (fun _ _ _ h => h) (Or.inr ⟨by rfl, rfl⟩) ?_ ?_
         rotate_left
         ·simp only [Act.put, List.setIfInBounds_toArray, List.set_cons_zero, List.set_cons_succ, i64_w, i32_w]
          rfl
         refine pure_ (i := 10) (N := some 53) (v := undef) (a' := ?_) #[true, true, true, true, true, true, true, true, true, true, true, false, false, false, false, false, false, false, false, false, false] rfl rfl (any_of HT_.out (by kernel_rfl)) (fun _ _ _ h => h) (Or.inr ⟨by rfl, rfl⟩) ?_ ?_
         rotate_left
         ·simp only [Act.put, List.setIfInBounds_toArray, List.set_cons_zero, List.set_cons_succ, i64_w, i32_w]
          rfl
         refine pure_ (i := 11) (N := some 54) (v := undef) (a' := ?_) #[true, true, true, true, true, true, true, true, true, true, true, true, false, false, false, false, false, false, false, false, false] rfl rfl (any_of HT_.out (by kernel_rfl)) (fun _ _ _ h => h) (Or.inr ⟨by rfl, rfl⟩) ?_ ?_
         rotate_left
         ·simp only [Act.put, List.setIfInBounds_toArray, List.set_cons_zero, List.set_cons_succ, i64_w, i32_w]
          rfl
         refine pure_ (i := 12) (N := some 55) (v := undef) (a' := ?_) #[true, true, true, true, true, true, true, true, true, true, true, true, true, false, false, false, false, false, false, false, false] rfl rfl (any_of HT_.out (by kernel_rfl)) (fun _ _ _ h => h) (Or.inr ⟨by rfl, rfl⟩) ?_ ?_
         rotate_left
         ·simp only [Act.put, List.setIfInBounds_toArray, List.set_cons_zero, List.set_cons_succ, i64_w, i32_w]
          rfl
         refine pure_ (i := 13) (N := some 56) (v := undef) (a' := ?_) #[true, true, true, true, true, true, true, true, true, true, true, true, true, true, false, false, false, false, false, false, false] rfl rfl (any_of HT_.out (by kernel_rfl)) (fun _ _ _ h => h) (Or.inr ⟨by rfl, rfl⟩) ?_ ?_
         rotate_left
         ·simp only [Act.put, List.setIfInBounds_toArray, List.set_cons_zero, List.set_cons_succ, i64_w, i32_w]
          rfl
         refine pure_ (i := 14) (N := some 57) (v := undef) (a' := ?_) #[true, true, true, true, true, true, true, true, true, true, true, true, true, true, true, false, false, false, false, false, false] rfl rfl (any_of HT_.out (by kernel_rfl)) (fun _ _ _ h => h) (Or.inr ⟨by rfl, rfl⟩) ?_ ?_
         rotate_left
         ·simp only [Act.put, List.setIfInBounds_toArray, List.set_cons_zero, List.set_cons_succ, i64_w, i32_w]
          rfl
         refine pure_ (i := 15) (N := some 58) (v := undef) (a' := ?_) #[true, true, true, true, true, true, true, true, true, true, true, true, true, true, true, true, false, false, false, false, false] rfl rfl (any_of HT_.out (by kernel_rfl)) (fun _ _ _ h => h) (Or.inr ⟨by rfl, rfl⟩) ?_ ?_
         rotate_left
         ·simp only [Act.put, List.setIfInBounds_toArray, List.set_cons_zero, List.set_cons_succ, i64_w, i32_w]
          rfl
         refine pure_ (i := 16) (N := some 59) (v := undef) (a' := ?_) #[true, true, true, true, true, true, true, true, true, true, true, true, true, true, true, true, true, false, false, false, false] rfl rfl (any_of HT_.out (by kernel_rfl)) (fun _ _ _ h => h) (Or.inr ⟨by rfl, rfl⟩) ?_ ?_
         rotate_left
         ·simp only [Act.put, List.setIfInBounds_toArray, List.set_cons_zero, List.set_cons_succ, i64_w, i32_w]
          rfl
         refine pure_ (i := 17) (N := some 60) (v := undef) (a' := ?_) #[true, true, true, true, true, true, true, true, true, true, true, true, true, true, true, true, true, true, false, false, false] rfl rfl (any_of HT_.out (by kernel_rfl)) (fun _ _ _ h => h) (Or.inr ⟨by rfl, rfl⟩) ?_ ?_
         rotate_left
         ·simp only [Act.put, List.setIfInBounds_toArray, List.set_cons_zero, List.set_cons_succ, i64_w, i32_w]
          rfl
         refine pure_ (i := 18) (N := some 61) (v := ?_) (a' := ?_) #[true, true, true, true, true, true, true, true, true, true, true, true, true, true, true, true, true, true, true, false, false] rfl rfl (any_of HT_.out (by kernel_rfl)) (fun _ _ _ h => h) (Or.inl ⟨by rfl, ?_⟩) ?_ ?_
         rotate_left
         ·intro w'
          go_simp
          with_reducible rfl
         rotate_left
         ·simp only [Act.put, List.setIfInBounds_toArray, List.set_cons_zero, List.set_cons_succ, i64_w, i32_w]
          rfl
         refine pure_ (i := 19) (N := some 62) (v := ?_) (a' := ?_) #[true, true, true, true, true, true, true, true, true, true, true, true, true, true, true, true, true, true, true, true, false] rfl rfl (any_of HT_.out (by kernel_rfl)) (fun _ _ _ h => h) (Or.inl ⟨by rfl, ?_⟩) ?_ ?_
         rotate_left
         ·intro w'
          go_simp
          with_reducible rfl
         rotate_left
         ·simp only [Act.put, List.setIfInBounds_toArray, List.set_cons_zero, List.set_cons_succ, i64_w, i32_w]
          rfl
         refine pure_ (i := 20) (N := some 4) (v := ?_) (a' := ?_) #[true, true, true, true, true, true, true, true, true, true, true, true, true, true, true, true, true, true, true, true, true] rfl rfl (any_of HT_.out (by kernel_rfl)) (fun _ _ _ h => h) (Or.inl ⟨by rfl, ?_⟩) ?_ ?_
         rotate_left
         ·intro w'
          go_simp
          with_reducible rfl
         rotate_left
         ·simp only [Act.put, List.setIfInBounds_toArray, List.set_cons_zero, List.set_cons_succ, i64_w, i32_w]
          rfl
         refine done_ (done_of HT_.out (by kernel_rfl)) ?_
         try go_wp2
         go_ret
         exact ⟨er, by repeat (first | (with_reducible first | exact HB.out | apply below_alloc | apply pw_below_drewN | apply below_drew1 | refine below_set ?_ GE538.out | refine below_set ?_ GE539.out) | exact HB.out)⟩
       ·rw [if_neg c28] at H
        have c28b0 : (t546 == 0) = false := beq_eq_false_iff_ne.mpr c28
        have c28b1 : (t546 != 0) = true := bne_iff_ne.mpr c28
        obtain rfl := Option.some.inj H
        have hnb55 := NB538_539.out
        have hnc55 := NB539_538.out
        obtain ⟨hcz56_0, hcz56_1, hcz56_2, hcz56_3, hcz56_4⟩ := cells5 BK538.out
        obtain ⟨hfz56_0, hfz56_1, hfz56_2, hfz56_3, hfz56_4⟩ := froz5 BK538.out
        try go_wp2_with (first | ((with_reducible refine gate_callee (f := 24) rfl ?_); refine goesL_ (some 22) rfl rfl Tryd.func24 (by kernel_rfl) rfl #[.slice none 0 0, .agg #[.int .i64 a0_0, .int .i64 a0_1, .int .i64 a0_2, .int .u64 a0_3, .slice A0_4 l0_4.length c0_4]] rfl am ?_; (refine (instr_Put.calls kj3 _ _ ([] : List Int) a0_0 a0_1 a0_2 a0_3 _ _ l0_4 t543 t546 _ ?side1 ?side2 ?side3 ?side4 ?side5 A20.out).mono ?_); (case side1 => exact Glob.below HG.out blx); (case side2 => exact Kd.C_nil _ _); (case side3 => exact Nat.le_refl _); (case side4 => exact ca HR0_4 HB); (case side5 => exact HC0_4.out); rintro e w57 ⟨v544, rfl, ho0, hb⟩; refine ⟨_, rfl, ?_⟩; have n0_ := Aside0.mk (Kd.R_lower ho0 (below_size blx)); have n1_ := Aside0.mk (blk_below (bk BK538) hb); have n2_ := Aside0.mk (blk_below (bk BK539) hb); have n3_ := Aside0.mk (below_step blx hb); clear BK538; clear BK539; clear HB; have HO545 := n0_; have BK538 := n1_; have BK539 := n2_; have HB := n3_; clear n0_ n1_ n2_ n3_; (try clear hb); (try clear hb2); (try clear hk); (try clear hi); (try clear ho0); obtain ⟨hcz58_0, hcz58_1, hcz58_2, hcz58_3, hcz58_4⟩ := cells5 BK539.out; obtain ⟨hfz58_0, hfz58_1, hfz58_2, hfz58_3, hfz58_4⟩ := froz5 BK539.out) | ((with_reducible refine gate_callee (f := 24) rfl ?_); refine goesL_ (some 27) rfl rfl Tryd.func24 (by kernel_rfl) rfl #[.slice none 0 0, .agg #[.int .i64 a1_0, .int .i64 a1_1, .int .i64 a1_2, .int .u64 a1_3, .slice A1_4 l1_4.length c1_4]] rfl am ?_; (refine (instr_Put.calls kj3 _ _ ([] : List Int) a1_0 a1_1 a1_2 a1_3 _ _ l1_4 t547 t550 _ ?side1 ?side2 ?side3 ?side4 ?side5 A21.out).mono ?_); (case side1 => exact Glob.below HG.out blx); (case side2 => exact Kd.C_nil _ _); (case side3 => exact Nat.le_refl _); (case side4 => exact ca HR1_4 HB); (case side5 => exact HC1_4.out); rintro e w59 ⟨v548, rfl, ho0, hb⟩; refine ⟨_, rfl, ?_⟩; have n0_ := Aside0.mk (Kd.R_elder' (ra HO545) (Kd.R_base ho0) hb); have n1_ := Aside0.mk (Kd.R_lower (Kd.R_new' ho0 (Kd.R_lt (ra HO545))) (below_size blx)); have n2_ := Aside0.mk (blk_below (bk BK538) hb); have n3_ := Aside0.mk (blk_below (bk BK539) hb); have n4_ := Aside0.mk (below_step blx hb); clear HO545; clear BK538; clear BK539; clear HB; have HO545 := n0_; have HO549 := n1_; have BK538 := n2_; have BK539 := n3_; have HB := n4_; clear n0_ n1_ n2_ n3_ n4_; (try clear hb); (try clear hb2); (try clear hk); (try clear hi); (try clear ho0)))
        have n0_ := Aside0.mk (Kd.R_drew HO545.out)
        have n1_ := Aside0.mk (Kd.R_drew HO549.out)
        have n2_ := Aside0.mk (blk_drew BK538.out)
        have n3_ := Aside0.mk (blk_drew BK539.out)
        have n4_ := Aside0.mk (below_drew1 HB.out)
        clear HO545
        clear HO549
        clear BK538
        clear BK539
        clear HB
        have HO545 := n0_
        have HO549 := n1_
        have BK538 := n2_
        have BK539 := n3_
        have HB := n4_
        clear n0_ n1_ n2_ n3_ n4_
        refine start_ (n := 13) (S := fun w' => w'.cell? ⟨gb538, 0, none⟩ = some (.int .i64 a0_0) ∧ w'.cell? ⟨gb538, 1, none⟩ = some (.int .i64 a0_1) ∧ w'.cell? ⟨gb538, 2, none⟩ = some (.int .i64 a0_2) ∧ w'.cell? ⟨gb538, 3, none⟩ = some (.int .u64 a0_3) ∧ w'.cell? ⟨gb538, 4, none⟩ = some (.slice A0_4 l0_4.length c0_4) ∧ w'.cell? ⟨gb539, 0, none⟩ = some (.int .i64 a1_0) ∧ w'.cell? ⟨gb539, 1, none⟩ = some (.int .i64 a1_1) ∧ w'.cell? ⟨gb539, 2, none⟩ = some (.int .i64 a1_2) ∧ w'.cell? ⟨gb539, 3, none⟩ = some (.int .u64 a1_3) ∧ w'.cell? ⟨gb539, 4, none⟩ = some (.slice A1_4 l1_4.length c1_4)) (ds := []) #[false, false, false, false, false, false, false, false, false, false, false, false, false] (by kernel_rfl) rfl rfl ⟨(blk_cell BK538.out 0).trans rfl, (blk_cell BK538.out 1).trans rfl, (blk_cell BK538.out 2).trans rfl, (blk_cell BK538.out 3).trans rfl, (blk_cell BK538.out 4).trans rfl, (blk_cell BK539.out 0).trans rfl, (blk_cell BK539.out 1).trans rfl, (blk_cell BK539.out 2).trans rfl, (blk_cell BK539.out 3).trans rfl, (blk_cell BK539.out 4).trans rfl⟩ (fun hHeld => ?_); refine with_tabW avocetlaw05_InstrSame.tab6 avocetlaw05_InstrSame.bits6 (fun HT_ HW_ => ?_)
        generalize w59.drew = w60 at HO545 HO549 BK538 BK539 HB hHeld ⊢
        refine take_ (i := 0) (N := some 30) (v := ?_) (a' := ?_) #[true, false, false, false, false, false, false, false, false, false, false, false, false] rfl rfl (take_ofW HT_.out HW_.out (by kernel_rfl)) (fun _ _ _ h => h) (Or.inl ⟨by rfl, ?_⟩) hHeld ?_ ?_
        rotate_left
        ·rintro w' ⟨s0, s1, s2, s3, s4, s5, s6, s7, s8, s9⟩
         go_simp
         with_reducible rfl
        rotate_left
        ·simp only [Act.put, List.setIfInBounds_toArray, List.set_cons_zero, List.set_cons_succ, i64_w, i32_w]
         rfl
        refine take_ (i := 1) (N := some 31) (v := ?_) (a' := ?_) #[true, true, false, false, false, false, false, false, false, false, false, false, false] rfl rfl (take_ofW HT_.out HW_.out (by kernel_rfl)) (fun _ _ _ h => h) (Or.inl ⟨by rfl, ?_⟩) hHeld ?_ ?_
        rotate_left
        ·rintro w' ⟨s0, s1, s2, s3, s4, s5, s6, s7, s8, s9⟩
         go_simp
         with_reducible rfl
        rotate_left
        ·simp only [Act.put, List.setIfInBounds_toArray, List.set_cons_zero, List.set_cons_succ, i64_w, i32_w]
         rfl
        refine one_ (i := 2) (N := some 32) #[true, true, true, false, false, false, false, false, false, false, false, false, false] rfl rfl (one_of HT_.out (by kernel_rfl)) (by decide) (fun K hK => ?_)
        refine goes_ Tryd.func27 (by kernel_rfl) rfl #[.agg #[.int .i64 a0_0, .int .i64 a0_1, .int .i64 a0_2, .int .u64 a0_3, .slice A0_4 l0_4.length c0_4], .agg #[.int .i64 a0_0, .int .i64 a0_1, .int .i64 a0_2, .int .u64 a0_3, .slice A0_4 l0_4.length c0_4]] (by rfl) rfl rfl am ?_
        with_reducible refine (instr_Same.calls kj3 a0_0 a0_1 a0_2 a0_3 _ _ l0_4 a0_0 a0_1 a0_2 a0_3 _ _ l0_4 true _ ?side1 ?side2 ?side3 ?side4 A22.out).mono ?_
        (case side1 => exact ca HR0_4 HB)
        (case side2 => exact HC0_4.out)
        (case side3 => exact ca HR0_4 HB)
        (case side4 => exact HC0_4.out)
        rintro e w61 ⟨rfl, hb⟩
        refine ⟨_, rfl, ?_⟩
        have n0_ := Aside0.mk (Kd.R_below (ra HO545) hb)
        have n1_ := Aside0.mk (Kd.R_below (ra HO549) hb)
        have n2_ := Aside0.mk (blk_below (bk BK538) hb)
        have n3_ := Aside0.mk (blk_below (bk BK539) hb)
        have n4_ := Aside0.mk (below_step blx hb)
        clear HO545
        clear HO549
        clear BK538
        clear BK539
        clear HB
        have HO545 := n0_
        have HO549 := n1_
        have BK538 := n2_
        have BK539 := n3_
        have HB := n4_
        clear n0_ n1_ n2_ n3_ n4_
        (try clear hb)
        (try clear hb2)
        (try clear hk)
        (try clear hi)
        refine hK.out _ _ ⟨(blk_cell BK538.out 0).trans rfl, (blk_cell BK538.out 1).trans rfl, (blk_cell BK538.out 2).trans rfl, (blk_cell BK538.out 3).trans rfl, (blk_cell BK538.out 4).trans rfl, (blk_cell BK539.out 0).trans rfl, (blk_cell BK539.out 1).trans rfl, (blk_cell BK539.out 2).trans rfl, (blk_cell BK539.out 3).trans rfl, (blk_cell BK539.out 4).trans rfl⟩ (fun hHeld => ?_)
        clear hK K
        refine norm_ (a' := ?_) ?_ ?_
        rotate_left
        ·show Act.put _ (some 32) _ = _
         simp only [Act.put, List.setIfInBounds_toArray, List.set_cons_zero, List.set_cons_succ, i64_w, i32_w]
         rfl
        refine pure_ (i := 3) (N := some 33) (v := ?_) (a' := ?_) #[true, true, true, true, false, false, false, false, false, false, false, false, false] rfl rfl (any_of HT_.out (by kernel_rfl)) (fun _ _ _ h => h) (Or.inl ⟨by rfl, ?_⟩) ?_ ?_
        rotate_left
        ·intro w'
         go_simp
         with_reducible rfl
        rotate_left
        ·simp only [Act.put, List.setIfInBounds_toArray, List.set_cons_zero, List.set_cons_succ, i64_w, i32_w]
         rfl
        refine pure_ (i := 4) (N := some 34) (v := ?_) (a' := ?_) #[true, true, true, true, true, false, false, false, false, false, false, false, false] rfl rfl (any_of HT_.out (by kernel_rfl)) (fun _ _ _ h => h) (Or.inl ⟨by rfl, ?_⟩) ?_ ?_
        rotate_left
        ·intro w'
         go_simp
         with_reducible rfl
        rotate_left
        ·simp only [Act.put, List.setIfInBounds_toArray, List.set_cons_zero, List.set_cons_succ, i64_w, i32_w]
         rfl
        refine take_ (i := 5) (N := some 35) (v := ?_) (a' := ?_) #[true, true, true, true, true, true, false, false, false, false, false, false, false] rfl rfl (take_ofW HT_.out HW_.out (by kernel_rfl)) (fun _ _ _ h => h) (Or.inl ⟨by rfl, ?_⟩) hHeld ?_ ?_
        rotate_left
        ·rintro w' ⟨s0, s1, s2, s3, s4, s5, s6, s7, s8, s9⟩
         go_simp
         with_reducible rfl
        rotate_left
        ·simp only [Act.put, List.setIfInBounds_toArray, List.set_cons_zero, List.set_cons_succ, i64_w, i32_w]
         rfl
        refine take_ (i := 6) (N := some 36) (v := ?_) (a' := ?_) #[true, true, true, true, true, true, true, false, false, false, false, false, false] rfl rfl (take_ofW HT_.out HW_.out (by kernel_rfl)) (fun _ _ _ h => h) (Or.inl ⟨by rfl, ?_⟩) hHeld ?_ ?_
        rotate_left
        ·rintro w' ⟨s0, s1, s2, s3, s4, s5, s6, s7, s8, s9⟩
         go_simp
         with_reducible rfl
        rotate_left
        ·simp only [Act.put, List.setIfInBounds_toArray, List.set_cons_zero, List.set_cons_succ, i64_w, i32_w]
         rfl
        refine take_ (i := 8) (N := some 38) (v := ?_) (a' := ?_) #[true, true, true, true, true, true, true, false, true, false, false, false, false] rfl rfl (take_ofW HT_.out HW_.out (by kernel_rfl)) (fun _ _ _ h => h) (Or.inl ⟨by rfl, ?_⟩) hHeld ?_ ?_
        rotate_left
        ·rintro w' ⟨s0, s1, s2, s3, s4, s5, s6, s7, s8, s9⟩
         go_simp
         with_reducible rfl
        rotate_left
        ·simp only [Act.put, List.setIfInBounds_toArray, List.set_cons_zero, List.set_cons_succ, i64_w, i32_w]
         rfl
        refine take_ (i := 9) (N := some 39) (v := ?_) (a' := ?_) #[true, true, true, true, true, true, true, false, true, true, false, false, false] rfl rfl (take_ofW HT_.out HW_.out (by kernel_rfl)) (fun _ _ _ h => h) (Or.inl ⟨by rfl, ?_⟩) hHeld ?_ ?_
        rotate_left
        ·rintro w' ⟨s0, s1, s2, s3, s4, s5, s6, s7, s8, s9⟩
         go_simp
         with_reducible rfl
        rotate_left
        ·simp only [Act.put, List.setIfInBounds_toArray, List.set_cons_zero, List.set_cons_succ, i64_w, i32_w]
         rfl
        refine one_ (i := 7) (N := some 37) #[true, true, true, true, true, true, true, true, true, true, false, false, false] rfl rfl (one_of HT_.out (by kernel_rfl)) (by decide) (fun K hK => ?_)
        refine goes_ Tryd.func27 (by kernel_rfl) rfl #[.agg #[.int .i64 a0_0, .int .i64 a0_1, .int .i64 a0_2, .int .u64 a0_3, .slice A0_4 l0_4.length c0_4], .agg #[.int .i64 a1_0, .int .i64 a1_1, .int .i64 a1_2, .int .u64 a1_3, .slice A1_4 l1_4.length c1_4]] (by rfl) rfl rfl am ?_
        with_reducible refine (instr_Same.calls kj3 a0_0 a0_1 a0_2 a0_3 _ _ l0_4 a1_0 a1_1 a1_2 a1_3 _ _ l1_4 t552 _ ?side1 ?side2 ?side3 ?side4 A24.out).mono ?_
        (case side1 => exact ca HR0_4 HB)
        (case side2 => exact HC0_4.out)
        (case side3 => exact ca HR1_4 HB)
        (case side4 => exact HC1_4.out)
        rintro e w62 ⟨rfl, hb⟩
        refine ⟨_, rfl, ?_⟩
        have n0_ := Aside0.mk (Kd.R_below (ra HO545) hb)
        have n1_ := Aside0.mk (Kd.R_below (ra HO549) hb)
        have n2_ := Aside0.mk (blk_below (bk BK538) hb)
        have n3_ := Aside0.mk (blk_below (bk BK539) hb)
        have n4_ := Aside0.mk (below_step blx hb)
        clear HO545
        clear HO549
        clear BK538
        clear BK539
        clear HB
        have HO545 := n0_
        have HO549 := n1_
        have BK538 := n2_
        have BK539 := n3_
        have HB := n4_
        clear n0_ n1_ n2_ n3_ n4_
        (try clear hb)
        (try clear hb2)
        (try clear hk)
        (try clear hi)
        refine hK.out _ _ ⟨(blk_cell BK538.out 0).trans rfl, (blk_cell BK538.out 1).trans rfl, (blk_cell BK538.out 2).trans rfl, (blk_cell BK538.out 3).trans rfl, (blk_cell BK538.out 4).trans rfl, (blk_cell BK539.out 0).trans rfl, (blk_cell BK539.out 1).trans rfl, (blk_cell BK539.out 2).trans rfl, (blk_cell BK539.out 3).trans rfl, (blk_cell BK539.out 4).trans rfl⟩ (fun hHeld => ?_)
        clear hK K
        refine norm_ (a' := ?_) ?_ ?_
        rotate_left
        ·show Act.put _ (some 37) _ = _
         simp only [Act.put, List.setIfInBounds_toArray, List.set_cons_zero, List.set_cons_succ, i64_w, i32_w]
         rfl
        refine one_ (i := 10) (N := some 40) #[true, true, true, true, true, true, true, true, true, true, true, false, false] rfl rfl (one_of HT_.out (by kernel_rfl)) (by decide) (fun K hK => ?_)
        refine goes_ Tryd.func27 (by kernel_rfl) rfl #[.agg #[.int .i64 a1_0, .int .i64 a1_1, .int .i64 a1_2, .int .u64 a1_3, .slice A1_4 l1_4.length c1_4], .agg #[.int .i64 a0_0, .int .i64 a0_1, .int .i64 a0_2, .int .u64 a0_3, .slice A0_4 l0_4.length c0_4]] (by rfl) rfl rfl am ?_
        with_reducible refine (instr_Same.calls kj3 a1_0 a1_1 a1_2 a1_3 _ _ l1_4 a0_0 a0_1 a0_2 a0_3 _ _ l0_4 t553 _ ?side1 ?side2 ?side3 ?side4 A25.out).mono ?_
        (case side1 => exact ca HR1_4 HB)
        (case side2 => exact HC1_4.out)
        (case side3 => exact ca HR0_4 HB)
        (case side4 => exact HC0_4.out)
        rintro e w63 ⟨rfl, hb⟩
        refine ⟨_, rfl, ?_⟩
        have n0_ := Aside0.mk (Kd.R_below (ra HO545) hb)
        have n1_ := Aside0.mk (Kd.R_below (ra HO549) hb)
        have n2_ := Aside0.mk (blk_below (bk BK538) hb)
        have n3_ := Aside0.mk (blk_below (bk BK539) hb)
        have n4_ := Aside0.mk (below_step blx hb)
        clear HO545
        clear HO549
        clear BK538
        clear BK539
        clear HB
        have HO545 := n0_
        have HO549 := n1_
        have BK538 := n2_
        have BK539 := n3_
        have HB := n4_
        clear n0_ n1_ n2_ n3_ n4_
        (try clear hb)
        (try clear hb2)
        (try clear hk)
        (try clear hi)
        refine hK.out _ _ ⟨(blk_cell BK538.out 0).trans rfl, (blk_cell BK538.out 1).trans rfl, (blk_cell BK538.out 2).trans rfl, (blk_cell BK538.out 3).trans rfl, (blk_cell BK538.out 4).trans rfl, (blk_cell BK539.out 0).trans rfl, (blk_cell BK539.out 1).trans rfl, (blk_cell BK539.out 2).trans rfl, (blk_cell BK539.out 3).trans rfl, (blk_cell BK539.out 4).trans rfl⟩ (fun hHeld => ?_)
        clear hK K
        refine norm_ (a' := ?_) ?_ ?_
        rotate_left
        ·show Act.put _ (some 40) _ = _
         simp only [Act.put, List.setIfInBounds_toArray, List.set_cons_zero, List.set_cons_succ, i64_w, i32_w]
         rfl
        refine pure_ (i := 11) (N := some 41) (v := ?_) (a' := ?_) #[true, true, true, true, true, true, true, true, true, true, true, true, false] rfl rfl (any_of HT_.out (by kernel_rfl)) (fun _ _ _ h => h) (Or.inl ⟨by rfl, ?_⟩) ?_ ?_
        rotate_left
        ·intro w'
         go_simp
         with_reducible rfl
        rotate_left
        ·simp only [Act.put, List.setIfInBounds_toArray, List.set_cons_zero, List.set_cons_succ, i64_w, i32_w]
         rfl
        refine pure_ (i := 12) (N := some 42) (v := ?_) (a' := ?_) #[true, true, true, true, true, true, true, true, true, true, true, true, true] rfl rfl (any_of HT_.out (by kernel_rfl)) (fun _ _ _ h => h) (Or.inl ⟨by rfl, ?_⟩) ?_ ?_
        rotate_left
        ·intro w'
         go_simp
         with_reducible rfl
        rotate_left
        ·simp only [Act.put, List.setIfInBounds_toArray, List.set_cons_zero, List.set_cons_succ, i64_w, i32_w]
         rfl
        refine done_ (done_of HT_.out (by kernel_rfl)) ?_
        try go_wp2
        have n0_ := Aside0.mk (Kd.R_drew HO545.out)
        have n1_ := Aside0.mk (Kd.R_drew HO549.out)
        have n2_ := Aside0.mk (blk_drew BK538.out)
        have n3_ := Aside0.mk (blk_drew BK539.out)
        have n4_ := Aside0.mk (below_drew1 HB.out)
        clear HO545
        clear HO549
        clear BK538
        clear BK539
        clear HB
        have HO545 := n0_
        have HO549 := n1_
        have BK538 := n2_
        have BK539 := n3_
        have HB := n4_
        clear n0_ n1_ n2_ n3_ n4_
        refine start_ (n := 21) (S := fun w' => True) (ds := []) #[false, false, false, false, false, false, false, false, false, false, false, false, false, false, false, false, false, false, false, false, false] (by kernel_rfl) rfl rfl trivial (fun hHeld => ?_); refine with_tabW avocetlaw05_InstrSame.tab8 avocetlaw05_InstrSame.bits8 (fun HT_ HW_ => ?_)
        generalize w63.drew = w64 at HO545 HO549 BK538 BK539 HB hHeld ⊢
        refine pure_ (i := 0) (N := some 43) (v := ?_) (a' := ?_) #[true, false, false, false, false, false, false, false, false, false, false, false, false, false, false, false, false, false, false, false, false] rfl rfl (any_of HT_.out (by kernel_rfl)) (fun _ _ _ h => h) (Or.inl ⟨by rfl, ?_⟩) ?_ ?_
        rotate_left
        ·intro w'
         go_simp
         with_reducible rfl
        rotate_left
        ·simp only [Act.put, List.setIfInBounds_toArray, List.set_cons_zero, List.set_cons_succ, i64_w, i32_w]
         rfl
        refine pure_ (i := 1) (N := some 44) (v := ?_) (a' := ?_) #[true, true, false, false, false, false, false, false, false, false, false, false, false, false, false, false, false, false, false, false, false] rfl rfl (any_of HT_.out (by kernel_rfl)) (fun _ _ _ h => h) (Or.inl ⟨by rfl, ?_⟩) ?_ ?_
        rotate_left
        ·intro w'
         go_simp
         with_reducible rfl
        rotate_left
        ·simp only [Act.put, List.setIfInBounds_toArray, List.set_cons_zero, List.set_cons_succ, i64_w, i32_w]
         rfl
        refine pure_ (i := 2) (N := some 45) (v := ?_) (a' := ?_) #[true, true, true, false, false, false, false, false, false, false, false, false, false, false, false, false, false, false, false, false, false] rfl rfl (any_of HT_.out (by kernel_rfl)) (fun _ _ _ h => h) (Or.inl ⟨by rfl, ?_⟩) ?_ ?_
        rotate_left
        ·intro w'
         go_simp
         with_reducible rfl
        rotate_left
        ·simp only [Act.put, List.setIfInBounds_toArray, List.set_cons_zero, List.set_cons_succ, i64_w, i32_w]
         rfl
        refine pure_ (i := 3) (N := some 46) (v := ?_) (a' := ?_) #[true, true, true, true, false, false, false, false, false, false, false, false, false, false, false, false, false, false, false, false, false] rfl rfl (any_of HT_.out (by kernel_rfl)) (fun _ _ _ h => h) (Or.inl ⟨by rfl, ?_⟩) ?_ ?_
        rotate_left
        ·intro w'
         go_simp
         with_reducible rfl
        rotate_left
        ·simp only [Act.put, List.setIfInBounds_toArray, List.set_cons_zero, List.set_cons_succ, i64_w, i32_w]
         rfl
        refine pure_ (i := 4) (N := some 47) (v := ?_) (a' := ?_) #[true, true, true, true, true, false, false, false, false, false, false, false, false, false, false, false, false, false, false, false, false] rfl rfl (any_of HT_.out (by kernel_rfl)) (fun _ _ _ h => h) (Or.inl ⟨by rfl, ?_⟩) ?_ ?_
        rotate_left
        ·intro w'
         go_simp
         with_reducible rfl
        rotate_left
        ·simp only [Act.put, List.setIfInBounds_toArray, List.set_cons_zero, List.set_cons_succ, i64_w, i32_w]
         rfl
        refine pure_ (i := 5) (N := some 48) (v := undef) (a' := ?_) #[true, true, true, true, true, true, false, false, false, false, false, false, false, false, false, false, false, false, false, false, false] rfl rfl (any_of HT_.out (by kernel_rfl)) (fun _ _ _ h => h) (Or.inr ⟨by rfl, rfl⟩) ?_ ?_
        rotate_left
        ·simp only [Act.put, List.setIfInBounds_toArray, List.set_cons_zero, List.set_cons_succ, i64_w, i32_w]
         rfl
        refine pure_ (i := 6) (N := some 49) (v := undef) (a' := ?_) #[true, true, true, true, true, true, true, false, false, false, false, false, false, false, false, false, false, false, false, false, false] rfl rfl (any_of HT_.out (by kernel_rfl)) (fun _ _ _ h => h) (Or.inr ⟨by rfl, rfl⟩) ?_ ?_
        rotate_left
        ·simp only [Act.put, List.setIfInBounds_toArray, List.set_cons_zero, List.set_cons_succ, i64_w, i32_w]
         rfl
        refine pure_ (i := 7) (N := some 50) (v := ?_) (a' := ?_) #[true, true, true, true, true, true, true, true, false, false, false, false, false, false, false, false, false, false, false, false, false] rfl rfl (any_of HT_.out (by kernel_rfl)) (fun _ _ _ h => h) (Or.inl ⟨by rfl, ?_⟩) ?_ ?_
        rotate_left
        ·intro w'
         go_simp
         with_reducible rfl
        rotate_left
        ·simp only [Act.put, List.setIfInBounds_toArray, List.set_cons_zero, List.set_cons_succ, i64_w, i32_w]
         rfl
        refine pure_ (i := 8) (N := some 51) (v := ?_) (a' := ?_) #[true, true, true, true, true, true, true, true, true, false, false, false, false, false, false, false, false, false, false, false, false] rfl rfl (any_of HT_.out (by kernel_rfl)) (fun _ _ _ h => h) (Or.inl ⟨by rfl, ?_⟩) ?_ ?_
        rotate_left
        ·intro w'
         go_simp
         with_reducible rfl
        rotate_left
        ·simp only [Act.put, List.setIfInBounds_toArray, List.set_cons_zero, List.set_cons_succ, i64_w, i32_w]
         rfl
        refine pure_ (i := 9) (N := some 52) (v := undef) (a' := ?_) #[true, true, true, true, true, true, true, true, true, true, false, false, false, false, false, false, false, false, false, false, false] rfl rfl (any_of HT_.out (by kernel_rfl)) (fun _ _ _ h => h) (Or.inr ⟨by rfl, rfl⟩) ?_ ?_
        rotate_left
        ·simp only [Act.put, List.setIfInBounds_toArray, List.set_cons_zero, List.set_cons_succ, i64_w, i32_w]
         rfl
        refine pure_ (i := 10) (N := some 53) (v := undef) (a' := ?_) #[true, true, true, true, true, true, true, true, true, true, true, false, false, false, false, false, false, false, false, false, false] rfl rfl (any_of HT_.out (by kernel_rfl)) (fun _ _ _ h => h) (Or.inr ⟨by rfl, rfl⟩) ?_ ?_
        rotate_left
        ·simp only [Act.put, List.setIfInBounds_toArray, List.set_cons_zero, List.set_cons_succ, i64_w, i32_w]
         rfl
        refine pure_ (i := 11) (N := some 54) (v := undef) (a' := ?_) #[true, true, true, true, true, true, true, true, true, true, true, true, false, false, false, false, false, false, false, false, false] rfl rfl (any_of HT_.out (by kernel_rfl)) (fun _ _ _ h => h) (Or.inr ⟨by rfl, rfl⟩) ?_ ?_
        rotate_left
        ·simp only [Act.put, List.setIfInBounds_toArray, List.set_cons_zero, List.set_cons_succ, i64_w, i32_w]
         rfl
        refine pure_ (i := 12) (N := some 55) (v := undef) (a' := ?_) #[true, true, true, true, true, true, true, true, true, true, true, true, true, false, false, false, false, false, false, false, false] rfl rfl (any_of HT_.out (by kernel_rfl)) (fun _ _ _ h => h) (Or.inr ⟨by rfl, rfl⟩) ?_ ?_
        rotate_left
        ·simp only [Act.put, List.setIfInBounds_toArray, List.set_cons_zero, List.set_cons_succ, i64_w, i32_w]
         rfl
        refine pure_ (i := 13) (N := some 56) (v := undef) (a' := ?_) #[true, true, true, true, true, true, true, true, true, true, true, true, true, true, false, false, false, false, false, false, false] rfl rfl (any_of HT_.out (by kernel_rfl)) (fun _ _ _ h => h) (Or.inr ⟨by rfl, rfl⟩) ?_ ?_
        rotate_left
        ·simp only [Act.put, List.setIfInBounds_toArray, List.set_cons_zero, List.set_cons_succ, i64_w, i32_w]
         rfl
        refine pure_ (i := 14) (N := some 57) (v := undef) (a' := ?_) #[true, true, true, true, true, true, true, true, true, true, true, true, true, true, true, false, false, false, false, false, false] rfl rfl (any_of HT_.out (by kernel_rfl)) (fun _ _ _ h => h) (Or.inr ⟨by rfl, rfl⟩) ?_ ?_
        rotate_left
        ·simp only [Act.put, List.setIfInBounds_toArray, List.set_cons_zero, List.set_cons_succ, i64_w, i32_w]
         rfl
        refine pure_ (i := 15) (N := some 58) (v := undef) (a' := ?_) #[true, true, true, true, true, true, true, true, true, true, true, true, true, true, true, true, false, false, false, false, false] rfl rfl (any_of HT_.out (by kernel_rfl)) (fun _ _ _ h => h) (Or.inr ⟨by rfl, rfl⟩) ?_ ?_
        rotate_left
        ·simp only [Act.put, List.setIfInBounds_toArray, List.set_cons_zero, List.set_cons_succ, i64_w, i32_w]
         rfl
        refine pure_ (i := 16) (N := some 59) (v := undef) (a' := ?_) #[true, true, true, true, true, true, true, true, true, true, true, true, true, true, true, true, true, false, false, false, false] rfl rfl (any_of HT_.out (by kernel_rfl)) (fun _ _ _ h => h) (Or.inr ⟨by rfl, rfl⟩) ?_ ?_
        rotate_left
        ·simp only [Act.put, List.setIfInBounds_toArray, List.set_cons_zero, List.set_cons_succ, i64_w, i32_w]
         rfl
        refine pure_ (i := 17) (N := some 60) (v := undef) (a' := ?_) #[true, true, true, true, true, true, true, true, true, true, true, true, true, true, true, true, true, true, false, false, false] rfl rfl (any_of HT_.out (by kernel_rfl)) (fun _ _ _ h => h) (Or.inr ⟨by rfl, rfl⟩) ?_ ?_
        rotate_left
        ·simp only [Act.put, List.setIfInBounds_toArray, List.set_cons_zero, List.set_cons_succ, i64_w, i32_w]
         rfl
        refine pure_ (i := 18) (N := some 61) (v := ?_) (a' := ?_) #[true, true, true, true, true, true, true, true, true, true, true, true, true, true, true, true, true, true, true, false, false] rfl rfl (any_of HT_.out (by kernel_rfl)) (fun _ _ _ h => h) (Or.inl ⟨by rfl, ?_⟩) ?_ ?_
        rotate_left
        ·intro w'
         go_simp
         with_reducible rfl
        rotate_left
        ·simp only [Act.put, List.setIfInBounds_toArray, List.set_cons_zero, List.set_cons_succ, i64_w, i32_w]
         rfl
        refine pure_ (i := 19) (N := some 62) (v := ?_) (a' := ?_) #[true, true, true, true, true, true, true, true, true, true, true, true, true, true, true, true, true, true, true, true, false] rfl rfl (any_of HT_.out (by kernel_rfl)) (fun _ _ _ h => h) (Or.inl ⟨by rfl, ?_⟩) ?_ ?_
        rotate_left
        ·intro w'
         go_simp
         with_reducible rfl
        rotate_left
        ·simp only [Act.put, List.setIfInBounds_toArray, List.set_cons_zero, List.set_cons_succ, i64_w, i32_w]
         rfl
        refine pure_ (i := 20) (N := some 4) (v := ?_) (a' := ?_) #[true, true, true, true, true, true, true, true, true, true, true, true, true, true, true, true, true, true, true, true, true] rfl rfl (any_of HT_.out (by kernel_rfl)) (fun _ _ _ h => h) (Or.inl ⟨by rfl, ?_⟩) ?_ ?_
        rotate_left
        ·intro w'
         go_simp
         with_reducible rfl
        rotate_left
        ·simp only [Act.put, List.setIfInBounds_toArray, List.set_cons_zero, List.set_cons_succ, i64_w, i32_w]
         rfl
        refine done_ (done_of HT_.out (by kernel_rfl)) ?_
        try go_wp2
        go_ret
        exact ⟨er, by repeat (first | (with_reducible first | exact HB.out | apply below_alloc | apply pw_below_drewN | apply below_drew1 | refine below_set ?_ GE538.out | refine below_set ?_ GE539.out) | exact HB.out)⟩
      ·replace c27 := Bool.eq_false_iff.mpr c27
       subst c27
       have H1 : (none) = some r := by rw [if_neg (show ¬ (false = true) by decide)] at H; exact H
       clear H
       have H := H1
       clear H1
       exact absurd H (by simp)
    ·replace c23 := Bool.eq_false_iff.mpr c23
     subst c23
     have H1 : (none) = some r := by rw [if_neg (show ¬ (false = true) by decide)] at H; exact H
     clear H
     have H := H1
     clear H1
     exact absurd H (by simp)

end Go.Proofs.YtklnkkejkeelaaaDoor.X
