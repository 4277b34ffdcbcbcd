-- Printed by xprint, a tool of this work; Lean checks it.
import Derived.Test.YtklnkkejkeelaaaDoorXx0
import Derived.Test.YtklnkkejkeelaaaDoorXx2
import Derived.Test.YtklnkkejkeelaaaDoorXx6
import Derived.Test.YtklnkkejkeelaaaDoorXx10
namespace Go.Proofs.YtklnkkejkeelaaaDoor.X
open Go.RowKit Go.Proofs.YtklnkkejkeelaaaDoorW.PrintWords Go.Proofs.YtklnkkejkeelaaaDoorW.PrintLast Go.Proofs.YtklnkkejkeelaaaDoorW.PrintMore
attribute [local go_sem] max2_int min2_int max_two min_two max_three min_three max_four min_four   -- for this text's walks alone
set_option linter.unusedVariables false
set_option linter.unusedSimpArgs false

/-! ### ints_within: function 76 -/
def ints_within.f (a0 : Int) (a1 : Int) (a2 : Int) : Option (Bool) := if a0 ≥ a1 then (some (decide (a0 ≤ a2))) else (some false)
set_option maxHeartbeats 8000000 in
set_option maxRecDepth 100000 in
theorem ints_within.calls (a0 : Int) (a1 : Int) (a2 : Int) (r : Bool) (w : World) (h : ints_within.f a0 a1 a2 = some r) :
  Calls Tryd.prog 76 #[.int .i64 a0, .int .i64 a1, .int .i64 a2] w fun e w' => e = .returned (.bool r) ∧ Drawn0 w w' := by
 have H : (if a0 ≥ a1 then (some (decide (a0 ≤ a2))) else (some false)) = some r := h
 clear h
 by_cases c4 : a0 ≥ a1
 ·rw [if_pos c4] at H
  have c4b0 : decide (a1 ≤ a0) = true := decide_eq_true c4
  clear c4
  obtain rfl := Option.some.inj H
  go_enter Tryd.func76, Tryd.ntmps76
  go_wp2
  go_ret
  exact ⟨rs, by repeat (first | exact Drawn0.refl _ | apply Drawn0.step)⟩
 ·rw [if_neg c4] at H
  have c4b0 : decide (a1 ≤ a0) = false := decide_eq_false c4
  clear c4
  obtain rfl := Option.some.inj H
  go_enter Tryd.func76, Tryd.ntmps76
  go_wp2
  go_ret
  exact ⟨rs, by repeat (first | exact Drawn0.refl _ | apply Drawn0.step)⟩

/-! ### ints_Shape: function 36 -/
def ints_Shape.f (a0 : Int) : Option (List Int × Int × Bool) := if a0 = 69 then (some ((([127] : List Int)), 127, true)) else (if a0 = 80 then (some ((([126] : List Int)), 127, true)) else ((ints_within.f a0 70 79).bind fun t836 => (if t836 = true then (some ((([127, 127] : List Int)), 127, true)) else ((ints_within.f a0 81 90).bind fun t840 => (if t840 = true then (some ((([126, 126] : List Int)), 127, true)) else ((ints_within.f a0 103 105).bind fun t844 => (if t844 = true then (some ((([127] : List Int)), 127, true)) else ((ints_within.f a0 106 120).bind fun t848 => (if t848 = true then (some ((([127, 127] : List Int)), 127, true)) else ((ints_within.f a0 121 123).bind fun t852 => (if t852 = true then (some ((([126] : List Int)), 126, true)) else ((ints_within.f a0 124 138).bind fun t856 => (if t856 = true then (some ((([126, 126] : List Int)), 126, true)) else (if a0 = 167 then (some ((([126] : List Int)), 127, true)) else (if a0 = 172 then (some ((([127] : List Int)), 126, true)) else (if a0 = 173 then (some ((([127] : List Int)), 126, true)) else (some (([] : List Int), 0, false))))))))))))))))))
set_option maxHeartbeats 8000000 in
set_option maxRecDepth 100000 in
theorem ints_Shape.calls (a0 : Int) (r1 : List Int) (r2 : Int) (r3 : Bool) (w : World) (h : ints_Shape.f a0 = some (r1, r2, r3)) :
  Calls Tryd.prog 36 #[.int .i64 a0] w fun e w' => ∃ v0_ : Value, e = .returned (.tuple #[v0_, .int .u8 r2, .bool r3]) ∧ Kd.R (Kd.int .u8) 5 w' w.heap.size (fun _ => True) v0_ r1 ∧ Below w.heap.size w w' := by
 have HB := Aside0.mk (Below.refl w.heap.size w)
 have H : (if a0 = 69 then (some ((([127] : List Int)), 127, true)) else (if a0 = 80 then (some ((([126] : List Int)), 127, true)) else ((ints_within.f a0 70 79).bind fun t836 => (if t836 = true then (some ((([127, 127] : List Int)), 127, true)) else ((ints_within.f a0 81 90).bind fun t840 => (if t840 = true then (some ((([126, 126] : List Int)), 127, true)) else ((ints_within.f a0 103 105).bind fun t844 => (if t844 = true then (some ((([127] : List Int)), 127, true)) else ((ints_within.f a0 106 120).bind fun t848 => (if t848 = true then (some ((([127, 127] : List Int)), 127, true)) else ((ints_within.f a0 121 123).bind fun t852 => (if t852 = true then (some ((([126] : List Int)), 126, true)) else ((ints_within.f a0 124 138).bind fun t856 => (if t856 = true then (some ((([126, 126] : List Int)), 126, true)) else (if a0 = 167 then (some ((([126] : List Int)), 127, true)) else (if a0 = 172 then (some ((([127] : List Int)), 126, true)) else (if a0 = 173 then (some ((([127] : List Int)), 126, true)) else (some (([] : List Int), 0, false))))))))))))))))))) = some (r1, r2, r3) := h
 clear h
 by_cases c2 : a0 = 69
 ·rw [if_pos c2] at H
  have c2b0 : (a0 == 69) = true := beq_iff_eq.mpr c2
  have c2b1 : (a0 != 69) = false := bne_eq_false_iff_eq.mpr c2
  clear c2
  obtain ⟨y830, hy830⟩ : ∃ y_ : List Int, y_ = (([127] : List Int)) := ⟨_, rfl⟩
  replace H : (some (y830, 127, true)) = some (r1, r2, r3) := by first | (rw [hy830]; with_reducible exact H) | (have H2_ := (Option.bind_some _ _).symm.trans H; rw [hy830]; with_reducible exact H2_) | (have H2_ := (Option.bind_some _ _).symm.trans H; with_reducible exact H2_) | with_reducible exact H | (rw [hy830]; exact H) | exact H
  have Ny830 := Aside0.mk hy830
  clear hy830
  simp only [Option.some.injEq, Prod.mk.injEq] at H
  obtain ⟨rfl, rfl, rfl⟩ := H
  go_enter Tryd.func36, Tryd.ntmps36
  go_wp2_with (first | ((with_reducible refine gate_dst (N := 8) rfl ?_); refine Kd.R_lit (Kd.int .u8) _ 5 ?hg (N := 8) ?hd (xs := ([127] : List Int)) (inner := [.int .u8 127]) (ok := fun _ => True) (okp := fun _ => True) ?hr ?hp (fun _ hk => hk) trivial (Below.refl _ _) (Nat.le_refl _) (by simp) ?_; (case hd => rfl); (case hg => rfl); (case hr => first | (go_simp; done) | (go_simp; rfl)); (case hp => exact (Reps.one (show Kd.M (Kd.int .u8) _ _ _ 127 [.int .u8 127] from rfl) (Reps.none _ _))); intro v831 w3 ho4 hb hg_ hnew_; clear hg_ hnew_; (first | rw [← Ny830.out] at ho4 | (simp only [Int.reduceToNat] at ho4; rw [← Ny830.out] at ho4)); have n0_ := Aside0.mk (Kd.R_lower ho4 (below_size bl)); have n1_ := Aside0.mk (below_step bl hb); clear HB; have HO832 := n0_; have HB := n1_; clear n0_ n1_; clear hb ho4))
  go_ret3
  exact ⟨_, er, by (with_reducible repeat (first | apply Kd.R_alloc | apply Kd.R_drewN | apply Kd.R_drew)); exact HO832.out, bl⟩
 ·rw [if_neg c2] at H
  have c2b0 : (a0 == 69) = false := beq_eq_false_iff_ne.mpr c2
  have c2b1 : (a0 != 69) = true := bne_iff_ne.mpr c2
  by_cases c5 : a0 = 80
  ·rw [if_pos c5] at H
   have c5b0 : (a0 == 80) = true := beq_iff_eq.mpr c5
   have c5b1 : (a0 != 80) = false := bne_eq_false_iff_eq.mpr c5
   clear c5
   obtain ⟨y833, hy833⟩ : ∃ y_ : List Int, y_ = (([126] : List Int)) := ⟨_, rfl⟩
   replace H : (some (y833, 127, true)) = some (r1, r2, r3) := by first | (rw [hy833]; with_reducible exact H) | (have H2_ := (Option.bind_some _ _).symm.trans H; rw [hy833]; with_reducible exact H2_) | (have H2_ := (Option.bind_some _ _).symm.trans H; with_reducible exact H2_) | with_reducible exact H | (rw [hy833]; exact H) | exact H
   have Ny833 := Aside0.mk hy833
   clear hy833
   simp only [Option.some.injEq, Prod.mk.injEq] at H
   obtain ⟨rfl, rfl, rfl⟩ := H
   go_enter Tryd.func36, Tryd.ntmps36
   go_wp2_with (first | ((with_reducible refine gate_dst (N := 12) rfl ?_); refine Kd.R_lit (Kd.int .u8) _ 5 ?hg (N := 12) ?hd (xs := ([126] : List Int)) (inner := [.int .u8 126]) (ok := fun _ => True) (okp := fun _ => True) ?hr ?hp (fun _ hk => hk) trivial (Below.refl _ _) (Nat.le_refl _) (by simp) ?_; (case hd => rfl); (case hg => rfl); (case hr => first | (go_simp; done) | (go_simp; rfl)); (case hp => exact (Reps.one (show Kd.M (Kd.int .u8) _ _ _ 126 [.int .u8 126] from rfl) (Reps.none _ _))); intro v834 w6 ho7 hb hg_ hnew_; clear hg_ hnew_; (first | rw [← Ny833.out] at ho7 | (simp only [Int.reduceToNat] at ho7; rw [← Ny833.out] at ho7)); have n0_ := Aside0.mk (Kd.R_lower ho7 (below_size bl)); have n1_ := Aside0.mk (below_step bl hb); clear HB; have HO835 := n0_; have HB := n1_; clear n0_ n1_; clear hb ho7))
   go_ret3
   exact ⟨_, er, by (with_reducible repeat (first | apply Kd.R_alloc | apply Kd.R_drewN | apply Kd.R_drew)); exact HO835.out, bl⟩
  ·rw [if_neg c5] at H
   have c5b0 : (a0 == 80) = false := beq_eq_false_iff_ne.mpr c5
   have c5b1 : (a0 != 80) = true := bne_iff_ne.mpr c5
   replace H := Option.bind_eq_some_iff.mp H
   obtain ⟨t836, A80, H⟩ := H
   replace H : (if t836 = true then (some ((([127, 127] : List Int)), 127, true)) else ((ints_within.f a0 81 90).bind fun t840 => (if t840 = true then (some ((([126, 126] : List Int)), 127, true)) else ((ints_within.f a0 103 105).bind fun t844 => (if t844 = true then (some ((([127] : List Int)), 127, true)) else ((ints_within.f a0 106 120).bind fun t848 => (if t848 = true then (some ((([127, 127] : List Int)), 127, true)) else ((ints_within.f a0 121 123).bind fun t852 => (if t852 = true then (some ((([126] : List Int)), 126, true)) else ((ints_within.f a0 124 138).bind fun t856 => (if t856 = true then (some ((([126, 126] : List Int)), 126, true)) else (if a0 = 167 then (some ((([126] : List Int)), 127, true)) else (if a0 = 172 then (some ((([127] : List Int)), 126, true)) else (if a0 = 173 then (some ((([127] : List Int)), 126, true)) else (some (([] : List Int), 0, false)))))))))))))))) = some (r1, r2, r3) := H
   have A8 := Aside0.mk A80
   clear A80
   by_cases c9 : t836 = true
   ·subst c9
    have H1 : (some ((([127, 127] : List Int)), 127, true)) = some (r1, r2, r3) := by rw [if_pos rfl] at H; exact H
    clear H
    have H := H1
    clear H1
    obtain ⟨y837, hy837⟩ : ∃ y_ : List Int, y_ = (([127, 127] : List Int)) := ⟨_, rfl⟩
    replace H : (some (y837, 127, true)) = some (r1, r2, r3) := by first | (rw [hy837]; with_reducible exact H) | (have H2_ := (Option.bind_some _ _).symm.trans H; rw [hy837]; with_reducible exact H2_) | (have H2_ := (Option.bind_some _ _).symm.trans H; with_reducible exact H2_) | with_reducible exact H | (rw [hy837]; exact H) | exact H
    have Ny837 := Aside0.mk hy837
    clear hy837
    simp only [Option.some.injEq, Prod.mk.injEq] at H
    obtain ⟨rfl, rfl, rfl⟩ := H
    go_enter Tryd.func36, Tryd.ntmps36
    go_wp2_with (first | ((with_reducible refine gate_callee (f := 76) rfl ?_); refine goesL_ (some 15) rfl rfl Tryd.func76 (by kernel_rfl) rfl #[.int .i64 a0, .int .i64 70, .int .i64 79] rfl am ?_; (with_reducible refine (ints_within.calls a0 70 79 true _ A8.out).mono ?_); rintro e w' ⟨rfl, ⟨nd, rfl⟩⟩; refine ⟨_, rfl, ?_⟩) | ((with_reducible refine gate_dst (N := 16) rfl ?_); refine Kd.R_lit (Kd.int .u8) _ 5 ?hg (N := 16) ?hd (xs := ([127, 127] : List Int)) (inner := [.int .u8 127, .int .u8 127]) (ok := fun _ => True) (okp := fun _ => True) ?hr ?hp (fun _ hk => hk) trivial (Below.refl _ _) (Nat.le_refl _) (by simp) ?_; (case hd => rfl); (case hg => rfl); (case hr => first | (go_simp; done) | (go_simp; rfl)); (case hp => exact (Reps.one (show Kd.M (Kd.int .u8) _ _ _ 127 [.int .u8 127] from rfl) (Reps.one (show Kd.M (Kd.int .u8) _ _ _ 127 [.int .u8 127] from rfl) (Reps.none _ _)))); intro v838 w10 ho11 hb hg_ hnew_; clear hg_ hnew_; (first | rw [← Ny837.out] at ho11 | (simp only [Int.reduceToNat] at ho11; rw [← Ny837.out] at ho11)); have n0_ := Aside0.mk (Kd.R_lower ho11 (below_size bl)); have n1_ := Aside0.mk (below_step bl hb); clear HB; have HO839 := n0_; have HB := n1_; clear n0_ n1_; clear hb ho11))
    go_ret3
    exact ⟨_, er, by (with_reducible repeat (first | apply Kd.R_alloc | apply Kd.R_drewN | apply Kd.R_drew)); exact HO839.out, bl⟩
   ·replace c9 := Bool.eq_false_iff.mpr c9
    subst c9
    have H1 : ((ints_within.f a0 81 90).bind fun t840 => (if t840 = true then (some ((([126, 126] : List Int)), 127, true)) else ((ints_within.f a0 103 105).bind fun t844 => (if t844 = true then (some ((([127] : List Int)), 127, true)) else ((ints_within.f a0 106 120).bind fun t848 => (if t848 = true then (some ((([127, 127] : List Int)), 127, true)) else ((ints_within.f a0 121 123).bind fun t852 => (if t852 = true then (some ((([126] : List Int)), 126, true)) else ((ints_within.f a0 124 138).bind fun t856 => (if t856 = true then (some ((([126, 126] : List Int)), 126, true)) else (if a0 = 167 then (some ((([126] : List Int)), 127, true)) else (if a0 = 172 then (some ((([127] : List Int)), 126, true)) else (if a0 = 173 then (some ((([127] : List Int)), 126, true)) else (some (([] : List Int), 0, false))))))))))))))) = some (r1, r2, r3) := by rw [if_neg (show ¬ (false = true) by decide)] at H; exact H
    clear H
    have H := H1
    clear H1
    replace H := Option.bind_eq_some_iff.mp H
    obtain ⟨t840, A120, H⟩ := H
    replace H : (if t840 = true then (some ((([126, 126] : List Int)), 127, true)) else ((ints_within.f a0 103 105).bind fun t844 => (if t844 = true then (some ((([127] : List Int)), 127, true)) else ((ints_within.f a0 106 120).bind fun t848 => (if t848 = true then (some ((([127, 127] : List Int)), 127, true)) else ((ints_within.f a0 121 123).bind fun t852 => (if t852 = true then (some ((([126] : List Int)), 126, true)) else ((ints_within.f a0 124 138).bind fun t856 => (if t856 = true then (some ((([126, 126] : List Int)), 126, true)) else (if a0 = 167 then (some ((([126] : List Int)), 127, true)) else (if a0 = 172 then (some ((([127] : List Int)), 126, true)) else (if a0 = 173 then (some ((([127] : List Int)), 126, true)) else (some (([] : List Int), 0, false)))))))))))))) = some (r1, r2, r3) := H
    have A12 := Aside0.mk A120
    clear A120
    by_cases c13 : t840 = true
    ·subst c13
     have H1 : (some ((([126, 126] : List Int)), 127, true)) = some (r1, r2, r3) := by rw [if_pos rfl] at H; exact H
     clear H
     have H := H1
     clear H1
     obtain ⟨y841, hy841⟩ : ∃ y_ : List Int, y_ = (([126, 126] : List Int)) := ⟨_, rfl⟩
     replace H : (some (y841, 127, true)) = some (r1, r2, r3) := by first | (rw [hy841]; with_reducible exact H) | (have H2_ := (Option.bind_some _ _).symm.trans H; rw [hy841]; with_reducible exact H2_) | (have H2_ := (Option.bind_some _ _).symm.trans H; with_reducible exact H2_) | with_reducible exact H | (rw [hy841]; exact H) | exact H
     have Ny841 := Aside0.mk hy841
     clear hy841
     simp only [Option.some.injEq, Prod.mk.injEq] at H
     obtain ⟨rfl, rfl, rfl⟩ := H
     go_enter Tryd.func36, Tryd.ntmps36
     go_wp2_with (first | ((with_reducible refine gate_callee (f := 76) rfl ?_); refine goesL_ (some 15) rfl rfl Tryd.func76 (by kernel_rfl) rfl #[.int .i64 a0, .int .i64 70, .int .i64 79] rfl am ?_; (with_reducible refine (ints_within.calls a0 70 79 false _ A8.out).mono ?_); rintro e w' ⟨rfl, ⟨nd, rfl⟩⟩; refine ⟨_, rfl, ?_⟩) | ((with_reducible refine gate_callee (f := 76) rfl ?_); refine goesL_ (some 19) rfl rfl Tryd.func76 (by kernel_rfl) rfl #[.int .i64 a0, .int .i64 81, .int .i64 90] rfl am ?_; (with_reducible refine (ints_within.calls a0 81 90 true _ A12.out).mono ?_); rintro e w' ⟨rfl, ⟨nd, rfl⟩⟩; refine ⟨_, rfl, ?_⟩) | ((with_reducible refine gate_dst (N := 20) rfl ?_); refine Kd.R_lit (Kd.int .u8) _ 5 ?hg (N := 20) ?hd (xs := ([126, 126] : List Int)) (inner := [.int .u8 126, .int .u8 126]) (ok := fun _ => True) (okp := fun _ => True) ?hr ?hp (fun _ hk => hk) trivial (Below.refl _ _) (Nat.le_refl _) (by simp) ?_; (case hd => rfl); (case hg => rfl); (case hr => first | (go_simp; done) | (go_simp; rfl)); (case hp => exact (Reps.one (show Kd.M (Kd.int .u8) _ _ _ 126 [.int .u8 126] from rfl) (Reps.one (show Kd.M (Kd.int .u8) _ _ _ 126 [.int .u8 126] from rfl) (Reps.none _ _)))); intro v842 w14 ho15 hb hg_ hnew_; clear hg_ hnew_; (first | rw [← Ny841.out] at ho15 | (simp only [Int.reduceToNat] at ho15; rw [← Ny841.out] at ho15)); have n0_ := Aside0.mk (Kd.R_lower ho15 (below_size bl)); have n1_ := Aside0.mk (below_step bl hb); clear HB; have HO843 := n0_; have HB := n1_; clear n0_ n1_; clear hb ho15))
     go_ret3
     exact ⟨_, er, by (with_reducible repeat (first | apply Kd.R_alloc | apply Kd.R_drewN | apply Kd.R_drew)); exact HO843.out, bl⟩
    ·replace c13 := Bool.eq_false_iff.mpr c13
     subst c13
     have H1 : ((ints_within.f a0 103 105).bind fun t844 => (if t844 = true then (some ((([127] : List Int)), 127, true)) else ((ints_within.f a0 106 120).bind fun t848 => (if t848 = true then (some ((([127, 127] : List Int)), 127, true)) else ((ints_within.f a0 121 123).bind fun t852 => (if t852 = true then (some ((([126] : List Int)), 126, true)) else ((ints_within.f a0 124 138).bind fun t856 => (if t856 = true then (some ((([126, 126] : List Int)), 126, true)) else (if a0 = 167 then (some ((([126] : List Int)), 127, true)) else (if a0 = 172 then (some ((([127] : List Int)), 126, true)) else (if a0 = 173 then (some ((([127] : List Int)), 126, true)) else (some (([] : List Int), 0, false))))))))))))) = some (r1, r2, r3) := by rw [if_neg (show ¬ (false = true) by decide)] at H; exact H
     clear H
     have H := H1
     clear H1
     replace H := Option.bind_eq_some_iff.mp H
     obtain ⟨t844, A160, H⟩ := H
     replace H : (if t844 = true then (some ((([127] : List Int)), 127, true)) else ((ints_within.f a0 106 120).bind fun t848 => (if t848 = true then (some ((([127, 127] : List Int)), 127, true)) else ((ints_within.f a0 121 123).bind fun t852 => (if t852 = true then (some ((([126] : List Int)), 126, true)) else ((ints_within.f a0 124 138).bind fun t856 => (if t856 = true then (some ((([126, 126] : List Int)), 126, true)) else (if a0 = 167 then (some ((([126] : List Int)), 127, true)) else (if a0 = 172 then (some ((([127] : List Int)), 126, true)) else (if a0 = 173 then (some ((([127] : List Int)), 126, true)) else (some (([] : List Int), 0, false)))))))))))) = some (r1, r2, r3) := H
     have A16 := Aside0.mk A160
     clear A160
     by_cases c17 : t844 = true
     ·subst c17
      have H1 : (some ((([127] : List Int)), 127, true)) = some (r1, r2, r3) := by rw [if_pos rfl] at H; exact H
      clear H
      have H := H1
      clear H1
      obtain ⟨y845, hy845⟩ : ∃ y_ : List Int, y_ = (([127] : List Int)) := ⟨_, rfl⟩
      replace H : (some (y845, 127, true)) = some (r1, r2, r3) := by first | (rw [hy845]; with_reducible exact H) | (have H2_ := (Option.bind_some _ _).symm.trans H; rw [hy845]; with_reducible exact H2_) | (have H2_ := (Option.bind_some _ _).symm.trans H; with_reducible exact H2_) | with_reducible exact H | (rw [hy845]; exact H) | exact H
      have Ny845 := Aside0.mk hy845
      clear hy845
      simp only [Option.some.injEq, Prod.mk.injEq] at H
      obtain ⟨rfl, rfl, rfl⟩ := H
      go_enter Tryd.func36, Tryd.ntmps36
      go_wp2_with (first | ((with_reducible refine gate_callee (f := 76) rfl ?_); refine goesL_ (some 15) rfl rfl Tryd.func76 (by kernel_rfl) rfl #[.int .i64 a0, .int .i64 70, .int .i64 79] rfl am ?_; (with_reducible refine (ints_within.calls a0 70 79 false _ A8.out).mono ?_); rintro e w' ⟨rfl, ⟨nd, rfl⟩⟩; refine ⟨_, rfl, ?_⟩) | ((with_reducible refine gate_callee (f := 76) rfl ?_); refine goesL_ (some 19) rfl rfl Tryd.func76 (by kernel_rfl) rfl #[.int .i64 a0, .int .i64 81, .int .i64 90] rfl am ?_; (with_reducible refine (ints_within.calls a0 81 90 false _ A12.out).mono ?_); rintro e w' ⟨rfl, ⟨nd, rfl⟩⟩; refine ⟨_, rfl, ?_⟩) | ((with_reducible refine gate_callee (f := 76) rfl ?_); refine goesL_ (some 23) rfl rfl Tryd.func76 (by kernel_rfl) rfl #[.int .i64 a0, .int .i64 103, .int .i64 105] rfl am ?_; (with_reducible refine (ints_within.calls a0 103 105 true _ A16.out).mono ?_); rintro e w' ⟨rfl, ⟨nd, rfl⟩⟩; refine ⟨_, rfl, ?_⟩) | ((with_reducible refine gate_dst (N := 24) rfl ?_); refine Kd.R_lit (Kd.int .u8) _ 5 ?hg (N := 24) ?hd (xs := ([127] : List Int)) (inner := [.int .u8 127]) (ok := fun _ => True) (okp := fun _ => True) ?hr ?hp (fun _ hk => hk) trivial (Below.refl _ _) (Nat.le_refl _) (by simp) ?_; (case hd => rfl); (case hg => rfl); (case hr => first | (go_simp; done) | (go_simp; rfl)); (case hp => exact (Reps.one (show Kd.M (Kd.int .u8) _ _ _ 127 [.int .u8 127] from rfl) (Reps.none _ _))); intro v846 w18 ho19 hb hg_ hnew_; clear hg_ hnew_; (first | rw [← Ny845.out] at ho19 | (simp only [Int.reduceToNat] at ho19; rw [← Ny845.out] at ho19)); have n0_ := Aside0.mk (Kd.R_lower ho19 (below_size bl)); have n1_ := Aside0.mk (below_step bl hb); clear HB; have HO847 := n0_; have HB := n1_; clear n0_ n1_; clear hb ho19))
      go_ret3
      exact ⟨_, er, by (with_reducible repeat (first | apply Kd.R_alloc | apply Kd.R_drewN | apply Kd.R_drew)); exact HO847.out, bl⟩
     ·replace c17 := Bool.eq_false_iff.mpr c17
      subst c17
      have H1 : ((ints_within.f a0 106 120).bind fun t848 => (if t848 = true then (some ((([127, 127] : List Int)), 127, true)) else ((ints_within.f a0 121 123).bind fun t852 => (if t852 = true then (some ((([126] : List Int)), 126, true)) else ((ints_within.f a0 124 138).bind fun t856 => (if t856 = true then (some ((([126, 126] : List Int)), 126, true)) else (if a0 = 167 then (some ((([126] : List Int)), 127, true)) else (if a0 = 172 then (some ((([127] : List Int)), 126, true)) else (if a0 = 173 then (some ((([127] : List Int)), 126, true)) else (some (([] : List Int), 0, false))))))))))) = some (r1, r2, r3) := by rw [if_neg (show ¬ (false = true) by decide)] at H; exact H
      clear H
      have H := H1
      clear H1
      replace H := Option.bind_eq_some_iff.mp H
      obtain ⟨t848, A200, H⟩ := H
      replace H : (if t848 = true then (some ((([127, 127] : List Int)), 127, true)) else ((ints_within.f a0 121 123).bind fun t852 => (if t852 = true then (some ((([126] : List Int)), 126, true)) else ((ints_within.f a0 124 138).bind fun t856 => (if t856 = true then (some ((([126, 126] : List Int)), 126, true)) else (if a0 = 167 then (some ((([126] : List Int)), 127, true)) else (if a0 = 172 then (some ((([127] : List Int)), 126, true)) else (if a0 = 173 then (some ((([127] : List Int)), 126, true)) else (some (([] : List Int), 0, false)))))))))) = some (r1, r2, r3) := H
      have A20 := Aside0.mk A200
      clear A200
      by_cases c21 : t848 = true
      ·subst c21
       have H1 : (some ((([127, 127] : List Int)), 127, true)) = some (r1, r2, r3) := by rw [if_pos rfl] at H; exact H
       clear H
       have H := H1
       clear H1
       obtain ⟨y849, hy849⟩ : ∃ y_ : List Int, y_ = (([127, 127] : List Int)) := ⟨_, rfl⟩
       replace H : (some (y849, 127, true)) = some (r1, r2, r3) := by first | (rw [hy849]; with_reducible exact H) | (have H2_ := (Option.bind_some _ _).symm.trans H; rw [hy849]; with_reducible exact H2_) | (have H2_ := (Option.bind_some _ _).symm.trans H; with_reducible exact H2_) | with_reducible exact H | (rw [hy849]; exact H) | exact H
       have Ny849 := Aside0.mk hy849
       clear hy849
       simp only [Option.some.injEq, Prod.mk.injEq] at H
       obtain ⟨rfl, rfl, rfl⟩ := H
       go_enter Tryd.func36, Tryd.ntmps36
       go_wp2_with (first | ((with_reducible refine gate_callee (f := 76) rfl ?_); refine goesL_ (some 15) rfl rfl Tryd.func76 (by kernel_rfl) rfl #[.int .i64 a0, .int .i64 70, .int .i64 79] rfl am ?_; (with_reducible refine (ints_within.calls a0 70 79 false _ A8.out).mono ?_); rintro e w' ⟨rfl, ⟨nd, rfl⟩⟩; refine ⟨_, rfl, ?_⟩) | ((with_reducible refine gate_callee (f := 76) rfl ?_); refine goesL_ (some 19) rfl rfl Tryd.func76 (by kernel_rfl) rfl #[.int .i64 a0, .int .i64 81, .int .i64 90] rfl am ?_; (with_reducible refine (ints_within.calls a0 81 90 false _ A12.out).mono ?_); rintro e w' ⟨rfl, ⟨nd, rfl⟩⟩; refine ⟨_, rfl, ?_⟩) | ((with_reducible refine gate_callee (f := 76) rfl ?_); refine goesL_ (some 23) rfl rfl Tryd.func76 (by kernel_rfl) rfl #[.int .i64 a0, .int .i64 103, .int .i64 105] rfl am ?_; (with_reducible refine (ints_within.calls a0 103 105 false _ A16.out).mono ?_); rintro e w' ⟨rfl, ⟨nd, rfl⟩⟩; refine ⟨_, rfl, ?_⟩) | ((with_reducible refine gate_callee (f := 76) rfl ?_); refine goesL_ (some 27) rfl rfl Tryd.func76 (by kernel_rfl) rfl #[.int .i64 a0, .int .i64 106, .int .i64 120] rfl am ?_; (with_reducible refine (ints_within.calls a0 106 120 true _ A20.out).mono ?_); rintro e w' ⟨rfl, ⟨nd, rfl⟩⟩; refine ⟨_, rfl, ?_⟩) | ((with_reducible refine gate_dst (N := 28) rfl ?_); refine Kd.R_lit (Kd.int .u8) _ 5 ?hg (N := 28) ?hd (xs := ([127, 127] : List Int)) (inner := [.int .u8 127, .int .u8 127]) (ok := fun _ => True) (okp := fun _ => True) ?hr ?hp (fun _ hk => hk) trivial (Below.refl _ _) (Nat.le_refl _) (by simp) ?_; (case hd => rfl); (case hg => rfl); (case hr => first | (go_simp; done) | (go_simp; rfl)); (case hp => exact (Reps.one (show Kd.M (Kd.int .u8) _ _ _ 127 [.int .u8 127] from rfl) (Reps.one (show Kd.M (Kd.int .u8) _ _ _ 127 [.int .u8 127] from rfl) (Reps.none _ _)))); intro v850 w22 ho23 hb hg_ hnew_; clear hg_ hnew_; (first | rw [← Ny849.out] at ho23 | (simp only [Int.reduceToNat] at ho23; rw [← Ny849.out] at ho23)); have n0_ := Aside0.mk (Kd.R_lower ho23 (below_size bl)); have n1_ := Aside0.mk (below_step bl hb); clear HB; have HO851 := n0_; have HB := n1_; clear n0_ n1_; clear hb ho23))
       go_ret3
       exact ⟨_, er, by (with_reducible repeat (first | apply Kd.R_alloc | apply Kd.R_drewN | apply Kd.R_drew)); exact HO851.out, bl⟩
      ·replace c21 := Bool.eq_false_iff.mpr c21
       subst c21
       have H1 : ((ints_within.f a0 121 123).bind fun t852 => (if t852 = true then (some ((([126] : List Int)), 126, true)) else ((ints_within.f a0 124 138).bind fun t856 => (if t856 = true then (some ((([126, 126] : List Int)), 126, true)) else (if a0 = 167 then (some ((([126] : List Int)), 127, true)) else (if a0 = 172 then (some ((([127] : List Int)), 126, true)) else (if a0 = 173 then (some ((([127] : List Int)), 126, true)) else (some (([] : List Int), 0, false))))))))) = some (r1, r2, r3) := by rw [if_neg (show ¬ (false = true) by decide)] at H; exact H
       clear H
       have H := H1
       clear H1
       replace H := Option.bind_eq_some_iff.mp H
       obtain ⟨t852, A240, H⟩ := H
       replace H : (if t852 = true then (some ((([126] : List Int)), 126, true)) else ((ints_within.f a0 124 138).bind fun t856 => (if t856 = true then (some ((([126, 126] : List Int)), 126, true)) else (if a0 = 167 then (some ((([126] : List Int)), 127, true)) else (if a0 = 172 then (some ((([127] : List Int)), 126, true)) else (if a0 = 173 then (some ((([127] : List Int)), 126, true)) else (some (([] : List Int), 0, false)))))))) = some (r1, r2, r3) := H
       have A24 := Aside0.mk A240
       clear A240
       by_cases c25 : t852 = true
       ·subst c25
        have H1 : (some ((([126] : List Int)), 126, true)) = some (r1, r2, r3) := by rw [if_pos rfl] at H; exact H
        clear H
        have H := H1
        clear H1
        obtain ⟨y853, hy853⟩ : ∃ y_ : List Int, y_ = (([126] : List Int)) := ⟨_, rfl⟩
        replace H : (some (y853, 126, true)) = some (r1, r2, r3) := by first | (rw [hy853]; with_reducible exact H) | (have H2_ := (Option.bind_some _ _).symm.trans H; rw [hy853]; with_reducible exact H2_) | (have H2_ := (Option.bind_some _ _).symm.trans H; with_reducible exact H2_) | with_reducible exact H | (rw [hy853]; exact H) | exact H
        have Ny853 := Aside0.mk hy853
        clear hy853
        simp only [Option.some.injEq, Prod.mk.injEq] at H
        obtain ⟨rfl, rfl, rfl⟩ := H
        go_enter Tryd.func36, Tryd.ntmps36
        go_wp2_with (first | ((with_reducible refine gate_callee (f := 76) rfl ?_); refine goesL_ (some 15) rfl rfl Tryd.func76 (by kernel_rfl) rfl #[.int .i64 a0, .int .i64 70, .int .i64 79] rfl am ?_; (with_reducible refine (ints_within.calls a0 70 79 false _ A8.out).mono ?_); rintro e w' ⟨rfl, ⟨nd, rfl⟩⟩; refine ⟨_, rfl, ?_⟩) | ((with_reducible refine gate_callee (f := 76) rfl ?_); refine goesL_ (some 19) rfl rfl Tryd.func76 (by kernel_rfl) rfl #[.int .i64 a0, .int .i64 81, .int .i64 90] rfl am ?_; (with_reducible refine (ints_within.calls a0 81 90 false _ A12.out).mono ?_); rintro e w' ⟨rfl, ⟨nd, rfl⟩⟩; refine ⟨_, rfl, ?_⟩) | ((with_reducible refine gate_callee (f := 76) rfl ?_); refine goesL_ (some 23) rfl rfl Tryd.func76 (by kernel_rfl) rfl #[.int .i64 a0, .int .i64 103, .int .i64 105] rfl am ?_; (with_reducible refine (ints_within.calls a0 103 105 false _ A16.out).mono ?_); rintro e w' ⟨rfl, ⟨nd, rfl⟩⟩; refine ⟨_, rfl, ?_⟩) | ((with_reducible refine gate_callee (f := 76) rfl ?_); refine goesL_ (some 27) rfl rfl Tryd.func76 (by kernel_rfl) rfl #[.int .i64 a0, .int .i64 106, .int .i64 120] rfl am ?_; (with_reducible refine (ints_within.calls a0 106 120 false _ A20.out).mono ?_); rintro e w' ⟨rfl, ⟨nd, rfl⟩⟩; refine ⟨_, rfl, ?_⟩) | ((with_reducible refine gate_callee (f := 76) rfl ?_); refine goesL_ (some 31) rfl rfl Tryd.func76 (by kernel_rfl) rfl #[.int .i64 a0, .int .i64 121, .int .i64 123] rfl am ?_; (with_reducible refine (ints_within.calls a0 121 123 true _ A24.out).mono ?_); rintro e w' ⟨rfl, ⟨nd, rfl⟩⟩; refine ⟨_, rfl, ?_⟩) | ((with_reducible refine gate_dst (N := 32) rfl ?_); refine Kd.R_lit (Kd.int .u8) _ 5 ?hg (N := 32) ?hd (xs := ([126] : List Int)) (inner := [.int .u8 126]) (ok := fun _ => True) (okp := fun _ => True) ?hr ?hp (fun _ hk => hk) trivial (Below.refl _ _) (Nat.le_refl _) (by simp) ?_; (case hd => rfl); (case hg => rfl); (case hr => first | (go_simp; done) | (go_simp; rfl)); (case hp => exact (Reps.one (show Kd.M (Kd.int .u8) _ _ _ 126 [.int .u8 126] from rfl) (Reps.none _ _))); intro v854 w26 ho27 hb hg_ hnew_; clear hg_ hnew_; (first | rw [← Ny853.out] at ho27 | (simp only [Int.reduceToNat] at ho27; rw [← Ny853.out] at ho27)); have n0_ := Aside0.mk (Kd.R_lower ho27 (below_size bl)); have n1_ := Aside0.mk (below_step bl hb); clear HB; have HO855 := n0_; have HB := n1_; clear n0_ n1_; clear hb ho27))
        go_ret3
        exact ⟨_, er, by (with_reducible repeat (first | apply Kd.R_alloc | apply Kd.R_drewN | apply Kd.R_drew)); exact HO855.out, bl⟩
       ·replace c25 := Bool.eq_false_iff.mpr c25
        subst c25
        have H1 : ((ints_within.f a0 124 138).bind fun t856 => (if t856 = true then (some ((([126, 126] : List Int)), 126, true)) else (if a0 = 167 then (some ((([126] : List Int)), 127, true)) else (if a0 = 172 then (some ((([127] : List Int)), 126, true)) else (if a0 = 173 then (some ((([127] : List Int)), 126, true)) else (some (([] : List Int), 0, false))))))) = some (r1, r2, r3) := by rw [if_neg (show ¬ (false = true) by decide)] at H; exact H
        clear H
        have H := H1
        clear H1
        replace H := Option.bind_eq_some_iff.mp H
        obtain ⟨t856, A280, H⟩ := H
        replace H : (if t856 = true then (some ((([126, 126] : List Int)), 126, true)) else (if a0 = 167 then (some ((([126] : List Int)), 127, true)) else (if a0 = 172 then (some ((([127] : List Int)), 126, true)) else (if a0 = 173 then (some ((([127] : List Int)), 126, true)) else (some (([] : List Int), 0, false)))))) = some (r1, r2, r3) := H
        have A28 := Aside0.mk A280
        clear A280
        by_cases c29 : t856 = true
        ·subst c29
         have H1 : (some ((([126, 126] : List Int)), 126, true)) = some (r1, r2, r3) := by rw [if_pos rfl] at H; exact H
         clear H
         have H := H1
         clear H1
         obtain ⟨y857, hy857⟩ : ∃ y_ : List Int, y_ = (([126, 126] : List Int)) := ⟨_, rfl⟩
         replace H : (some (y857, 126, true)) = some (r1, r2, r3) := by first | (rw [hy857]; with_reducible exact H) | (have H2_ := (Option.bind_some _ _).symm.trans H; rw [hy857]; with_reducible exact H2_) | (have H2_ := (Option.bind_some _ _).symm.trans H; with_reducible exact H2_) | with_reducible exact H | (rw [hy857]; exact H) | exact H
         have Ny857 := Aside0.mk hy857
         clear hy857
         simp only [Option.some.injEq, Prod.mk.injEq] at H
         obtain ⟨rfl, rfl, rfl⟩ := H
         go_enter Tryd.func36, Tryd.ntmps36
         go_wp2_with (first | ((with_reducible refine gate_callee (f := 76) rfl ?_); refine goesL_ (some 15) rfl rfl Tryd.func76 (by kernel_rfl) rfl #[.int .i64 a0, .int .i64 70, .int .i64 79] rfl am ?_; (with_reducible refine (ints_within.calls a0 70 79 false _ A8.out).mono ?_); rintro e w' ⟨rfl, ⟨nd, rfl⟩⟩; refine ⟨_, rfl, ?_⟩) | ((with_reducible refine gate_callee (f := 76) rfl ?_); refine goesL_ (some 19) rfl rfl Tryd.func76 (by kernel_rfl) rfl #[.int .i64 a0, .int .i64 81, .int .i64 90] rfl am ?_; (with_reducible refine (ints_within.calls a0 81 90 false _ A12.out).mono ?_); rintro e w' ⟨rfl, ⟨nd, rfl⟩⟩; refine ⟨_, rfl, ?_⟩) | ((with_reducible refine gate_callee (f := 76) rfl ?_); refine goesL_ (some 23) rfl rfl Tryd.func76 (by kernel_rfl) rfl #[.int .i64 a0, .int .i64 103, .int .i64 105] rfl am ?_; (with_reducible refine (ints_within.calls a0 103 105 false _ A16.out).mono ?_); rintro e w' ⟨rfl, ⟨nd, rfl⟩⟩; refine ⟨_, rfl, ?_⟩) | ((with_reducible refine gate_callee (f := 76) rfl ?_); refine goesL_ (some 27) rfl rfl Tryd.func76 (by kernel_rfl) rfl #[.int .i64 a0, .int .i64 106, .int .i64 120] rfl am ?_; (with_reducible refine (ints_within.calls a0 106 120 false _ A20.out).mono ?_); rintro e w' ⟨rfl, ⟨nd, rfl⟩⟩; refine ⟨_, rfl, ?_⟩) | ((with_reducible refine gate_callee (f := 76) rfl ?_); refine goesL_ (some 31) rfl rfl Tryd.func76 (by kernel_rfl) rfl #[.int .i64 a0, .int .i64 121, .int .i64 123] rfl am ?_; (with_reducible refine (ints_within.calls a0 121 123 false _ A24.out).mono ?_); rintro e w' ⟨rfl, ⟨nd, rfl⟩⟩; refine ⟨_, rfl, ?_⟩) | ((with_reducible refine gate_callee (f := 76) rfl ?_); refine goesL_ (some 35) rfl rfl Tryd.func76 (by kernel_rfl) rfl #[.int .i64 a0, .int .i64 124, .int .i64 138] rfl am ?_; (with_reducible refine (ints_within.calls a0 124 138 true _ A28.out).mono ?_); rintro e w' ⟨rfl, ⟨nd, rfl⟩⟩; refine ⟨_, rfl, ?_⟩) | ((with_reducible refine gate_dst (N := 36) rfl ?_); refine Kd.R_lit (Kd.int .u8) _ 5 ?hg (N := 36) ?hd (xs := ([126, 126] : List Int)) (inner := [.int .u8 126, .int .u8 126]) (ok := fun _ => True) (okp := fun _ => True) ?hr ?hp (fun _ hk => hk) trivial (Below.refl _ _) (Nat.le_refl _) (by simp) ?_; (case hd => rfl); (case hg => rfl); (case hr => first | (go_simp; done) | (go_simp; rfl)); (case hp => exact (Reps.one (show Kd.M (Kd.int .u8) _ _ _ 126 [.int .u8 126] from rfl) (Reps.one (show Kd.M (Kd.int .u8) _ _ _ 126 [.int .u8 126] from rfl) (Reps.none _ _)))); intro v858 w30 ho31 hb hg_ hnew_; clear hg_ hnew_; (first | rw [← Ny857.out] at ho31 | (simp only [Int.reduceToNat] at ho31; rw [← Ny857.out] at ho31)); have n0_ := Aside0.mk (Kd.R_lower ho31 (below_size bl)); have n1_ := Aside0.mk (below_step bl hb); clear HB; have HO859 := n0_; have HB := n1_; clear n0_ n1_; clear hb ho31))
         go_ret3
         exact ⟨_, er, by (with_reducible repeat (first | apply Kd.R_alloc | apply Kd.R_drewN | apply Kd.R_drew)); exact HO859.out, bl⟩
        ·replace c29 := Bool.eq_false_iff.mpr c29
         subst c29
         have H1 : (if a0 = 167 then (some ((([126] : List Int)), 127, true)) else (if a0 = 172 then (some ((([127] : List Int)), 126, true)) else (if a0 = 173 then (some ((([127] : List Int)), 126, true)) else (some (([] : List Int), 0, false))))) = some (r1, r2, r3) := by rw [if_neg (show ¬ (false = true) by decide)] at H; exact H
         clear H
         have H := H1
         clear H1
         by_cases c32 : a0 = 167
         ·rw [if_pos c32] at H
          have c32b0 : (a0 == 167) = true := beq_iff_eq.mpr c32
          have c32b1 : (a0 != 167) = false := bne_eq_false_iff_eq.mpr c32
          clear c32
          obtain ⟨y860, hy860⟩ : ∃ y_ : List Int, y_ = (([126] : List Int)) := ⟨_, rfl⟩
          replace H : (some (y860, 127, true)) = some (r1, r2, r3) := by first | (rw [hy860]; with_reducible exact H) | (have H2_ := (Option.bind_some _ _).symm.trans H; rw [hy860]; with_reducible exact H2_) | (have H2_ := (Option.bind_some _ _).symm.trans H; with_reducible exact H2_) | with_reducible exact H | (rw [hy860]; exact H) | exact H
          have Ny860 := Aside0.mk hy860
          clear hy860
          simp only [Option.some.injEq, Prod.mk.injEq] at H
          obtain ⟨rfl, rfl, rfl⟩ := H
          go_enter Tryd.func36, Tryd.ntmps36
          go_wp2_with (first | ((with_reducible refine gate_callee (f := 76) rfl ?_); refine goesL_ (some 15) rfl rfl Tryd.func76 (by kernel_rfl) rfl #[.int .i64 a0, .int .i64 70, .int .i64 79] rfl am ?_; (with_reducible refine (ints_within.calls a0 70 79 false _ A8.out).mono ?_); rintro e w' ⟨rfl, ⟨nd, rfl⟩⟩; refine ⟨_, rfl, ?_⟩) | ((with_reducible refine gate_callee (f := 76) rfl ?_); refine goesL_ (some 19) rfl rfl Tryd.func76 (by kernel_rfl) rfl #[.int .i64 a0, .int .i64 81, .int .i64 90] rfl am ?_; (with_reducible refine (ints_within.calls a0 81 90 false _ A12.out).mono ?_); rintro e w' ⟨rfl, ⟨nd, rfl⟩⟩; refine ⟨_, rfl, ?_⟩) | ((with_reducible refine gate_callee (f := 76) rfl ?_); refine goesL_ (some 23) rfl rfl Tryd.func76 (by kernel_rfl) rfl #[.int .i64 a0, .int .i64 103, .int .i64 105] rfl am ?_; (with_reducible refine (ints_within.calls a0 103 105 false _ A16.out).mono ?_); rintro e w' ⟨rfl, ⟨nd, rfl⟩⟩; refine ⟨_, rfl, ?_⟩) | ((with_reducible refine gate_callee (f := 76) rfl ?_); refine goesL_ (some 27) rfl rfl Tryd.func76 (by kernel_rfl) rfl #[.int .i64 a0, .int .i64 106, .int .i64 120] rfl am ?_; (with_reducible refine (ints_within.calls a0 106 120 false _ A20.out).mono ?_); rintro e w' ⟨rfl, ⟨nd, rfl⟩⟩; refine ⟨_, rfl, ?_⟩) | ((with_reducible refine gate_callee (f := 76) rfl ?_); refine goesL_ (some 31) rfl rfl Tryd.func76 (by kernel_rfl) rfl #[.int .i64 a0, .int .i64 121, .int .i64 123] rfl am ?_; (with_reducible refine (ints_within.calls a0 121 123 false _ A24.out).mono ?_); rintro e w' ⟨rfl, ⟨nd, rfl⟩⟩; refine ⟨_, rfl, ?_⟩) | ((with_reducible refine gate_callee (f := 76) rfl ?_); refine goesL_ (some 35) rfl rfl Tryd.func76 (by kernel_rfl) rfl #[.int .i64 a0, .int .i64 124, .int .i64 138] rfl am ?_; (with_reducible refine (ints_within.calls a0 124 138 false _ A28.out).mono ?_); rintro e w' ⟨rfl, ⟨nd, rfl⟩⟩; refine ⟨_, rfl, ?_⟩) | ((with_reducible refine gate_dst (N := 40) rfl ?_); refine Kd.R_lit (Kd.int .u8) _ 5 ?hg (N := 40) ?hd (xs := ([126] : List Int)) (inner := [.int .u8 126]) (ok := fun _ => True) (okp := fun _ => True) ?hr ?hp (fun _ hk => hk) trivial (Below.refl _ _) (Nat.le_refl _) (by simp) ?_; (case hd => rfl); (case hg => rfl); (case hr => first | (go_simp; done) | (go_simp; rfl)); (case hp => exact (Reps.one (show Kd.M (Kd.int .u8) _ _ _ 126 [.int .u8 126] from rfl) (Reps.none _ _))); intro v861 w33 ho34 hb hg_ hnew_; clear hg_ hnew_; (first | rw [← Ny860.out] at ho34 | (simp only [Int.reduceToNat] at ho34; rw [← Ny860.out] at ho34)); have n0_ := Aside0.mk (Kd.R_lower ho34 (below_size bl)); have n1_ := Aside0.mk (below_step bl hb); clear HB; have HO862 := n0_; have HB := n1_; clear n0_ n1_; clear hb ho34))
          go_ret3
          exact ⟨_, er, by (with_reducible repeat (first | apply Kd.R_alloc | apply Kd.R_drewN | apply Kd.R_drew)); exact HO862.out, bl⟩
         ·rw [if_neg c32] at H
          have c32b0 : (a0 == 167) = false := beq_eq_false_iff_ne.mpr c32
          have c32b1 : (a0 != 167) = true := bne_iff_ne.mpr c32
          by_cases c35 : a0 = 172
          ·rw [if_pos c35] at H
           have c35b0 : (a0 == 172) = true := beq_iff_eq.mpr c35
           have c35b1 : (a0 != 172) = false := bne_eq_false_iff_eq.mpr c35
           clear c35
           obtain ⟨y863, hy863⟩ : ∃ y_ : List Int, y_ = (([127] : List Int)) := ⟨_, rfl⟩
           replace H : (some (y863, 126, true)) = some (r1, r2, r3) := by first | (rw [hy863]; with_reducible exact H) | (have H2_ := (Option.bind_some _ _).symm.trans H; rw [hy863]; with_reducible exact H2_) | (have H2_ := (Option.bind_some _ _).symm.trans H; with_reducible exact H2_) | with_reducible exact H | (rw [hy863]; exact H) | exact H
           have Ny863 := Aside0.mk hy863
           clear hy863
           simp only [Option.some.injEq, Prod.mk.injEq] at H
           obtain ⟨rfl, rfl, rfl⟩ := H
           go_enter Tryd.func36, Tryd.ntmps36
           go_wp2_with (first | ((with_reducible refine gate_callee (f := 76) rfl ?_); refine goesL_ (some 15) rfl rfl Tryd.func76 (by kernel_rfl) rfl #[.int .i64 a0, .int .i64 70, .int .i64 79] rfl am ?_; (with_reducible refine (ints_within.calls a0 70 79 false _ A8.out).mono ?_); rintro e w' ⟨rfl, ⟨nd, rfl⟩⟩; refine ⟨_, rfl, ?_⟩) | ((with_reducible refine gate_callee (f := 76) rfl ?_); refine goesL_ (some 19) rfl rfl Tryd.func76 (by kernel_rfl) rfl #[.int .i64 a0, .int .i64 81, .int .i64 90] rfl am ?_; (with_reducible refine (ints_within.calls a0 81 90 false _ A12.out).mono ?_); rintro e w' ⟨rfl, ⟨nd, rfl⟩⟩; refine ⟨_, rfl, ?_⟩) | ((with_reducible refine gate_callee (f := 76) rfl ?_); refine goesL_ (some 23) rfl rfl Tryd.func76 (by kernel_rfl) rfl #[.int .i64 a0, .int .i64 103, .int .i64 105] rfl am ?_; (with_reducible refine (ints_within.calls a0 103 105 false _ A16.out).mono ?_); rintro e w' ⟨rfl, ⟨nd, rfl⟩⟩; refine ⟨_, rfl, ?_⟩) | ((with_reducible refine gate_callee (f := 76) rfl ?_); refine goesL_ (some 27) rfl rfl Tryd.func76 (by kernel_rfl) rfl #[.int .i64 a0, .int .i64 106, .int .i64 120] rfl am ?_; (with_reducible refine (ints_within.calls a0 106 120 false _ A20.out).mono ?_); rintro e w' ⟨rfl, ⟨nd, rfl⟩⟩; refine ⟨_, rfl, ?_⟩) | ((with_reducible refine gate_callee (f := 76) rfl ?_); refine goesL_ (some 31) rfl rfl Tryd.func76 (by kernel_rfl) rfl #[.int .i64 a0, .int .i64 121, .int .i64 123] rfl am ?_; (with_reducible refine (ints_within.calls a0 121 123 false _ A24.out).mono ?_); rintro e w' ⟨rfl, ⟨nd, rfl⟩⟩; refine ⟨_, rfl, ?_⟩) | ((with_reducible refine gate_callee (f := 76) rfl ?_); refine goesL_ (some 35) rfl rfl Tryd.func76 (by kernel_rfl) rfl #[.int .i64 a0, .int .i64 124, .int .i64 138] rfl am ?_; (with_reducible refine (ints_within.calls a0 124 138 false _ A28.out).mono ?_); rintro e w' ⟨rfl, ⟨nd, rfl⟩⟩; refine ⟨_, rfl, ?_⟩) | ((with_reducible refine gate_dst (N := 48) rfl ?_); refine Kd.R_lit (Kd.int .u8) _ 5 ?hg (N := 48) ?hd (xs := ([127] : List Int)) (inner := [.int .u8 127]) (ok := fun _ => True) (okp := fun _ => True) ?hr ?hp (fun _ hk => hk) trivial (Below.refl _ _) (Nat.le_refl _) (by simp) ?_; (case hd => rfl); (case hg => rfl); (case hr => first | (go_simp; done) | (go_simp; rfl)); (case hp => exact (Reps.one (show Kd.M (Kd.int .u8) _ _ _ 127 [.int .u8 127] from rfl) (Reps.none _ _))); intro v864 w36 ho37 hb hg_ hnew_; clear hg_ hnew_; (first | rw [← Ny863.out] at ho37 | (simp only [Int.reduceToNat] at ho37; rw [← Ny863.out] at ho37)); have n0_ := Aside0.mk (Kd.R_lower ho37 (below_size bl)); have n1_ := Aside0.mk (below_step bl hb); clear HB; have HO865 := n0_; have HB := n1_; clear n0_ n1_; clear hb ho37))
           go_ret3
           exact ⟨_, er, by (with_reducible repeat (first | apply Kd.R_alloc | apply Kd.R_drewN | apply Kd.R_drew)); exact HO865.out, bl⟩
          ·rw [if_neg c35] at H
           have c35b0 : (a0 == 172) = false := beq_eq_false_iff_ne.mpr c35
           have c35b1 : (a0 != 172) = true := bne_iff_ne.mpr c35
           by_cases c38 : a0 = 173
           ·rw [if_pos c38] at H
            have c38b0 : (a0 == 173) = true := beq_iff_eq.mpr c38
            have c38b1 : (a0 != 173) = false := bne_eq_false_iff_eq.mpr c38
            clear c38
            obtain ⟨y866, hy866⟩ : ∃ y_ : List Int, y_ = (([127] : List Int)) := ⟨_, rfl⟩
            replace H : (some (y866, 126, true)) = some (r1, r2, r3) := by first | (rw [hy866]; with_reducible exact H) | (have H2_ := (Option.bind_some _ _).symm.trans H; rw [hy866]; with_reducible exact H2_) | (have H2_ := (Option.bind_some _ _).symm.trans H; with_reducible exact H2_) | with_reducible exact H | (rw [hy866]; exact H) | exact H
            have Ny866 := Aside0.mk hy866
            clear hy866
            simp only [Option.some.injEq, Prod.mk.injEq] at H
            obtain ⟨rfl, rfl, rfl⟩ := H
            go_enter Tryd.func36, Tryd.ntmps36
            go_wp2_with (first | ((with_reducible refine gate_callee (f := 76) rfl ?_); refine goesL_ (some 15) rfl rfl Tryd.func76 (by kernel_rfl) rfl #[.int .i64 a0, .int .i64 70, .int .i64 79] rfl am ?_; (with_reducible refine (ints_within.calls a0 70 79 false _ A8.out).mono ?_); rintro e w' ⟨rfl, ⟨nd, rfl⟩⟩; refine ⟨_, rfl, ?_⟩) | ((with_reducible refine gate_callee (f := 76) rfl ?_); refine goesL_ (some 19) rfl rfl Tryd.func76 (by kernel_rfl) rfl #[.int .i64 a0, .int .i64 81, .int .i64 90] rfl am ?_; (with_reducible refine (ints_within.calls a0 81 90 false _ A12.out).mono ?_); rintro e w' ⟨rfl, ⟨nd, rfl⟩⟩; refine ⟨_, rfl, ?_⟩) | ((with_reducible refine gate_callee (f := 76) rfl ?_); refine goesL_ (some 23) rfl rfl Tryd.func76 (by kernel_rfl) rfl #[.int .i64 a0, .int .i64 103, .int .i64 105] rfl am ?_; (with_reducible refine (ints_within.calls a0 103 105 false _ A16.out).mono ?_); rintro e w' ⟨rfl, ⟨nd, rfl⟩⟩; refine ⟨_, rfl, ?_⟩) | ((with_reducible refine gate_callee (f := 76) rfl ?_); refine goesL_ (some 27) rfl rfl Tryd.func76 (by kernel_rfl) rfl #[.int .i64 a0, .int .i64 106, .int .i64 120] rfl am ?_; (with_reducible refine (ints_within.calls a0 106 120 false _ A20.out).mono ?_); rintro e w' ⟨rfl, ⟨nd, rfl⟩⟩; refine ⟨_, rfl, ?_⟩) | ((with_reducible refine gate_callee (f := 76) rfl ?_); refine goesL_ (some 31) rfl rfl Tryd.func76 (by kernel_rfl) rfl #[.int .i64 a0, .int .i64 121, .int .i64 123] rfl am ?_; (with_reducible refine (ints_within.calls a0 121 123 false _ A24.out).mono ?_); rintro e w' ⟨rfl, ⟨nd, rfl⟩⟩; refine ⟨_, rfl, ?_⟩) | ((with_reducible refine gate_callee (f := 76) rfl ?_); refine goesL_ (some 35) rfl rfl Tryd.func76 (by kernel_rfl) rfl #[.int .i64 a0, .int .i64 124, .int .i64 138] rfl am ?_; (with_reducible refine (ints_within.calls a0 124 138 false _ A28.out).mono ?_); rintro e w' ⟨rfl, ⟨nd, rfl⟩⟩; refine ⟨_, rfl, ?_⟩) | ((with_reducible refine gate_dst (N := 48) rfl ?_); refine Kd.R_lit (Kd.int .u8) _ 5 ?hg (N := 48) ?hd (xs := ([127] : List Int)) (inner := [.int .u8 127]) (ok := fun _ => True) (okp := fun _ => True) ?hr ?hp (fun _ hk => hk) trivial (Below.refl _ _) (Nat.le_refl _) (by simp) ?_; (case hd => rfl); (case hg => rfl); (case hr => first | (go_simp; done) | (go_simp; rfl)); (case hp => exact (Reps.one (show Kd.M (Kd.int .u8) _ _ _ 127 [.int .u8 127] from rfl) (Reps.none _ _))); intro v867 w39 ho40 hb hg_ hnew_; clear hg_ hnew_; (first | rw [← Ny866.out] at ho40 | (simp only [Int.reduceToNat] at ho40; rw [← Ny866.out] at ho40)); have n0_ := Aside0.mk (Kd.R_lower ho40 (below_size bl)); have n1_ := Aside0.mk (below_step bl hb); clear HB; have HO868 := n0_; have HB := n1_; clear n0_ n1_; clear hb ho40))
            go_ret3
            exact ⟨_, er, by (with_reducible repeat (first | apply Kd.R_alloc | apply Kd.R_drewN | apply Kd.R_drew)); exact HO868.out, bl⟩
           ·rw [if_neg c38] at H
            have c38b0 : (a0 == 173) = false := beq_eq_false_iff_ne.mpr c38
            have c38b1 : (a0 != 173) = true := bne_iff_ne.mpr c38
            simp only [Option.some.injEq, Prod.mk.injEq] at H
            obtain ⟨rfl, rfl, rfl⟩ := H
            go_enter Tryd.func36, Tryd.ntmps36
            go_wp2_with (first | ((with_reducible refine gate_callee (f := 76) rfl ?_); refine goesL_ (some 15) rfl rfl Tryd.func76 (by kernel_rfl) rfl #[.int .i64 a0, .int .i64 70, .int .i64 79] rfl am ?_; (with_reducible refine (ints_within.calls a0 70 79 false _ A8.out).mono ?_); rintro e w' ⟨rfl, ⟨nd, rfl⟩⟩; refine ⟨_, rfl, ?_⟩) | ((with_reducible refine gate_callee (f := 76) rfl ?_); refine goesL_ (some 19) rfl rfl Tryd.func76 (by kernel_rfl) rfl #[.int .i64 a0, .int .i64 81, .int .i64 90] rfl am ?_; (with_reducible refine (ints_within.calls a0 81 90 false _ A12.out).mono ?_); rintro e w' ⟨rfl, ⟨nd, rfl⟩⟩; refine ⟨_, rfl, ?_⟩) | ((with_reducible refine gate_callee (f := 76) rfl ?_); refine goesL_ (some 23) rfl rfl Tryd.func76 (by kernel_rfl) rfl #[.int .i64 a0, .int .i64 103, .int .i64 105] rfl am ?_; (with_reducible refine (ints_within.calls a0 103 105 false _ A16.out).mono ?_); rintro e w' ⟨rfl, ⟨nd, rfl⟩⟩; refine ⟨_, rfl, ?_⟩) | ((with_reducible refine gate_callee (f := 76) rfl ?_); refine goesL_ (some 27) rfl rfl Tryd.func76 (by kernel_rfl) rfl #[.int .i64 a0, .int .i64 106, .int .i64 120] rfl am ?_; (with_reducible refine (ints_within.calls a0 106 120 false _ A20.out).mono ?_); rintro e w' ⟨rfl, ⟨nd, rfl⟩⟩; refine ⟨_, rfl, ?_⟩) | ((with_reducible refine gate_callee (f := 76) rfl ?_); refine goesL_ (some 31) rfl rfl Tryd.func76 (by kernel_rfl) rfl #[.int .i64 a0, .int .i64 121, .int .i64 123] rfl am ?_; (with_reducible refine (ints_within.calls a0 121 123 false _ A24.out).mono ?_); rintro e w' ⟨rfl, ⟨nd, rfl⟩⟩; refine ⟨_, rfl, ?_⟩) | ((with_reducible refine gate_callee (f := 76) rfl ?_); refine goesL_ (some 35) rfl rfl Tryd.func76 (by kernel_rfl) rfl #[.int .i64 a0, .int .i64 124, .int .i64 138] rfl am ?_; (with_reducible refine (ints_within.calls a0 124 138 false _ A28.out).mono ?_); rintro e w' ⟨rfl, ⟨nd, rfl⟩⟩; refine ⟨_, rfl, ?_⟩))
            go_ret3
            exact ⟨_, er, by first | exact Kd.R_nil _ _ _ _ _ | exact Kd.N_nil _ _ _ _ _ | exact Kd.V_nil _ _ _ _ _ | exact Kd.Q_nil _ _ _ _ _ | exact Kd.S_nil _ _ _ _ _, bl⟩

/-! ### avocetlaw05_InstrOps: function 12 -/
def avocetlaw05_InstrOps.j0 : Nat → Bool → Int → Int → Bool → Bool → Bool → Option (Bool)
 | 0, _, _, _, _, _, _ => none
 | k + 1, x3, x8, x9, x10, x11, x60 => if x60 = true then (none) else (if x9 = 0 then (if x3 = true then (if x8 = 0 then (if x10 = true then (none) else (some (!x11))) else (none)) else (none)) else (if x8 = 126 then (if x3 = true then (if x9 = 1 then (if x9 ≤ 8 then (if x10 = true then (if x9 < 8 then (some (!x11)) else (none)) else (some true)) else (none)) else (if x9 = 2 then (if x9 ≤ 8 then (if x10 = true then (if x9 < 8 then (some (!x11)) else (none)) else (some true)) else (none)) else (if x9 = 4 then (if x9 ≤ 8 then (if x10 = true then (if x9 < 8 then (some (!x11)) else (none)) else (some true)) else (none)) else (if x9 = 8 then (if x9 ≤ 8 then (if x10 = true then (if x9 < 8 then (some (!x11)) else (none)) else (some true)) else (none)) else (none))))) else (none)) else (if x3 = true then (if x8 = 127 then (if x9 = 1 then (if x9 ≤ 4 then (if x10 = true then (if x9 < 4 then (some (!x11)) else (none)) else (some true)) else (none)) else (if x9 = 2 then (if x9 ≤ 4 then (if x10 = true then (if x9 < 4 then (some (!x11)) else (none)) else (some true)) else (none)) else (if x9 = 4 then (if x9 ≤ 4 then (if x10 = true then (if x9 < 4 then (some (!x11)) else (none)) else (some true)) else (none)) else (if x9 = 8 then (if x9 ≤ 4 then (if x10 = true then (if x9 < 4 then (some (!x11)) else (none)) else (some true)) else (none)) else (none))))) else (none)) else (none))))
def avocetlaw05_InstrOps.f (k : Nat) (a0 : Int) : Option (Bool) := (avocetlaw05_awake.f k).bind fun t869 => ((instr_Kind.f a0).bind fun t870 => ((ints_Shape.f a0).bind fun bt871 => ((instr_Access.f a0).bind fun bt876 => (if bt871.2.2 = true then (if t870 = 1 then (if ((t870 == 6) != (decide (bt876.2.1 > 0))) = true then (avocetlaw05_InstrOps.j0 k t869 bt876.1 bt876.2.1 bt876.2.2.1 bt876.2.2.2 true) else (if t870 < 0 then (avocetlaw05_InstrOps.j0 k t869 bt876.1 bt876.2.1 bt876.2.2.1 bt876.2.2.2 true) else (if t870 > 9 then (avocetlaw05_InstrOps.j0 k t869 bt876.1 bt876.2.1 bt876.2.2.1 bt876.2.2.2 true) else (if t870 = 0 then (avocetlaw05_InstrOps.j0 k t869 bt876.1 bt876.2.1 bt876.2.2.1 bt876.2.2.2 false) else (if a0 < 0 then (avocetlaw05_InstrOps.j0 k t869 bt876.1 bt876.2.1 bt876.2.2.1 bt876.2.2.2 true) else (avocetlaw05_InstrOps.j0 k t869 bt876.1 bt876.2.1 bt876.2.2.1 bt876.2.2.2 (decide (a0 > 255)))))))) else (avocetlaw05_InstrOps.j0 k t869 bt876.1 bt876.2.1 bt876.2.2.1 bt876.2.2.2 true)) else (if ((t870 == 6) != (decide (bt876.2.1 > 0))) = true then (avocetlaw05_InstrOps.j0 k t869 bt876.1 bt876.2.1 bt876.2.2.1 bt876.2.2.2 true) else (if t870 < 0 then (avocetlaw05_InstrOps.j0 k t869 bt876.1 bt876.2.1 bt876.2.2.1 bt876.2.2.2 true) else (if t870 > 9 then (avocetlaw05_InstrOps.j0 k t869 bt876.1 bt876.2.1 bt876.2.2.1 bt876.2.2.2 true) else (if t870 = 0 then (avocetlaw05_InstrOps.j0 k t869 bt876.1 bt876.2.1 bt876.2.2.1 bt876.2.2.2 false) else (if a0 < 0 then (avocetlaw05_InstrOps.j0 k t869 bt876.1 bt876.2.1 bt876.2.2.1 bt876.2.2.2 true) else (avocetlaw05_InstrOps.j0 k t869 bt876.1 bt876.2.1 bt876.2.2.1 bt876.2.2.2 (decide (a0 > 255))))))))))))
theorem avocetlaw05_InstrOps.mono_l : ∀ k, (∀ y0 y1 y2 y3 y4 y5, LeO (avocetlaw05_InstrOps.j0 k y0 y1 y2 y3 y4 y5) (avocetlaw05_InstrOps.j0 (k + 1) y0 y1 y2 y3 y4 y5))
 | 0 => fun _ _ _ _ _ _ r h => by simp [avocetlaw05_InstrOps.j0] at h
 | k + 1 => by
  have ih0 := avocetlaw05_InstrOps.mono_l k
  ·intro y0 y1 y2 y3 y4 y5
   unfold avocetlaw05_InstrOps.j0
   repeat' first
   | (with_reducible exact ih0 _ _ _ _ _ _)
   | (with_reducible exact avocetlaw05_awake.mono _)
   | (with_reducible exact LeO.refl _)
   | (with_reducible exact LeO.none _)
   | (with_reducible refine LeO.ite ?_ ?_)
   | (with_reducible refine LeO.bind ?_ (fun _ => ?_))
   | exact ih0 _ _ _ _ _ _
   | exact avocetlaw05_awake.mono _
   | exact LeO.none _
   | refine LeO.ite ?_ ?_
   | refine LeO.bind ?_ (fun _ => ?_)
theorem avocetlaw05_InstrOps.mono : ∀ a0 k, LeO (avocetlaw05_InstrOps.f k a0) (avocetlaw05_InstrOps.f (k + 1) a0) := by
 intro a0 k
 have ih0 := avocetlaw05_InstrOps.mono_l k
 unfold avocetlaw05_InstrOps.f
 repeat' first
   | (with_reducible exact ih0 _ _ _ _ _ _)
   | (with_reducible exact avocetlaw05_awake.mono _)
   | (with_reducible exact LeO.refl _)
   | (with_reducible exact LeO.none _)
   | (with_reducible refine LeO.ite ?_ ?_)
   | (with_reducible refine LeO.bind ?_ (fun _ => ?_))
   | exact ih0 _ _ _ _ _ _
   | exact avocetlaw05_awake.mono _
   | exact LeO.none _
   | refine LeO.ite ?_ ?_
   | refine LeO.bind ?_ (fun _ => ?_)
set_option maxHeartbeats 8000000 in
set_option maxRecDepth 100000 in
theorem avocetlaw05_InstrOps.calls (k : Nat) (a0 : Int) (r : Bool) (w : World) (hG : Glob w) (hGR : GlobR w) (h : avocetlaw05_InstrOps.f k a0 = some r) :
  Calls Tryd.prog 12 #[.int .i64 a0] w fun e w' => e = .returned (.bool r) ∧ Below w.heap.size w w' := by
 have HG := Aside0.mk hG
 clear hG
 have HGR := Aside0.mk hGR
 clear hGR
 have HB := Aside0.mk (Below.refl w.heap.size w)
 have H : ((avocetlaw05_awake.f k).bind fun t869 => ((instr_Kind.f a0).bind fun t870 => ((ints_Shape.f a0).bind fun bt871 => ((instr_Access.f a0).bind fun bt876 => (if bt871.2.2 = true then (if t870 = 1 then (if ((t870 == 6) != (decide (bt876.2.1 > 0))) = true then (avocetlaw05_InstrOps.j0 k t869 bt876.1 bt876.2.1 bt876.2.2.1 bt876.2.2.2 true) else (if t870 < 0 then (avocetlaw05_InstrOps.j0 k t869 bt876.1 bt876.2.1 bt876.2.2.1 bt876.2.2.2 true) else (if t870 > 9 then (avocetlaw05_InstrOps.j0 k t869 bt876.1 bt876.2.1 bt876.2.2.1 bt876.2.2.2 true) else (if t870 = 0 then (avocetlaw05_InstrOps.j0 k t869 bt876.1 bt876.2.1 bt876.2.2.1 bt876.2.2.2 false) else (if a0 < 0 then (avocetlaw05_InstrOps.j0 k t869 bt876.1 bt876.2.1 bt876.2.2.1 bt876.2.2.2 true) else (avocetlaw05_InstrOps.j0 k t869 bt876.1 bt876.2.1 bt876.2.2.1 bt876.2.2.2 (decide (a0 > 255)))))))) else (avocetlaw05_InstrOps.j0 k t869 bt876.1 bt876.2.1 bt876.2.2.1 bt876.2.2.2 true)) else (if ((t870 == 6) != (decide (bt876.2.1 > 0))) = true then (avocetlaw05_InstrOps.j0 k t869 bt876.1 bt876.2.1 bt876.2.2.1 bt876.2.2.2 true) else (if t870 < 0 then (avocetlaw05_InstrOps.j0 k t869 bt876.1 bt876.2.1 bt876.2.2.1 bt876.2.2.2 true) else (if t870 > 9 then (avocetlaw05_InstrOps.j0 k t869 bt876.1 bt876.2.1 bt876.2.2.1 bt876.2.2.2 true) else (if t870 = 0 then (avocetlaw05_InstrOps.j0 k t869 bt876.1 bt876.2.1 bt876.2.2.1 bt876.2.2.2 false) else (if a0 < 0 then (avocetlaw05_InstrOps.j0 k t869 bt876.1 bt876.2.1 bt876.2.2.1 bt876.2.2.2 true) else (avocetlaw05_InstrOps.j0 k t869 bt876.1 bt876.2.1 bt876.2.2.1 bt876.2.2.2 (decide (a0 > 255))))))))))))) = some r := h
 clear h
 replace H := Option.bind_eq_some_iff.mp H
 obtain ⟨t869, A20, H⟩ := H
 replace H : ((instr_Kind.f a0).bind fun t870 => ((ints_Shape.f a0).bind fun bt871 => ((instr_Access.f a0).bind fun bt876 => (if bt871.2.2 = true then (if t870 = 1 then (if ((t870 == 6) != (decide (bt876.2.1 > 0))) = true then (avocetlaw05_InstrOps.j0 k t869 bt876.1 bt876.2.1 bt876.2.2.1 bt876.2.2.2 true) else (if t870 < 0 then (avocetlaw05_InstrOps.j0 k t869 bt876.1 bt876.2.1 bt876.2.2.1 bt876.2.2.2 true) else (if t870 > 9 then (avocetlaw05_InstrOps.j0 k t869 bt876.1 bt876.2.1 bt876.2.2.1 bt876.2.2.2 true) else (if t870 = 0 then (avocetlaw05_InstrOps.j0 k t869 bt876.1 bt876.2.1 bt876.2.2.1 bt876.2.2.2 false) else (if a0 < 0 then (avocetlaw05_InstrOps.j0 k t869 bt876.1 bt876.2.1 bt876.2.2.1 bt876.2.2.2 true) else (avocetlaw05_InstrOps.j0 k t869 bt876.1 bt876.2.1 bt876.2.2.1 bt876.2.2.2 (decide (a0 > 255)))))))) else (avocetlaw05_InstrOps.j0 k t869 bt876.1 bt876.2.1 bt876.2.2.1 bt876.2.2.2 true)) else (if ((t870 == 6) != (decide (bt876.2.1 > 0))) = true then (avocetlaw05_InstrOps.j0 k t869 bt876.1 bt876.2.1 bt876.2.2.1 bt876.2.2.2 true) else (if t870 < 0 then (avocetlaw05_InstrOps.j0 k t869 bt876.1 bt876.2.1 bt876.2.2.1 bt876.2.2.2 true) else (if t870 > 9 then (avocetlaw05_InstrOps.j0 k t869 bt876.1 bt876.2.1 bt876.2.2.1 bt876.2.2.2 true) else (if t870 = 0 then (avocetlaw05_InstrOps.j0 k t869 bt876.1 bt876.2.1 bt876.2.2.1 bt876.2.2.2 false) else (if a0 < 0 then (avocetlaw05_InstrOps.j0 k t869 bt876.1 bt876.2.1 bt876.2.2.1 bt876.2.2.2 true) else (avocetlaw05_InstrOps.j0 k t869 bt876.1 bt876.2.1 bt876.2.2.1 bt876.2.2.2 (decide (a0 > 255)))))))))))) = some r := H
 have A2 := Aside0.mk A20
 clear A20
 replace H := Option.bind_eq_some_iff.mp H
 obtain ⟨t870, A30, H⟩ := H
 replace H : ((ints_Shape.f a0).bind fun bt871 => ((instr_Access.f a0).bind fun bt876 => (if bt871.2.2 = true then (if t870 = 1 then (if ((t870 == 6) != (decide (bt876.2.1 > 0))) = true then (avocetlaw05_InstrOps.j0 k t869 bt876.1 bt876.2.1 bt876.2.2.1 bt876.2.2.2 true) else (if t870 < 0 then (avocetlaw05_InstrOps.j0 k t869 bt876.1 bt876.2.1 bt876.2.2.1 bt876.2.2.2 true) else (if t870 > 9 then (avocetlaw05_InstrOps.j0 k t869 bt876.1 bt876.2.1 bt876.2.2.1 bt876.2.2.2 true) else (if t870 = 0 then (avocetlaw05_InstrOps.j0 k t869 bt876.1 bt876.2.1 bt876.2.2.1 bt876.2.2.2 false) else (if a0 < 0 then (avocetlaw05_InstrOps.j0 k t869 bt876.1 bt876.2.1 bt876.2.2.1 bt876.2.2.2 true) else (avocetlaw05_InstrOps.j0 k t869 bt876.1 bt876.2.1 bt876.2.2.1 bt876.2.2.2 (decide (a0 > 255)))))))) else (avocetlaw05_InstrOps.j0 k t869 bt876.1 bt876.2.1 bt876.2.2.1 bt876.2.2.2 true)) else (if ((t870 == 6) != (decide (bt876.2.1 > 0))) = true then (avocetlaw05_InstrOps.j0 k t869 bt876.1 bt876.2.1 bt876.2.2.1 bt876.2.2.2 true) else (if t870 < 0 then (avocetlaw05_InstrOps.j0 k t869 bt876.1 bt876.2.1 bt876.2.2.1 bt876.2.2.2 true) else (if t870 > 9 then (avocetlaw05_InstrOps.j0 k t869 bt876.1 bt876.2.1 bt876.2.2.1 bt876.2.2.2 true) else (if t870 = 0 then (avocetlaw05_InstrOps.j0 k t869 bt876.1 bt876.2.1 bt876.2.2.1 bt876.2.2.2 false) else (if a0 < 0 then (avocetlaw05_InstrOps.j0 k t869 bt876.1 bt876.2.1 bt876.2.2.1 bt876.2.2.2 true) else (avocetlaw05_InstrOps.j0 k t869 bt876.1 bt876.2.1 bt876.2.2.1 bt876.2.2.2 (decide (a0 > 255))))))))))) = some r := H
 have A3 := Aside0.mk A30
 clear A30
 replace H := Option.bind_eq_some_iff.mp H
 obtain ⟨⟨t871, t872, t873⟩, A40, H⟩ := H
 replace H : ((instr_Access.f a0).bind fun bt876 => (if t873 = true then (if t870 = 1 then (if ((t870 == 6) != (decide (bt876.2.1 > 0))) = true then (avocetlaw05_InstrOps.j0 k t869 bt876.1 bt876.2.1 bt876.2.2.1 bt876.2.2.2 true) else (if t870 < 0 then (avocetlaw05_InstrOps.j0 k t869 bt876.1 bt876.2.1 bt876.2.2.1 bt876.2.2.2 true) else (if t870 > 9 then (avocetlaw05_InstrOps.j0 k t869 bt876.1 bt876.2.1 bt876.2.2.1 bt876.2.2.2 true) else (if t870 = 0 then (avocetlaw05_InstrOps.j0 k t869 bt876.1 bt876.2.1 bt876.2.2.1 bt876.2.2.2 false) else (if a0 < 0 then (avocetlaw05_InstrOps.j0 k t869 bt876.1 bt876.2.1 bt876.2.2.1 bt876.2.2.2 true) else (avocetlaw05_InstrOps.j0 k t869 bt876.1 bt876.2.1 bt876.2.2.1 bt876.2.2.2 (decide (a0 > 255)))))))) else (avocetlaw05_InstrOps.j0 k t869 bt876.1 bt876.2.1 bt876.2.2.1 bt876.2.2.2 true)) else (if ((t870 == 6) != (decide (bt876.2.1 > 0))) = true then (avocetlaw05_InstrOps.j0 k t869 bt876.1 bt876.2.1 bt876.2.2.1 bt876.2.2.2 true) else (if t870 < 0 then (avocetlaw05_InstrOps.j0 k t869 bt876.1 bt876.2.1 bt876.2.2.1 bt876.2.2.2 true) else (if t870 > 9 then (avocetlaw05_InstrOps.j0 k t869 bt876.1 bt876.2.1 bt876.2.2.1 bt876.2.2.2 true) else (if t870 = 0 then (avocetlaw05_InstrOps.j0 k t869 bt876.1 bt876.2.1 bt876.2.2.1 bt876.2.2.2 false) else (if a0 < 0 then (avocetlaw05_InstrOps.j0 k t869 bt876.1 bt876.2.1 bt876.2.2.1 bt876.2.2.2 true) else (avocetlaw05_InstrOps.j0 k t869 bt876.1 bt876.2.1 bt876.2.2.1 bt876.2.2.2 (decide (a0 > 255)))))))))) = some r := H
 have A4 := Aside0.mk A40
 clear A40
 replace H := Option.bind_eq_some_iff.mp H
 obtain ⟨⟨t876, t877, t878, t879⟩, A50, H⟩ := H
 replace H : (if t873 = true then (if t870 = 1 then (if ((t870 == 6) != (decide (t877 > 0))) = true then (avocetlaw05_InstrOps.j0 k t869 t876 t877 t878 t879 true) else (if t870 < 0 then (avocetlaw05_InstrOps.j0 k t869 t876 t877 t878 t879 true) else (if t870 > 9 then (avocetlaw05_InstrOps.j0 k t869 t876 t877 t878 t879 true) else (if t870 = 0 then (avocetlaw05_InstrOps.j0 k t869 t876 t877 t878 t879 false) else (if a0 < 0 then (avocetlaw05_InstrOps.j0 k t869 t876 t877 t878 t879 true) else (avocetlaw05_InstrOps.j0 k t869 t876 t877 t878 t879 (decide (a0 > 255)))))))) else (avocetlaw05_InstrOps.j0 k t869 t876 t877 t878 t879 true)) else (if ((t870 == 6) != (decide (t877 > 0))) = true then (avocetlaw05_InstrOps.j0 k t869 t876 t877 t878 t879 true) else (if t870 < 0 then (avocetlaw05_InstrOps.j0 k t869 t876 t877 t878 t879 true) else (if t870 > 9 then (avocetlaw05_InstrOps.j0 k t869 t876 t877 t878 t879 true) else (if t870 = 0 then (avocetlaw05_InstrOps.j0 k t869 t876 t877 t878 t879 false) else (if a0 < 0 then (avocetlaw05_InstrOps.j0 k t869 t876 t877 t878 t879 true) else (avocetlaw05_InstrOps.j0 k t869 t876 t877 t878 t879 (decide (a0 > 255))))))))) = some r := H
 have A5 := Aside0.mk A50
 clear A50
 have HC6 := Aside0.mk H
 clear H
 go_enter Tryd.func12, Tryd.ntmps12
 go_upto_region 5 with (first | ((with_reducible refine gate_callee (f := 22) rfl ?_); refine goesL_ (some 13) rfl rfl Tryd.func22 (by kernel_rfl) rfl #[] rfl am ?_; (with_reducible refine (avocetlaw05_awake.calls k  t869 _ ?side1 A2.out).mono ?_); (case side1 => exact Glob.below HG.out bl); rintro e w7 ⟨rfl, hb⟩; refine ⟨_, rfl, ?_⟩; have n0_ := Aside0.mk (below_step bl hb); clear HB; have HB := n0_; clear n0_; (try clear hb); (try clear hb2); (try clear hk); (try clear hi)) | ((with_reducible refine gate_callee (f := 28) rfl ?_); refine goesL_ (some 15) rfl rfl Tryd.func28 (by kernel_rfl) rfl #[.int .i64 a0] rfl am ?_; (with_reducible refine (instr_Kind.calls a0 t870 _ ?side1 A3.out).mono ?_); (case side1 => exact Glob.below HG.out bl); rintro e w8 ⟨rfl, hb⟩; refine ⟨_, rfl, ?_⟩; have n0_ := Aside0.mk (below_step bl hb); clear HB; have HB := n0_; clear n0_; (try clear hb); (try clear hb2); (try clear hk); (try clear hi)) | ((with_reducible refine gate_callee (f := 36) rfl ?_); refine goesL_ (some 18) rfl rfl Tryd.func36 (by kernel_rfl) rfl #[.int .i64 a0] rfl am ?_; (with_reducible refine (ints_Shape.calls a0 t871 t872 t873 _ A4.out).mono ?_); rintro e w9 ⟨v874, rfl, ho0, hb⟩; refine ⟨_, rfl, ?_⟩; have n0_ := Aside0.mk (Kd.R_lower ho0 (below_size bl)); have n1_ := Aside0.mk (below_step bl hb); clear HB; have HO875 := n0_; have HB := n1_; clear n0_ n1_; (try clear hb); (try clear hb2); (try clear hk); (try clear hi); (try clear ho0)) | ((with_reducible refine gate_callee (f := 31) rfl ?_); refine goesL_ (some 24) rfl rfl Tryd.func31 (by kernel_rfl) rfl #[.int .i64 a0] rfl am ?_; (with_reducible refine (instr_Access.calls a0 t876 t877 t878 t879 _ ?side1 A5.out).mono ?_); (case side1 => exact GlobR.below HGR.out bl); rintro e w10 ⟨rfl, hb⟩; refine ⟨_, rfl, ?_⟩; have n0_ := Aside0.mk (Kd.R_below (by (with_reducible repeat (first | apply Kd.R_alloc | apply Kd.R_drewN | apply Kd.R_drew)); exact HO875.out) hb); have n1_ := Aside0.mk (below_step bl hb); clear HO875; clear HB; have HO875 := n0_; have HB := n1_; clear n0_ n1_; (try clear hb); (try clear hb2); (try clear hk); (try clear hi)))
 (try simp only [Act.put, List.setIfInBounds_toArray, List.set_cons_zero, List.set_cons_succ])
 go_cut [60] (fun v60 wc => ∃ (kq : Nat) (x60_5 : Bool), v60 = .bool x60_5 ∧ Aside0 (avocetlaw05_InstrOps.j0 kq t869 t876 t877 t878 t879 x60_5 = some r) ∧ Aside0 (kq ≤ k) ∧ Aside0 (Below w.heap.size w wc))
 case first =>
  have H := HC6.out
  clear HC6
  by_cases c11 : t873 = true
  ·subst c11
   have H1 : (if t870 = 1 then (if ((t870 == 6) != (decide (t877 > 0))) = true then (avocetlaw05_InstrOps.j0 k t869 t876 t877 t878 t879 true) else (if t870 < 0 then (avocetlaw05_InstrOps.j0 k t869 t876 t877 t878 t879 true) else (if t870 > 9 then (avocetlaw05_InstrOps.j0 k t869 t876 t877 t878 t879 true) else (if t870 = 0 then (avocetlaw05_InstrOps.j0 k t869 t876 t877 t878 t879 false) else (if a0 < 0 then (avocetlaw05_InstrOps.j0 k t869 t876 t877 t878 t879 true) else (avocetlaw05_InstrOps.j0 k t869 t876 t877 t878 t879 (decide (a0 > 255)))))))) else (avocetlaw05_InstrOps.j0 k t869 t876 t877 t878 t879 true)) = some r := by rw [if_pos rfl] at H; exact H
   clear H
   have H := H1
   clear H1
   by_cases c12 : t870 = 1
   ·rw [if_pos c12] at H
    have c12b0 : (t870 == 1) = true := beq_iff_eq.mpr c12
    have c12b1 : (t870 != 1) = false := bne_eq_false_iff_eq.mpr c12
    clear c12
    (first | rw [c12b0] | (simp only [i64_w, i32_w]; rw [c12b0]) | skip)
    by_cases c13 : ((t870 == 6) != (decide (t877 > 0))) = true
    ·rw [if_pos c13] at H
     have c13b0 : ((t870 == 6) != (decide (t877 > 0))) = true := c13
     (try (have c13b1 : decide ((t870 == 6) = (decide (t877 > 0))) = false := by simpa using c13))
     (try (have c13b2 : ((t870 == 6) == (decide (t877 > 0))) = false := by simpa using c13))
     (try (have c13b3 : ¬ ((t870 == 6) = (decide (t877 > 0))) := by simpa using c13))
     clear c13
     have H' := Aside0.mk H
     clear H
     go_wp2
     go_meet
     case rel => exact ⟨_, (true), rs, H', ⟨by first | omega | exact Nat.le_refl _⟩, ⟨bl⟩⟩
    ·rw [if_neg c13] at H
     have c13b0 : ((t870 == 6) != (decide (t877 > 0))) = false := by simpa using c13
     (try (have c13b1 : decide ((t870 == 6) = (decide (t877 > 0))) = true := by simpa using c13))
     (try (have c13b2 : ((t870 == 6) == (decide (t877 > 0))) = true := by simpa using c13))
     clear c13
     by_cases c14 : t870 < 0
     ·rw [if_pos c14] at H
      have c14b0 : decide (t870 < 0) = true := decide_eq_true c14
      clear c14
      have H' := Aside0.mk H
      clear H
      go_wp2
      go_meet
      case rel => exact ⟨_, (true), rs, H', ⟨by first | omega | exact Nat.le_refl _⟩, ⟨bl⟩⟩
     ·rw [if_neg c14] at H
      have c14b0 : decide (t870 < 0) = false := decide_eq_false c14
      clear c14
      by_cases c15 : t870 > 9
      ·rw [if_pos c15] at H
       have c15b0 : decide (9 < t870) = true := decide_eq_true c15
       clear c15
       have H' := Aside0.mk H
       clear H
       go_wp2
       go_meet
       case rel => exact ⟨_, (true), rs, H', ⟨by first | omega | exact Nat.le_refl _⟩, ⟨bl⟩⟩
      ·rw [if_neg c15] at H
       have c15b0 : decide (9 < t870) = false := decide_eq_false c15
       clear c15
       by_cases c16 : t870 = 0
       ·rw [if_pos c16] at H
        have c16b0 : (t870 == 0) = true := beq_iff_eq.mpr c16
        have c16b1 : (t870 != 0) = false := bne_eq_false_iff_eq.mpr c16
        clear c16
        have H' := Aside0.mk H
        clear H
        go_wp2
        go_meet
        case rel => exact ⟨_, (false), rs, H', ⟨by first | omega | exact Nat.le_refl _⟩, ⟨bl⟩⟩
       ·rw [if_neg c16] at H
        have c16b0 : (t870 == 0) = false := beq_eq_false_iff_ne.mpr c16
        have c16b1 : (t870 != 0) = true := bne_iff_ne.mpr c16
        by_cases c17 : a0 < 0
        ·rw [if_pos c17] at H
         have c17b0 : decide (a0 < 0) = true := decide_eq_true c17
         clear c17
         have H' := Aside0.mk H
         clear H
         go_wp2
         go_meet
         case rel => exact ⟨_, (true), rs, H', ⟨by first | omega | exact Nat.le_refl _⟩, ⟨bl⟩⟩
        ·rw [if_neg c17] at H
         have c17b0 : decide (a0 < 0) = false := decide_eq_false c17
         clear c17
         have H' := Aside0.mk H
         clear H
         go_wp2
         go_meet
         case rel => exact ⟨_, (decide (a0 > 255)), rs, H', ⟨by first | omega | exact Nat.le_refl _⟩, ⟨bl⟩⟩
   ·rw [if_neg c12] at H
    have c12b0 : (t870 == 1) = false := beq_eq_false_iff_ne.mpr c12
    have c12b1 : (t870 != 1) = true := bne_iff_ne.mpr c12
    (first | rw [c12b0] | (simp only [i64_w, i32_w]; rw [c12b0]) | skip)
    have H' := Aside0.mk H
    clear H
    go_wp2
    go_meet
    case rel => exact ⟨_, (true), rs, H', ⟨by first | omega | exact Nat.le_refl _⟩, ⟨bl⟩⟩
  ·replace c11 := Bool.eq_false_iff.mpr c11
   subst c11
   have H1 : (if ((t870 == 6) != (decide (t877 > 0))) = true then (avocetlaw05_InstrOps.j0 k t869 t876 t877 t878 t879 true) else (if t870 < 0 then (avocetlaw05_InstrOps.j0 k t869 t876 t877 t878 t879 true) else (if t870 > 9 then (avocetlaw05_InstrOps.j0 k t869 t876 t877 t878 t879 true) else (if t870 = 0 then (avocetlaw05_InstrOps.j0 k t869 t876 t877 t878 t879 false) else (if a0 < 0 then (avocetlaw05_InstrOps.j0 k t869 t876 t877 t878 t879 true) else (avocetlaw05_InstrOps.j0 k t869 t876 t877 t878 t879 (decide (a0 > 255)))))))) = some r := by rw [if_neg (show ¬ (false = true) by decide)] at H; exact H
   clear H
   have H := H1
   clear H1
   by_cases c18 : ((t870 == 6) != (decide (t877 > 0))) = true
   ·rw [if_pos c18] at H
    have c18b0 : ((t870 == 6) != (decide (t877 > 0))) = true := c18
    (try (have c18b1 : decide ((t870 == 6) = (decide (t877 > 0))) = false := by simpa using c18))
    (try (have c18b2 : ((t870 == 6) == (decide (t877 > 0))) = false := by simpa using c18))
    (try (have c18b3 : ¬ ((t870 == 6) = (decide (t877 > 0))) := by simpa using c18))
    clear c18
    have H' := Aside0.mk H
    clear H
    go_wp2
    go_meet
    case rel => exact ⟨_, (true), rs, H', ⟨by first | omega | exact Nat.le_refl _⟩, ⟨bl⟩⟩
   ·rw [if_neg c18] at H
    have c18b0 : ((t870 == 6) != (decide (t877 > 0))) = false := by simpa using c18
    (try (have c18b1 : decide ((t870 == 6) = (decide (t877 > 0))) = true := by simpa using c18))
    (try (have c18b2 : ((t870 == 6) == (decide (t877 > 0))) = true := by simpa using c18))
    clear c18
    by_cases c19 : t870 < 0
    ·rw [if_pos c19] at H
     have c19b0 : decide (t870 < 0) = true := decide_eq_true c19
     clear c19
     have H' := Aside0.mk H
     clear H
     go_wp2
     go_meet
     case rel => exact ⟨_, (true), rs, H', ⟨by first | omega | exact Nat.le_refl _⟩, ⟨bl⟩⟩
    ·rw [if_neg c19] at H
     have c19b0 : decide (t870 < 0) = false := decide_eq_false c19
     clear c19
     by_cases c20 : t870 > 9
     ·rw [if_pos c20] at H
      have c20b0 : decide (9 < t870) = true := decide_eq_true c20
      clear c20
      have H' := Aside0.mk H
      clear H
      go_wp2
      go_meet
      case rel => exact ⟨_, (true), rs, H', ⟨by first | omega | exact Nat.le_refl _⟩, ⟨bl⟩⟩
     ·rw [if_neg c20] at H
      have c20b0 : decide (9 < t870) = false := decide_eq_false c20
      clear c20
      by_cases c21 : t870 = 0
      ·rw [if_pos c21] at H
       have c21b0 : (t870 == 0) = true := beq_iff_eq.mpr c21
       have c21b1 : (t870 != 0) = false := bne_eq_false_iff_eq.mpr c21
       clear c21
       have H' := Aside0.mk H
       clear H
       go_wp2
       go_meet
       case rel => exact ⟨_, (false), rs, H', ⟨by first | omega | exact Nat.le_refl _⟩, ⟨bl⟩⟩
      ·rw [if_neg c21] at H
       have c21b0 : (t870 == 0) = false := beq_eq_false_iff_ne.mpr c21
       have c21b1 : (t870 != 0) = true := bne_iff_ne.mpr c21
       by_cases c22 : a0 < 0
       ·rw [if_pos c22] at H
        have c22b0 : decide (a0 < 0) = true := decide_eq_true c22
        clear c22
        have H' := Aside0.mk H
        clear H
        go_wp2
        go_meet
        case rel => exact ⟨_, (true), rs, H', ⟨by first | omega | exact Nat.le_refl _⟩, ⟨bl⟩⟩
       ·rw [if_neg c22] at H
        have c22b0 : decide (a0 < 0) = false := decide_eq_false c22
        clear c22
        have H' := Aside0.mk H
        clear H
        go_wp2
        go_meet
        case rel => exact ⟨_, (decide (a0 > 255)), rs, H', ⟨by first | omega | exact Nat.le_refl _⟩, ⟨bl⟩⟩
 case rest =>
  clear HC6
  (try clear c1); (try clear c2); (try clear p2); (try clear c3); (try clear c11); (try clear c12); (try clear c12b0); (try clear c12b1); (try clear c13); (try clear c13b0); (try clear c13b1); (try clear c13b2); (try clear c14); (try clear c14b0); (try clear c15); (try clear c15b0); (try clear c16); (try clear c16b0); (try clear c16b1); (try clear c17); (try clear c17b0); (try clear c18); (try clear c18b0); (try clear c18b1); (try clear c18b2); (try clear c19); (try clear c19b0); (try clear c20); (try clear c20b0); (try clear c21); (try clear c21b0); (try clear c21b1); (try clear c22); (try clear c22b0)
  obtain ⟨kq, x60_5, rfl, HA, HJ5, HB⟩ := hcut
  cases kq with
  | zero => exact absurd HA.out (by simp [avocetlaw05_InstrOps.j0])
  | succ kj5 =>
   have H := HA.out
   clear HA
   simp only [avocetlaw05_InstrOps.j0] at H
   by_cases c23 : x60_5 = true
   ·subst c23
    have H1 : (none) = some r := by rw [if_pos rfl] at H; exact H
    clear H
    have H := H1
    clear H1
    exact absurd H (by simp)
   ·replace c23 := Bool.eq_false_iff.mpr c23
    subst c23
    have H1 : (if t877 = 0 then (if t869 = true then (if t876 = 0 then (if t878 = true then (none) else (some (!t879))) else (none)) else (none)) else (if t876 = 126 then (if t869 = true then (if t877 = 1 then (if t877 ≤ 8 then (if t878 = true then (if t877 < 8 then (some (!t879)) else (none)) else (some true)) else (none)) else (if t877 = 2 then (if t877 ≤ 8 then (if t878 = true then (if t877 < 8 then (some (!t879)) else (none)) else (some true)) else (none)) else (if t877 = 4 then (if t877 ≤ 8 then (if t878 = true then (if t877 < 8 then (some (!t879)) else (none)) else (some true)) else (none)) else (if t877 = 8 then (if t877 ≤ 8 then (if t878 = true then (if t877 < 8 then (some (!t879)) else (none)) else (some true)) else (none)) else (none))))) else (none)) else (if t869 = true then (if t876 = 127 then (if t877 = 1 then (if t877 ≤ 4 then (if t878 = true then (if t877 < 4 then (some (!t879)) else (none)) else (some true)) else (none)) else (if t877 = 2 then (if t877 ≤ 4 then (if t878 = true then (if t877 < 4 then (some (!t879)) else (none)) else (some true)) else (none)) else (if t877 = 4 then (if t877 ≤ 4 then (if t878 = true then (if t877 < 4 then (some (!t879)) else (none)) else (some true)) else (none)) else (if t877 = 8 then (if t877 ≤ 4 then (if t878 = true then (if t877 < 4 then (some (!t879)) else (none)) else (some true)) else (none)) else (none))))) else (none)) else (none)))) = some r := by rw [if_neg (show ¬ (false = true) by decide)] at H; exact H
    clear H
    have H := H1
    clear H1
    by_cases c24 : t877 = 0
    ·rw [if_pos c24] at H
     have c24b0 : (t877 == 0) = true := beq_iff_eq.mpr c24
     have c24b1 : (t877 != 0) = false := bne_eq_false_iff_eq.mpr c24
     clear c24
     by_cases c25 : t869 = true
     ·subst c25
      have H1 : (if t876 = 0 then (if t878 = true then (none) else (some (!t879))) else (none)) = some r := by rw [if_pos rfl] at H; exact H
      clear H
      have H := H1
      clear H1
      by_cases c26 : t876 = 0
      ·rw [if_pos c26] at H
       have c26b0 : (t876 == 0) = true := beq_iff_eq.mpr c26
       have c26b1 : (t876 != 0) = false := bne_eq_false_iff_eq.mpr c26
       clear c26
       by_cases c27 : t878 = true
       ·subst c27
        have H1 : (none) = some r := by rw [if_pos rfl] at H; exact H
        clear H
        have H := H1
        clear H1
        exact absurd H (by simp)
       ·replace c27 := Bool.eq_false_iff.mpr c27
        subst c27
        have H1 : (some (!t879)) = some r := by rw [if_neg (show ¬ (false = true) by decide)] at H; exact H
        clear H
        have H := H1
        clear H1
        obtain rfl := Option.some.inj H
        go_wp2
        go_ret
        exact ⟨er, bl⟩
      ·rw [if_neg c26] at H
       exact absurd H (by simp)
     ·replace c25 := Bool.eq_false_iff.mpr c25
      subst c25
      have H1 : (none) = some r := by rw [if_neg (show ¬ (false = true) by decide)] at H; exact H
      clear H
      have H := H1
      clear H1
      exact absurd H (by simp)
    ·rw [if_neg c24] at H
     have c24b0 : (t877 == 0) = false := beq_eq_false_iff_ne.mpr c24
     have c24b1 : (t877 != 0) = true := bne_iff_ne.mpr c24
     by_cases c28 : t876 = 126
     ·rw [if_pos c28] at H
      have c28b0 : (t876 == 126) = true := beq_iff_eq.mpr c28
      have c28b1 : (t876 != 126) = false := bne_eq_false_iff_eq.mpr c28
      clear c28
      by_cases c29 : t869 = true
      ·subst c29
       have H1 : (if t877 = 1 then (if t877 ≤ 8 then (if t878 = true then (if t877 < 8 then (some (!t879)) else (none)) else (some true)) else (none)) else (if t877 = 2 then (if t877 ≤ 8 then (if t878 = true then (if t877 < 8 then (some (!t879)) else (none)) else (some true)) else (none)) else (if t877 = 4 then (if t877 ≤ 8 then (if t878 = true then (if t877 < 8 then (some (!t879)) else (none)) else (some true)) else (none)) else (if t877 = 8 then (if t877 ≤ 8 then (if t878 = true then (if t877 < 8 then (some (!t879)) else (none)) else (some true)) else (none)) else (none))))) = some r := by rw [if_pos rfl] at H; exact H
       clear H
       have H := H1
       clear H1
       by_cases c30 : t877 = 1
       ·rw [if_pos c30] at H
        have c30b0 : (t877 == 1) = true := beq_iff_eq.mpr c30
        have c30b1 : (t877 != 1) = false := bne_eq_false_iff_eq.mpr c30
        clear c30
        by_cases c31 : t877 ≤ 8
        ·rw [if_pos c31] at H
         have c31b0 : decide (t877 ≤ 8) = true := decide_eq_true c31
         clear c31
         by_cases c32 : t878 = true
         ·subst c32
          have H1 : (if t877 < 8 then (some (!t879)) else (none)) = some r := by rw [if_pos rfl] at H; exact H
          clear H
          have H := H1
          clear H1
          by_cases c33 : t877 < 8
          ·rw [if_pos c33] at H
           have c33b0 : decide (t877 < 8) = true := decide_eq_true c33
           clear c33
           obtain rfl := Option.some.inj H
           go_wp2
           go_ret
           exact ⟨er, bl⟩
          ·rw [if_neg c33] at H
           exact absurd H (by simp)
         ·replace c32 := Bool.eq_false_iff.mpr c32
          subst c32
          have H1 : (some true) = some r := by rw [if_neg (show ¬ (false = true) by decide)] at H; exact H
          clear H
          have H := H1
          clear H1
          obtain rfl := Option.some.inj H
          go_wp2
          go_ret
          exact ⟨er, bl⟩
        ·rw [if_neg c31] at H
         exact absurd H (by simp)
       ·rw [if_neg c30] at H
        have c30b0 : (t877 == 1) = false := beq_eq_false_iff_ne.mpr c30
        have c30b1 : (t877 != 1) = true := bne_iff_ne.mpr c30
        by_cases c34 : t877 = 2
        ·rw [if_pos c34] at H
         have c34b0 : (t877 == 2) = true := beq_iff_eq.mpr c34
         have c34b1 : (t877 != 2) = false := bne_eq_false_iff_eq.mpr c34
         clear c34
         by_cases c35 : t877 ≤ 8
         ·rw [if_pos c35] at H
          have c35b0 : decide (t877 ≤ 8) = true := decide_eq_true c35
          clear c35
          by_cases c36 : t878 = true
          ·subst c36
           have H1 : (if t877 < 8 then (some (!t879)) else (none)) = some r := by rw [if_pos rfl] at H; exact H
           clear H
           have H := H1
           clear H1
           by_cases c37 : t877 < 8
           ·rw [if_pos c37] at H
            have c37b0 : decide (t877 < 8) = true := decide_eq_true c37
            clear c37
            obtain rfl := Option.some.inj H
            go_wp2
            go_ret
            exact ⟨er, bl⟩
           ·rw [if_neg c37] at H
            exact absurd H (by simp)
          ·replace c36 := Bool.eq_false_iff.mpr c36
           subst c36
           have H1 : (some true) = some r := by rw [if_neg (show ¬ (false = true) by decide)] at H; exact H
           clear H
           have H := H1
           clear H1
           obtain rfl := Option.some.inj H
           go_wp2
           go_ret
           exact ⟨er, bl⟩
         ·rw [if_neg c35] at H
          exact absurd H (by simp)
        ·rw [if_neg c34] at H
         have c34b0 : (t877 == 2) = false := beq_eq_false_iff_ne.mpr c34
         have c34b1 : (t877 != 2) = true := bne_iff_ne.mpr c34
         by_cases c38 : t877 = 4
         ·rw [if_pos c38] at H
          have c38b0 : (t877 == 4) = true := beq_iff_eq.mpr c38
          have c38b1 : (t877 != 4) = false := bne_eq_false_iff_eq.mpr c38
          clear c38
          by_cases c39 : t877 ≤ 8
          ·rw [if_pos c39] at H
           have c39b0 : decide (t877 ≤ 8) = true := decide_eq_true c39
           clear c39
           by_cases c40 : t878 = true
           ·subst c40
            have H1 : (if t877 < 8 then (some (!t879)) else (none)) = some r := by rw [if_pos rfl] at H; exact H
            clear H
            have H := H1
            clear H1
            by_cases c41 : t877 < 8
            ·rw [if_pos c41] at H
             have c41b0 : decide (t877 < 8) = true := decide_eq_true c41
             clear c41
             obtain rfl := Option.some.inj H
             go_wp2
             go_ret
             exact ⟨er, bl⟩
            ·rw [if_neg c41] at H
             exact absurd H (by simp)
           ·replace c40 := Bool.eq_false_iff.mpr c40
            subst c40
            have H1 : (some true) = some r := by rw [if_neg (show ¬ (false = true) by decide)] at H; exact H
            clear H
            have H := H1
            clear H1
            obtain rfl := Option.some.inj H
            go_wp2
            go_ret
            exact ⟨er, bl⟩
          ·rw [if_neg c39] at H
           exact absurd H (by simp)
         ·rw [if_neg c38] at H
          have c38b0 : (t877 == 4) = false := beq_eq_false_iff_ne.mpr c38
          have c38b1 : (t877 != 4) = true := bne_iff_ne.mpr c38
          by_cases c42 : t877 = 8
          ·rw [if_pos c42] at H
           have c42b0 : (t877 == 8) = true := beq_iff_eq.mpr c42
           have c42b1 : (t877 != 8) = false := bne_eq_false_iff_eq.mpr c42
           clear c42
           by_cases c43 : t877 ≤ 8
           ·rw [if_pos c43] at H
            have c43b0 : decide (t877 ≤ 8) = true := decide_eq_true c43
            clear c43
            by_cases c44 : t878 = true
            ·subst c44
             have H1 : (if t877 < 8 then (some (!t879)) else (none)) = some r := by rw [if_pos rfl] at H; exact H
             clear H
             have H := H1
             clear H1
             by_cases c45 : t877 < 8
             ·rw [if_pos c45] at H
              have c45b0 : decide (t877 < 8) = true := decide_eq_true c45
              clear c45
              obtain rfl := Option.some.inj H
              go_wp2
              go_ret
              exact ⟨er, bl⟩
             ·rw [if_neg c45] at H
              exact absurd H (by simp)
            ·replace c44 := Bool.eq_false_iff.mpr c44
             subst c44
             have H1 : (some true) = some r := by rw [if_neg (show ¬ (false = true) by decide)] at H; exact H
             clear H
             have H := H1
             clear H1
             obtain rfl := Option.some.inj H
             go_wp2
             go_ret
             exact ⟨er, bl⟩
           ·rw [if_neg c43] at H
            exact absurd H (by simp)
          ·rw [if_neg c42] at H
           exact absurd H (by simp)
      ·replace c29 := Bool.eq_false_iff.mpr c29
       subst c29
       have H1 : (none) = some r := by rw [if_neg (show ¬ (false = true) by decide)] at H; exact H
       clear H
       have H := H1
       clear H1
       exact absurd H (by simp)
     ·rw [if_neg c28] at H
      have c28b0 : (t876 == 126) = false := beq_eq_false_iff_ne.mpr c28
      have c28b1 : (t876 != 126) = true := bne_iff_ne.mpr c28
      by_cases c46 : t869 = true
      ·subst c46
       have H1 : (if t876 = 127 then (if t877 = 1 then (if t877 ≤ 4 then (if t878 = true then (if t877 < 4 then (some (!t879)) else (none)) else (some true)) else (none)) else (if t877 = 2 then (if t877 ≤ 4 then (if t878 = true then (if t877 < 4 then (some (!t879)) else (none)) else (some true)) else (none)) else (if t877 = 4 then (if t877 ≤ 4 then (if t878 = true then (if t877 < 4 then (some (!t879)) else (none)) else (some true)) else (none)) else (if t877 = 8 then (if t877 ≤ 4 then (if t878 = true then (if t877 < 4 then (some (!t879)) else (none)) else (some true)) else (none)) else (none))))) else (none)) = some r := by rw [if_pos rfl] at H; exact H
       clear H
       have H := H1
       clear H1
       by_cases c47 : t876 = 127
       ·rw [if_pos c47] at H
        have c47b0 : (t876 == 127) = true := beq_iff_eq.mpr c47
        have c47b1 : (t876 != 127) = false := bne_eq_false_iff_eq.mpr c47
        clear c47
        by_cases c48 : t877 = 1
        ·rw [if_pos c48] at H
         have c48b0 : (t877 == 1) = true := beq_iff_eq.mpr c48
         have c48b1 : (t877 != 1) = false := bne_eq_false_iff_eq.mpr c48
         clear c48
         by_cases c49 : t877 ≤ 4
         ·rw [if_pos c49] at H
          have c49b0 : decide (t877 ≤ 4) = true := decide_eq_true c49
          clear c49
          by_cases c50 : t878 = true
          ·subst c50
           have H1 : (if t877 < 4 then (some (!t879)) else (none)) = some r := by rw [if_pos rfl] at H; exact H
           clear H
           have H := H1
           clear H1
           by_cases c51 : t877 < 4
           ·rw [if_pos c51] at H
            have c51b0 : decide (t877 < 4) = true := decide_eq_true c51
            clear c51
            obtain rfl := Option.some.inj H
            go_wp2
            go_ret
            exact ⟨er, bl⟩
           ·rw [if_neg c51] at H
            exact absurd H (by simp)
          ·replace c50 := Bool.eq_false_iff.mpr c50
           subst c50
           have H1 : (some true) = some r := by rw [if_neg (show ¬ (false = true) by decide)] at H; exact H
           clear H
           have H := H1
           clear H1
           obtain rfl := Option.some.inj H
           go_wp2
           go_ret
           exact ⟨er, bl⟩
         ·rw [if_neg c49] at H
          exact absurd H (by simp)
        ·rw [if_neg c48] at H
         have c48b0 : (t877 == 1) = false := beq_eq_false_iff_ne.mpr c48
         have c48b1 : (t877 != 1) = true := bne_iff_ne.mpr c48
         by_cases c52 : t877 = 2
         ·rw [if_pos c52] at H
          have c52b0 : (t877 == 2) = true := beq_iff_eq.mpr c52
          have c52b1 : (t877 != 2) = false := bne_eq_false_iff_eq.mpr c52
          clear c52
          by_cases c53 : t877 ≤ 4
          ·rw [if_pos c53] at H
           have c53b0 : decide (t877 ≤ 4) = true := decide_eq_true c53
           clear c53
           by_cases c54 : t878 = true
           ·subst c54
            have H1 : (if t877 < 4 then (some (!t879)) else (none)) = some r := by rw [if_pos rfl] at H; exact H
            clear H
            have H := H1
            clear H1
            by_cases c55 : t877 < 4
            ·rw [if_pos c55] at H
             have c55b0 : decide (t877 < 4) = true := decide_eq_true c55
             clear c55
             obtain rfl := Option.some.inj H
             go_wp2
             go_ret
             exact ⟨er, bl⟩
            ·rw [if_neg c55] at H
             exact absurd H (by simp)
           ·replace c54 := Bool.eq_false_iff.mpr c54
            subst c54
            have H1 : (some true) = some r := by rw [if_neg (show ¬ (false = true) by decide)] at H; exact H
            clear H
            have H := H1
            clear H1
            obtain rfl := Option.some.inj H
            go_wp2
            go_ret
            exact ⟨er, bl⟩
          ·rw [if_neg c53] at H
           exact absurd H (by simp)
         ·rw [if_neg c52] at H
          have c52b0 : (t877 == 2) = false := beq_eq_false_iff_ne.mpr c52
          have c52b1 : (t877 != 2) = true := bne_iff_ne.mpr c52
          by_cases c56 : t877 = 4
          ·rw [if_pos c56] at H
           have c56b0 : (t877 == 4) = true := beq_iff_eq.mpr c56
           have c56b1 : (t877 != 4) = false := bne_eq_false_iff_eq.mpr c56
           clear c56
           by_cases c57 : t877 ≤ 4
           ·rw [if_pos c57] at H
            have c57b0 : decide (t877 ≤ 4) = true := decide_eq_true c57
            clear c57
            by_cases c58 : t878 = true
            ·subst c58
             have H1 : (if t877 < 4 then (some (!t879)) else (none)) = some r := by rw [if_pos rfl] at H; exact H
             clear H
             have H := H1
             clear H1
             by_cases c59 : t877 < 4
             ·rw [if_pos c59] at H
              have c59b0 : decide (t877 < 4) = true := decide_eq_true c59
              clear c59
              obtain rfl := Option.some.inj H
              go_wp2
              go_ret
              exact ⟨er, bl⟩
             ·rw [if_neg c59] at H
              exact absurd H (by simp)
            ·replace c58 := Bool.eq_false_iff.mpr c58
             subst c58
             have H1 : (some true) = some r := by rw [if_neg (show ¬ (false = true) by decide)] at H; exact H
             clear H
             have H := H1
             clear H1
             obtain rfl := Option.some.inj H
             go_wp2
             go_ret
             exact ⟨er, bl⟩
           ·rw [if_neg c57] at H
            exact absurd H (by simp)
          ·rw [if_neg c56] at H
           have c56b0 : (t877 == 4) = false := beq_eq_false_iff_ne.mpr c56
           have c56b1 : (t877 != 4) = true := bne_iff_ne.mpr c56
           by_cases c60 : t877 = 8
           ·rw [if_pos c60] at H
            have c60b0 : (t877 == 8) = true := beq_iff_eq.mpr c60
            have c60b1 : (t877 != 8) = false := bne_eq_false_iff_eq.mpr c60
            clear c60
            by_cases c61 : t877 ≤ 4
            ·rw [if_pos c61] at H
             have c61b0 : decide (t877 ≤ 4) = true := decide_eq_true c61
             clear c61
             by_cases c62 : t878 = true
             ·subst c62
              have H1 : (if t877 < 4 then (some (!t879)) else (none)) = some r := by rw [if_pos rfl] at H; exact H
              clear H
              have H := H1
              clear H1
              by_cases c63 : t877 < 4
              ·rw [if_pos c63] at H
               have c63b0 : decide (t877 < 4) = true := decide_eq_true c63
               clear c63
               obtain rfl := Option.some.inj H
               go_wp2
               go_ret
               exact ⟨er, bl⟩
              ·rw [if_neg c63] at H
               exact absurd H (by simp)
             ·replace c62 := Bool.eq_false_iff.mpr c62
              subst c62
              have H1 : (some true) = some r := by rw [if_neg (show ¬ (false = true) by decide)] at H; exact H
              clear H
              have H := H1
              clear H1
              obtain rfl := Option.some.inj H
              go_wp2
              go_ret
              exact ⟨er, bl⟩
            ·rw [if_neg c61] at H
             exact absurd H (by simp)
           ·rw [if_neg c60] at H
            exact absurd H (by simp)
       ·rw [if_neg c47] at H
        exact absurd H (by simp)
      ·replace c46 := Bool.eq_false_iff.mpr c46
       subst c46
       have H1 : (none) = some r := by rw [if_neg (show ¬ (false = true) by decide)] at H; exact H
       clear H
       have H := H1
       clear H1
       exact absurd H (by simp)

end Go.Proofs.YtklnkkejkeelaaaDoor.X
