-- Printed by xprint, a tool of this work; Lean checks it.
import Derived.Test.YtklnkkejkeelaaaDoorXx0
import Derived.Test.YtklnkkejkeelaaaDoorXx2
import Derived.Test.YtklnkkejkeelaaaDoorXx3
namespace Go.Proofs.YtklnkkejkeelaaaDoor.X
open Go.RowKit Go.Proofs.YtklnkkejkeelaaaDoorW.PrintWords Go.Proofs.YtklnkkejkeelaaaDoorW.PrintLast Go.Proofs.YtklnkkejkeelaaaDoorW.PrintMore
attribute [local go_sem] max2_int min2_int max_two min_two max_three min_three max_four min_four   -- for this text's walks alone
set_option linter.unusedVariables false
set_option linter.unusedSimpArgs false

/-! ### instr_Put: function 24 -/
mutual
def instr_Put.j0 : Nat → List Int → Bool → Int → Int → Int → Int → List Int → Option (List Int × Int)
 | 0, _, _, _, _, _, _, _ => none
 | k + 1, x0, x11, x286000, x286001, x286002, x286003, x286004 => if x11 = true then (some (([] : List Int), 1)) else ((bytes_Clone.f x0).bind fun t287 => ((some (([(x286000) % 256] : List Int) : List Int)).bind fun y290 => (if t287.length + y290.length < 140737488355328 then ((instr_Kind.f x286000).bind fun t296 => (instr_Put.j1 k (t287 ++ y290) t296 x286000 x286001 x286002 x286003 x286004)) else (none))))
def instr_Put.j1 : Nat → List Int → Int → Int → Int → Int → Int → List Int → Option (List Int × Int)
 | 0, _, _, _, _, _, _, _ => none
 | k + 1, x6, x21, x286000, x286001, x286002, x286003, x286004 => if x21 = 2 then ((some (([(mx x286001 64) % 256] : List Int) : List Int)).bind fun y297 => (if x6.length + y297.length < 140737488355328 then (some ((x6 ++ y297), 0)) else (none))) else (if x21 = 4 then ((leb_U.f k x6 (IntKind.u64.wrap ((x286004.length : Int)))).bind fun t303 => (instr_Put.l0 k t303 x286004 (x286004.length : Int) 0 x286000 x286001 x286002 x286003 x286004)) else (if x21 = 3 then ((leb_U.f k x6 (IntKind.u64.wrap (x286001))).bind fun t313 => (some (t313, 0))) else (if x21 = 5 then ((leb_U.f k x6 (IntKind.u64.wrap (x286001))).bind fun t316 => ((some (([0] : List Int) : List Int)).bind fun y319 => (if t316.length + y319.length < 140737488355328 then (some ((t316 ++ y319), 0)) else (none)))) else (if x21 = 6 then ((leb_U.f k x6 (IntKind.u64.wrap (x286001))).bind fun t325 => ((leb_U.f k t325 (IntKind.u64.wrap (x286002))).bind fun t328 => (some (t328, 0)))) else (if x21 = 7 then ((some (([0] : List Int) : List Int)).bind fun y331 => (if x6.length + y331.length < 140737488355328 then (some ((x6 ++ y331), 0)) else (none))) else (if x21 = 8 then ((leb_S.f k x6 (wrap64 (wrap32 (x286003)))).bind fun t337 => (some (t337, 0))) else (if x21 = 9 then ((leb_S.f k x6 (wrap64 (x286003))).bind fun t340 => (some (t340, 0))) else (some (x6, 0)))))))))
def instr_Put.l0 : Nat → List Int → List Int → Int → Int → Int → Int → Int → Int → List Int → Option (List Int × Int)
 | 0, _, _, _, _, _, _, _, _, _ => none
 | k + 1, x6, x40, x41, x42, x286000, x286001, x286002, x286003, x286004 => if x42 < x41 then (if 0 ≤ x42 then (if x42 < (x40.length : Int) then ((leb_U.f k x6 (IntKind.u64.wrap (rd x40 x42))).bind fun t307 => (instr_Put.l0 k t307 x40 x41 (wrap64 (x42 + 1)) x286000 x286001 x286002 x286003 x286004)) else (none)) else (none)) else ((leb_U.f k x6 (IntKind.u64.wrap (x286001))).bind fun t310 => (some (t310, 0)))
end
def instr_Put.f (k : Nat) (l0 : List Int) (a1_0 : Int) (a1_1 : Int) (a1_2 : Int) (a1_3 : Int) (l1_4 : List Int) : Option (List Int × Int) := (instr_Sane.f k a1_0 a1_1 a1_2 a1_3 l1_4).bind fun t286 => (instr_Put.j0 k l0 (!t286) a1_0 a1_1 a1_2 a1_3 l1_4)
theorem instr_Put.mono_l : ∀ k, (∀ y0 y1 y2 y3 y4 y5 y6, LeO (instr_Put.j0 k y0 y1 y2 y3 y4 y5 y6) (instr_Put.j0 (k + 1) y0 y1 y2 y3 y4 y5 y6)) ∧ (∀ y0 y1 y2 y3 y4 y5 y6, LeO (instr_Put.j1 k y0 y1 y2 y3 y4 y5 y6) (instr_Put.j1 (k + 1) y0 y1 y2 y3 y4 y5 y6)) ∧ (∀ y0 y1 y2 y3 y4 y5 y6 y7 y8, LeO (instr_Put.l0 k y0 y1 y2 y3 y4 y5 y6 y7 y8) (instr_Put.l0 (k + 1) y0 y1 y2 y3 y4 y5 y6 y7 y8))
 | 0 => ⟨fun _ _ _ _ _ _ _ r h => by simp [instr_Put.j0] at h, fun _ _ _ _ _ _ _ r h => by simp [instr_Put.j1] at h, fun _ _ _ _ _ _ _ _ _ r h => by simp [instr_Put.l0] at h⟩
 | k + 1 => by
  obtain ⟨ih0, ih1, ih2⟩ := instr_Put.mono_l k
  refine ⟨?_, ?_, ?_⟩
  ·intro y0 y1 y2 y3 y4 y5 y6
   unfold instr_Put.j0
   repeat' first
   | (with_reducible exact ih0 _ _ _ _ _ _ _)
   | (with_reducible exact ih1 _ _ _ _ _ _ _)
   | (with_reducible exact ih2 _ _ _ _ _ _ _ _ _)
   | (with_reducible exact instr_Sane.mono _ _ _ _ _ _)
   | (with_reducible exact leb_S.mono _ _ _)
   | (with_reducible exact leb_U.mono _ _ _)
   | (with_reducible exact LeO.refl _)
   | (with_reducible exact LeO.none _)
   | (with_reducible refine LeO.ite ?_ ?_)
   | (with_reducible refine LeO.bind ?_ (fun _ => ?_))
   | exact ih0 _ _ _ _ _ _ _
   | exact ih1 _ _ _ _ _ _ _
   | exact ih2 _ _ _ _ _ _ _ _ _
   | exact instr_Sane.mono _ _ _ _ _ _
   | exact leb_S.mono _ _ _
   | exact leb_U.mono _ _ _
   | exact LeO.none _
   | refine LeO.ite ?_ ?_
   | refine LeO.bind ?_ (fun _ => ?_)
  ·intro y0 y1 y2 y3 y4 y5 y6
   unfold instr_Put.j1
   repeat' first
   | (with_reducible exact ih0 _ _ _ _ _ _ _)
   | (with_reducible exact ih1 _ _ _ _ _ _ _)
   | (with_reducible exact ih2 _ _ _ _ _ _ _ _ _)
   | (with_reducible exact instr_Sane.mono _ _ _ _ _ _)
   | (with_reducible exact leb_S.mono _ _ _)
   | (with_reducible exact leb_U.mono _ _ _)
   | (with_reducible exact LeO.refl _)
   | (with_reducible exact LeO.none _)
   | (with_reducible refine LeO.ite ?_ ?_)
   | (with_reducible refine LeO.bind ?_ (fun _ => ?_))
   | exact ih0 _ _ _ _ _ _ _
   | exact ih1 _ _ _ _ _ _ _
   | exact ih2 _ _ _ _ _ _ _ _ _
   | exact instr_Sane.mono _ _ _ _ _ _
   | exact leb_S.mono _ _ _
   | exact leb_U.mono _ _ _
   | exact LeO.none _
   | refine LeO.ite ?_ ?_
   | refine LeO.bind ?_ (fun _ => ?_)
  ·intro y0 y1 y2 y3 y4 y5 y6 y7 y8
   unfold instr_Put.l0
   repeat' first
   | (with_reducible exact ih0 _ _ _ _ _ _ _)
   | (with_reducible exact ih1 _ _ _ _ _ _ _)
   | (with_reducible exact ih2 _ _ _ _ _ _ _ _ _)
   | (with_reducible exact instr_Sane.mono _ _ _ _ _ _)
   | (with_reducible exact leb_S.mono _ _ _)
   | (with_reducible exact leb_U.mono _ _ _)
   | (with_reducible exact LeO.refl _)
   | (with_reducible exact LeO.none _)
   | (with_reducible refine LeO.ite ?_ ?_)
   | (with_reducible refine LeO.bind ?_ (fun _ => ?_))
   | exact ih0 _ _ _ _ _ _ _
   | exact ih1 _ _ _ _ _ _ _
   | exact ih2 _ _ _ _ _ _ _ _ _
   | exact instr_Sane.mono _ _ _ _ _ _
   | exact leb_S.mono _ _ _
   | exact leb_U.mono _ _ _
   | exact LeO.none _
   | refine LeO.ite ?_ ?_
   | refine LeO.bind ?_ (fun _ => ?_)
theorem instr_Put.mono : ∀ a0 a1 a2 a3 a4 a5 k, LeO (instr_Put.f k a0 a1 a2 a3 a4 a5) (instr_Put.f (k + 1) a0 a1 a2 a3 a4 a5) := by
 intro a0 a1 a2 a3 a4 a5 k
 obtain ⟨ih0, ih1, ih2⟩ := instr_Put.mono_l k
 unfold instr_Put.f
 repeat' first
   | (with_reducible exact ih0 _ _ _ _ _ _ _)
   | (with_reducible exact ih1 _ _ _ _ _ _ _)
   | (with_reducible exact ih2 _ _ _ _ _ _ _ _ _)
   | (with_reducible exact instr_Sane.mono _ _ _ _ _ _)
   | (with_reducible exact leb_S.mono _ _ _)
   | (with_reducible exact leb_U.mono _ _ _)
   | (with_reducible exact LeO.refl _)
   | (with_reducible exact LeO.none _)
   | (with_reducible refine LeO.ite ?_ ?_)
   | (with_reducible refine LeO.bind ?_ (fun _ => ?_))
   | exact ih0 _ _ _ _ _ _ _
   | exact ih1 _ _ _ _ _ _ _
   | exact ih2 _ _ _ _ _ _ _ _ _
   | exact instr_Sane.mono _ _ _ _ _ _
   | exact leb_S.mono _ _ _
   | exact leb_U.mono _ _ _
   | exact LeO.none _
   | refine LeO.ite ?_ ?_
   | refine LeO.bind ?_ (fun _ => ?_)
def instr_Put.T3 : Bool × List (List Nat × List Nat) := (true, [([], []), ([0], [0]), ([], []), ([2], [2]), ([3], [3]), ([4], [4]), ([1, 5, 1], [1, 5]), ([6, 6, 0, 1, 2, 3, 4, 5, 6], [6])])
def instr_Put.B3 : List Nat := [0, 1, 0, 4, 12, 28, 63, 127]
theorem instr_Put.tab3 : rtab .any (opsOf Tryd.f24 3) = instr_Put.T3 := by kernel_rfl
theorem instr_Put.bits3 : waitsOk instr_Put.T3.2 instr_Put.B3 = true := by kernel_rfl
def instr_Put.T20 : Bool × List (List Nat × List Nat) := (true, [([], []), ([], []), ([1], [1]), ([2], [2]), ([0, 3], [0, 3]), ([], []), ([5], [5]), ([6], [6]), ([4, 7, 4], [4, 7]), ([8, 8, 0, 1, 2, 3, 4, 5, 6, 7, 8], [8]), ([9, 0, 1, 2, 3, 4, 5, 6, 7, 8, 9], [])])
def instr_Put.B20 : List Nat := [0, 0, 2, 6, 15, 0, 32, 96, 255, 511, 1023]
theorem instr_Put.tab20 : rtab .any (opsOf Tryd.f24 20) = instr_Put.T20 := by kernel_rfl
theorem instr_Put.bits20 : waitsOk instr_Put.T20.2 instr_Put.B20 = true := by kernel_rfl
set_option maxHeartbeats 8000000 in
set_option maxRecDepth 100000 in
theorem instr_Put.calls (k : Nat) (A0 : Option Addr) (c0 : Nat) (l0 : List Int) (a1_0 : Int) (a1_1 : Int) (a1_2 : Int) (a1_3 : Int) (A1_4 : Option Addr) (c1_4 : Nat) (l1_4 : List Int) (r1 : List Int) (r2 : Int) (w : World) (hG : Glob w) (hr0 : Kd.C (Kd.int .u8) w A0 l0.length l0) (hc0 : l0.length ≤ c0) (hr1_4 : Kd.C (Kd.int .i64) w A1_4 l1_4.length l1_4) (hc1_4 : l1_4.length ≤ c1_4) (h : instr_Put.f k l0 a1_0 a1_1 a1_2 a1_3 l1_4 = some (r1, r2)) :
  Calls Tryd.prog 24 #[.slice A0 l0.length c0, .agg #[.int .i64 a1_0, .int .i64 a1_1, .int .i64 a1_2, .int .u64 a1_3, .slice A1_4 l1_4.length c1_4]] w fun e w' => ∃ v0_ : Value, e = .returned (.tuple #[v0_, .int .i64 r2]) ∧ Kd.R (Kd.int .u8) 5 w' w.heap.size (fun _ => True) v0_ r1 ∧ Below w.heap.size w w' := by
 have hu33 := Tryd.underlying33
 have HG := Aside0.mk hG
 clear hG
 have HR0 := Aside0.mk hr0
 have HC0 := Aside0.mk hc0
 clear hr0 hc0
 have HR1_4 := Aside0.mk hr1_4
 have HC1_4 := Aside0.mk hc1_4
 clear hr1_4 hc1_4
 have HB := Aside0.mk (Below.refl w.heap.size w)
 have H : ((instr_Sane.f k a1_0 a1_1 a1_2 a1_3 l1_4).bind fun t286 => (instr_Put.j0 k l0 (!t286) a1_0 a1_1 a1_2 a1_3 l1_4)) = some (r1, r2) := h
 clear h
 have HC3 := Aside0.mk H
 clear H
 go_enter Tryd.func24, Tryd.ntmps24
 go_upto_region 1 with (first | ((with_reducible refine gate_dst (N := 3) rfl ?_); refine box_event ?hg (N := 3) ?hd (cs := #[.int .i64 a1_0, .int .i64 a1_1, .int .i64 a1_2, .int .u64 a1_3, .slice A1_4 l1_4.length c1_4]) (t := 33) ?hr ?_; (case hd => rfl); (case hg => rfl); (case hr => first | (go_simp; done) | (go_simp; rfl)); intro gb285 hg w4 hbox hb; have n0_ := Aside0.mk (below_step bl hb); have n1_ := Aside0.mk (hbox); have n2_ := Aside0.mk ((by rw [hg]; exact (below_size bl) : w.heap.size ≤ gb285)); have n3_ := Aside0.mk ((by rw [hg]; exact (below_size bl) : w.heap.size ≤ gb285)); clear HB; have HB := n0_; have BK285 := n1_; have GW285 := n2_; have GE285 := n3_; clear n0_ n1_ n2_ n3_; clear hb hbox hg))
 (try simp only [Act.put, List.setIfInBounds_toArray, List.set_cons_zero, List.set_cons_succ])
 go_cut [11] (fun v11 wc => ∃ (kq : Nat) (x11_2 : Bool), v11 = .bool x11_2 ∧ Aside0 (instr_Put.j0 kq l0 x11_2 a1_0 a1_1 a1_2 a1_3 l1_4 = some (r1, r2)) ∧ Aside0 (kq ≤ k) ∧ Aside0 (wc.heap[gb285]? = some (.cells #[.int .i64 a1_0, .int .i64 a1_1, .int .i64 a1_2, .int .u64 a1_3, (.slice A1_4 l1_4.length c1_4)] 33 (0, 0))) ∧ Aside0 (Below w.heap.size w wc))
 case first =>
  have H := HC3.out
  clear HC3
  replace H := Option.bind_eq_some_iff.mp H
  obtain ⟨t286, A50, H⟩ := H
  replace H : (instr_Put.j0 k l0 (!t286) a1_0 a1_1 a1_2 a1_3 l1_4) = some (r1, r2) := H
  have A5 := Aside0.mk A50
  clear A50
  have H' := Aside0.mk H
  clear H
  obtain ⟨hcz6_0, hcz6_1, hcz6_2, hcz6_3, hcz6_4⟩ := cells5 BK285.out
  obtain ⟨hfz6_0, hfz6_1, hfz6_2, hfz6_3, hfz6_4⟩ := froz5 BK285.out
  go_wp2_with (first | ((with_reducible refine gate_callee (f := 25) rfl ?_); refine goesL_ (some 10) rfl rfl Tryd.func25 (by kernel_rfl) rfl #[.agg #[.int .i64 a1_0, .int .i64 a1_1, .int .i64 a1_2, .int .u64 a1_3, .slice A1_4 l1_4.length c1_4]] rfl am ?_; (with_reducible refine (instr_Sane.calls k a1_0 a1_1 a1_2 a1_3 _ _ l1_4 t286 _ ?side1 ?side2 ?side3 A5.out).mono ?_); (case side1 => exact Glob.below HG.out blx); (case side2 => exact ca HR1_4 HB); (case side3 => exact HC1_4.out); rintro e w7 ⟨rfl, hb⟩; refine ⟨_, rfl, ?_⟩; have n0_ := Aside0.mk (blk_below (bk BK285) hb); have n1_ := Aside0.mk (below_step blx hb); clear BK285; clear HB; have BK285 := n0_; have HB := n1_; clear n0_ n1_; (try clear hb); (try clear hb2); (try clear hk); (try clear hi)))
  go_meet
  case rel => exact ⟨_, (!t286), rs, H', ⟨by first | omega | exact Nat.le_refl _⟩, ⟨by (with_reducible repeat (first | refine blk_drewN ?_ _ | refine blk_drew ?_ | refine blk_alloc ?_ _)); exact BK285.out⟩, ⟨by repeat (first | (with_reducible first | exact HB.out | apply below_alloc | apply pw_below_drewN | apply below_drew1 | refine below_set ?_ GE285.out) | exact HB.out)⟩⟩
 case rest =>
  clear HC3
  (try clear c1); (try clear c2); (try clear p2); (try clear hcz6_0); (try clear hcz6_1); (try clear hcz6_2); (try clear hcz6_3); (try clear hcz6_4); (try clear hfz6_0); (try clear hfz6_1); (try clear hfz6_2); (try clear hfz6_3); (try clear hfz6_4)
  obtain ⟨kq, x11_2, rfl, HA, HJ2, BK285, HB⟩ := hcut
  cases kq with
  | zero => exact absurd HA.out (by simp [instr_Put.j0])
  | succ kj2 =>
   have H := HA.out
   clear HA
   simp only [instr_Put.j0] at H
   by_cases c8 : x11_2 = true
   ·subst c8
    have H1 : (some (([] : List Int), 1)) = some (r1, r2) := by rw [if_pos rfl] at H; exact H
    clear H
    have H := H1
    clear H1
    simp only [Option.some.injEq, Prod.mk.injEq] at H
    obtain ⟨rfl, rfl⟩ := H
    go_wp2
    go_ret2
    exact ⟨_, er, by first | exact Kd.R_nil _ _ _ _ _ | exact Kd.N_nil _ _ _ _ _ | exact Kd.V_nil _ _ _ _ _ | exact Kd.Q_nil _ _ _ _ _ | exact Kd.S_nil _ _ _ _ _, by repeat (first | (with_reducible first | exact HB.out | apply below_alloc | apply pw_below_drewN | apply below_drew1 | refine below_set ?_ GE285.out) | exact HB.out)⟩
   ·replace c8 := Bool.eq_false_iff.mpr c8
    subst c8
    have H1 : ((bytes_Clone.f l0).bind fun t287 => ((some (([(a1_0) % 256] : List Int) : List Int)).bind fun y290 => (if t287.length + y290.length < 140737488355328 then ((instr_Kind.f a1_0).bind fun t296 => (instr_Put.j1 kj2 (t287 ++ y290) t296 a1_0 a1_1 a1_2 a1_3 l1_4)) else (none)))) = some (r1, r2) := by rw [if_neg (show ¬ (false = true) by decide)] at H; exact H
    clear H
    have H := H1
    clear H1
    replace H := Option.bind_eq_some_iff.mp H
    obtain ⟨t287, A90, H⟩ := H
    replace H : ((some (([(a1_0) % 256] : List Int) : List Int)).bind fun y290 => (if t287.length + y290.length < 140737488355328 then ((instr_Kind.f a1_0).bind fun t296 => (instr_Put.j1 kj2 (t287 ++ y290) t296 a1_0 a1_1 a1_2 a1_3 l1_4)) else (none))) = some (r1, r2) := H
    have A9 := Aside0.mk A90
    clear A90
    obtain ⟨y290, hy290⟩ : ∃ y_ : List Int, y_ = (([(a1_0) % 256] : List Int)) := ⟨_, rfl⟩
    replace H : (if t287.length + y290.length < 140737488355328 then ((instr_Kind.f a1_0).bind fun t296 => (instr_Put.j1 kj2 (t287 ++ y290) t296 a1_0 a1_1 a1_2 a1_3 l1_4)) else (none)) = some (r1, r2) := by first | (rw [hy290]; with_reducible exact H) | (have H2_ := (Option.bind_some _ _).symm.trans H; rw [hy290]; with_reducible exact H2_) | (have H2_ := (Option.bind_some _ _).symm.trans H; with_reducible exact H2_) | with_reducible exact H | (rw [hy290]; exact H) | exact H
    have Ny290 := Aside0.mk hy290
    clear hy290
    by_cases c10 : t287.length + y290.length < 140737488355328
    ·rw [if_pos c10] at H
     have LMc10 := Aside0.mk c10
     clear c10
     obtain ⟨y293, hy293⟩ : ∃ y_ : List Int, y_ = (t287 ++ y290) := ⟨_, rfl⟩
     replace H : ((instr_Kind.f a1_0).bind fun t296 => (instr_Put.j1 kj2 y293 t296 a1_0 a1_1 a1_2 a1_3 l1_4)) = some (r1, r2) := by first | (rw [hy293]; with_reducible exact H) | (have H2_ := (Option.bind_some _ _).symm.trans H; rw [hy293]; with_reducible exact H2_) | (have H2_ := (Option.bind_some _ _).symm.trans H; with_reducible exact H2_) | with_reducible exact H | (rw [hy293]; exact H) | exact H
     have Ny293 := Aside0.mk hy293
     clear hy293
     have HC11 := Aside0.mk H
     clear H
     try go_wp2
     have n0_ := Aside0.mk (blk_drew BK285.out)
     have n1_ := Aside0.mk (below_drew1 HB.out)
     clear BK285
     clear HB
     have BK285 := n0_
     have HB := n1_
     clear n0_ n1_
     refine start_ (n := 8) (S := fun w' => w'.cell? ⟨gb285, 0, none⟩ = some (.int .i64 a1_0) ∧ w'.cell? ⟨gb285, 1, none⟩ = some (.int .i64 a1_1) ∧ w'.cell? ⟨gb285, 2, none⟩ = some (.int .i64 a1_2) ∧ w'.cell? ⟨gb285, 3, none⟩ = some (.int .u64 a1_3) ∧ w'.cell? ⟨gb285, 4, none⟩ = some (.slice A1_4 l1_4.length c1_4)) (ds := []) #[false, false, false, false, false, false, false, false] (by kernel_rfl) rfl rfl ⟨(blk_cell BK285.out 0).trans rfl, (blk_cell BK285.out 1).trans rfl, (blk_cell BK285.out 2).trans rfl, (blk_cell BK285.out 3).trans rfl, (blk_cell BK285.out 4).trans rfl⟩ (fun hHeld => ?_); refine with_tabW instr_Put.tab3 instr_Put.bits3 (fun HT_ HW_ => ?_)
     generalize wc.drew = w12 at BK285 HB hHeld ⊢
     refine pure_ (i := 0) (N := some 12) (v := ?_) (a' := ?_) #[true, false, false, false, false, false, false, false] rfl rfl (any_of HT_.out (by kernel_rfl)) (fun _ _ _ h => h) (Or.inl ⟨by rfl, ?_⟩) ?_ ?_
     rotate_left
     ·intro w'
      go_simp
      with_reducible rfl
     rotate_left
     ·simp only [Act.put, List.setIfInBounds_toArray, List.set_cons_zero, List.set_cons_succ, i64_w, i32_w]
      rfl
     refine pure_ (i := 2) (N := some 14) (v := ?_) (a' := ?_) #[true, false, true, false, false, false, false, false] rfl rfl (any_of HT_.out (by kernel_rfl)) (fun _ _ _ h => h) (Or.inl ⟨by rfl, ?_⟩) ?_ ?_
     rotate_left
     ·intro w'
      go_simp
      with_reducible rfl
     rotate_left
     ·simp only [Act.put, List.setIfInBounds_toArray, List.set_cons_zero, List.set_cons_succ, i64_w, i32_w]
      rfl
     refine take_ (i := 3) (N := some 15) (v := ?_) (a' := ?_) #[true, false, true, true, false, false, false, false] rfl rfl (take_ofW HT_.out HW_.out (by kernel_rfl)) (fun _ _ _ h => h) (Or.inl ⟨by rfl, ?_⟩) hHeld ?_ ?_
     rotate_left
     ·rintro w' ⟨s0, s1, s2, s3, s4⟩
      go_simp
      with_reducible rfl
     rotate_left
     ·simp only [Act.put, List.setIfInBounds_toArray, List.set_cons_zero, List.set_cons_succ, i64_w, i32_w]
      rfl
     refine pure_ (i := 4) (N := some 16) (v := ?_) (a' := ?_) #[true, false, true, true, true, false, false, false] rfl rfl (any_of HT_.out (by kernel_rfl)) (fun _ _ _ h => h) (Or.inl ⟨by rfl, ?_⟩) ?_ ?_
     rotate_left
     ·intro w'
      go_simp
      with_reducible rfl
     rotate_left
     ·simp only [Act.put, List.setIfInBounds_toArray, List.set_cons_zero, List.set_cons_succ, i64_w, i32_w]
      rfl
     refine join_ (σ := Value × Value) 2 #[true, true, true, true, true, true, false, false] (fun s_ => [(13, s_.1), (17, s_.2)]) (fun s_ w' => (w'.cell? ⟨gb285, 0, none⟩ = some (.int .i64 a1_0) ∧ w'.cell? ⟨gb285, 1, none⟩ = some (.int .i64 a1_1) ∧ w'.cell? ⟨gb285, 2, none⟩ = some (.int .i64 a1_2) ∧ w'.cell? ⟨gb285, 3, none⟩ = some (.int .u64 a1_3) ∧ w'.cell? ⟨gb285, 4, none⟩ = some (.slice A1_4 l1_4.length c1_4)) ∧ (Kd.R (Kd.int .u8) 5 w' w.heap.size (fun k_ => some k_ ≠ (s_.2 : Value).ownBlock) s_.1 t287) ∧ (Kd.R (Kd.int .u8) 5 w' w.heap.size (fun k_ => some k_ ≠ (s_.1 : Value).ownBlock) s_.2 y290) ∧ (w'.heap[gb285]? = some (.cells #[.int .i64 a1_0, .int .i64 a1_1, .int .i64 a1_2, .int .u64 a1_3, .slice A1_4 l1_4.length c1_4] 33 (0, 0))) ∧ (Below w.heap.size w w')) ?_ ?_
     rotate_left
     ·intro hCont
      refine two_ (i := 1) (j := 5) (Ni := some 13) (Nj := some 17) #[true, true, true, true, true, false, false, false] #[true, false, true, true, true, true, false, false] rfl rfl rfl rfl (two_of HT_.out (by kernel_rfl)) (by decide) (by decide) (fun K hK => ?_) (fun K hK => ?_)
      ·skip
       refine goes_ Tryd.func57 (by kernel_rfl) rfl #[.slice A0 l0.length c0] (by rfl) rfl rfl am ?_
       with_reducible refine (bytes_Clone.calls _ _ l0 t287 _ ?side1 ?side2 A9.out).mono ?_
       (case side1 => exact ca HR0 HB)
       (case side2 => exact HC0.out)
       rintro e w13 ⟨v288, rfl, ho0, hb⟩
       refine ⟨_, rfl, ?_⟩
       have n0_ := Aside0.mk (Kd.R_lower ho0 (below_size blx))
       have n1_ := Aside0.mk (blk_below (bk BK285) hb)
       have n2_ := Aside0.mk (below_step blx hb)
       clear BK285
       clear HB
       have HO289 := n0_
       have BK285 := n1_
       have HB := n2_
       clear n0_ n1_ n2_
       (try clear hb)
       (try clear hb2)
       (try clear hk)
       (try clear hi)
       (try clear ho0)
       refine hK.out _ _ ⟨(blk_cell BK285.out 0).trans rfl, (blk_cell BK285.out 1).trans rfl, (blk_cell BK285.out 2).trans rfl, (blk_cell BK285.out 3).trans rfl, (blk_cell BK285.out 4).trans rfl⟩ (fun hHeld => ?_)
       clear hK K
       refine norm_ (a' := ?_) ?_ ?_
       rotate_left
       ·show Act.put _ (some 13) _ = _
        simp only [Act.put, List.setIfInBounds_toArray, List.set_cons_zero, List.set_cons_succ, i64_w, i32_w]
        rfl
       refine one_ (i := 5) (N := some 17) #[true, true, true, true, true, true, false, false] rfl rfl (one_of HT_.out (by kernel_rfl)) (by decide) (fun K hK => ?_)
       refine Kd.R_lit_step (Kd.int .u8) _ 5 ?hg (N := 17) ?hd (xs := ([(a1_0) % 256] : List Int)) (inner := [.int .u8 ((a1_0) % 256)]) (ok := fun _ => True) (okp := fun _ => True) ?hr ?hp (fun _ hk => hk) trivial (Below.refl _ _) (Nat.le_refl _) (by simp) ?_; (case hd => rfl); (case hg => rfl); (case hr => first | (go_simp; done) | (go_simp; rfl)); (case hp => exact (Reps.one (show Kd.M (Kd.int .u8) _ _ _ ((a1_0) % 256) [.int .u8 ((a1_0) % 256)] from rfl) (Reps.none _ _)))
       intro v291 w14 ho15 hb hg_ hnew_
       clear hg_ hnew_
       (first | rw [← Ny290.out] at ho15 | (simp only [Int.reduceToNat] at ho15; rw [← Ny290.out] at ho15))
       have n0_ := Aside0.mk (Kd.R_elder' (ra HO289) (Kd.R_base ho15) hb)
       have n1_ := Aside0.mk (Kd.R_lower (Kd.R_new' ho15 (Kd.R_lt (ra HO289))) (below_size blx))
       have n2_ := Aside0.mk (blk_below (bk BK285) hb)
       have n3_ := Aside0.mk (below_step blx hb)
       clear HO289
       clear BK285
       clear HB
       have HO289 := n0_
       have HO292 := n1_
       have BK285 := n2_
       have HB := n3_
       clear n0_ n1_ n2_ n3_
       clear hb ho15
       refine hK.out _ _ ⟨(blk_cell BK285.out 0).trans rfl, (blk_cell BK285.out 1).trans rfl, (blk_cell BK285.out 2).trans rfl, (blk_cell BK285.out 3).trans rfl, (blk_cell BK285.out 4).trans rfl⟩ (fun hHeld => ?_)
       clear hK K
       refine norm_ (a' := ?_) ?_ ?_
       rotate_left
       ·show Act.put _ (some 17) _ = _
        simp only [Act.put, List.setIfInBounds_toArray, List.set_cons_zero, List.set_cons_succ, i64_w, i32_w]
        rfl
       exact norm_ (by simp only [putAll, Act.put, List.setIfInBounds_toArray, List.set_cons_zero, List.set_cons_succ]) (hCont (v288, v291) _ ⟨hHeld, (by (with_reducible repeat (first | apply Kd.R_alloc | apply Kd.R_drewN | apply Kd.R_drew)); exact Kd.R_mono HO289.out (fun _ hk => hk.2)), (by (with_reducible repeat (first | apply Kd.R_alloc | apply Kd.R_drewN | apply Kd.R_drew)); exact Kd.R_mono HO292.out (fun _ hk => hk.2)), (bk BK285), blx⟩)
      ·skip
       refine Kd.R_lit_step (Kd.int .u8) _ 5 ?hg (N := 17) ?hd (xs := ([(a1_0) % 256] : List Int)) (inner := [.int .u8 ((a1_0) % 256)]) (ok := fun _ => True) (okp := fun _ => True) ?hr ?hp (fun _ hk => hk) trivial (Below.refl _ _) (Nat.le_refl _) (by simp) ?_; (case hd => rfl); (case hg => rfl); (case hr => first | (go_simp; done) | (go_simp; rfl)); (case hp => exact (Reps.one (show Kd.M (Kd.int .u8) _ _ _ ((a1_0) % 256) [.int .u8 ((a1_0) % 256)] from rfl) (Reps.none _ _)))
       intro v291 w13 ho14 hb hg_ hnew_
       clear hg_ hnew_
       (first | rw [← Ny290.out] at ho14 | (simp only [Int.reduceToNat] at ho14; rw [← Ny290.out] at ho14))
       have n0_ := Aside0.mk (Kd.R_lower ho14 (below_size blx))
       have n1_ := Aside0.mk (blk_below (bk BK285) hb)
       have n2_ := Aside0.mk (below_step blx hb)
       clear BK285
       clear HB
       have HO292 := n0_
       have BK285 := n1_
       have HB := n2_
       clear n0_ n1_ n2_
       clear hb ho14
       refine hK.out _ _ ⟨(blk_cell BK285.out 0).trans rfl, (blk_cell BK285.out 1).trans rfl, (blk_cell BK285.out 2).trans rfl, (blk_cell BK285.out 3).trans rfl, (blk_cell BK285.out 4).trans rfl⟩ (fun hHeld => ?_)
       clear hK K
       refine norm_ (a' := ?_) ?_ ?_
       rotate_left
       ·show Act.put _ (some 17) _ = _
        simp only [Act.put, List.setIfInBounds_toArray, List.set_cons_zero, List.set_cons_succ, i64_w, i32_w]
        rfl
       refine one_ (i := 1) (N := some 13) #[true, true, true, true, true, true, false, false] rfl rfl (one_of HT_.out (by kernel_rfl)) (by decide) (fun K hK => ?_)
       refine goes_ Tryd.func57 (by kernel_rfl) rfl #[.slice A0 l0.length c0] (by rfl) rfl rfl am ?_
       with_reducible refine (bytes_Clone.calls _ _ l0 t287 _ ?side1 ?side2 A9.out).mono ?_
       (case side1 => exact ca HR0 HB)
       (case side2 => exact HC0.out)
       rintro e w15 ⟨v288, rfl, ho0, hb⟩
       refine ⟨_, rfl, ?_⟩
       have n0_ := Aside0.mk (Kd.R_elder' (ra HO292) (Kd.R_base ho0) hb)
       have n1_ := Aside0.mk (Kd.R_lower (Kd.R_new' ho0 (Kd.R_lt (ra HO292))) (below_size blx))
       have n2_ := Aside0.mk (blk_below (bk BK285) hb)
       have n3_ := Aside0.mk (below_step blx hb)
       clear HO292
       clear BK285
       clear HB
       have HO292 := n0_
       have HO289 := n1_
       have BK285 := n2_
       have HB := n3_
       clear n0_ n1_ n2_ n3_
       (try clear hb)
       (try clear hb2)
       (try clear hk)
       (try clear hi)
       (try clear ho0)
       refine hK.out _ _ ⟨(blk_cell BK285.out 0).trans rfl, (blk_cell BK285.out 1).trans rfl, (blk_cell BK285.out 2).trans rfl, (blk_cell BK285.out 3).trans rfl, (blk_cell BK285.out 4).trans rfl⟩ (fun hHeld => ?_)
       clear hK K
       refine norm_ (a' := ?_) ?_ ?_
       rotate_left
       ·show Act.put _ (some 13) _ = _
        simp only [Act.put, List.setIfInBounds_toArray, List.set_cons_zero, List.set_cons_succ, i64_w, i32_w]
        rfl
       exact norm_ (by simp only [putAll, Act.put, List.setIfInBounds_toArray, List.set_cons_zero, List.set_cons_succ]) (hCont (v288, v291) _ ⟨hHeld, (by (with_reducible repeat (first | apply Kd.R_alloc | apply Kd.R_drewN | apply Kd.R_drew)); exact Kd.R_mono HO289.out (fun _ hk => hk.2)), (by (with_reducible repeat (first | apply Kd.R_alloc | apply Kd.R_drewN | apply Kd.R_drew)); exact Kd.R_mono HO292.out (fun _ hk => hk.2)), (bk BK285), blx⟩)
     rintro ⟨v288, v291⟩ w16 ⟨hS_, h0_, h1_, h2_, h3_⟩
     have n0_ : Aside0 (Kd.R (Kd.int .u8) 5 w16 w.heap.size (fun k_ => some k_ ≠ (v291 : Value).ownBlock) v288 t287) := ⟨h0_⟩
     have n1_ : Aside0 (Kd.R (Kd.int .u8) 5 w16 w.heap.size (fun k_ => some k_ ≠ (v288 : Value).ownBlock) v291 y290) := ⟨h1_⟩
     have n2_ : Aside0 (w16.heap[gb285]? = some (.cells #[.int .i64 a1_0, .int .i64 a1_1, .int .i64 a1_2, .int .u64 a1_3, .slice A1_4 l1_4.length c1_4] 33 (0, 0))) := ⟨h2_⟩
     have n3_ : Aside0 (Below w.heap.size w w16) := ⟨h3_⟩
     clear BK285
     clear HB
     clear h0_ h1_ h2_ h3_
     have HO289 := n0_
     have HO292 := n1_
     have BK285 := n2_
     have HB := n3_
     clear n0_ n1_ n2_ n3_
     have hHeld : w16.cell? ⟨gb285, 0, none⟩ = some (.int .i64 a1_0) ∧ w16.cell? ⟨gb285, 1, none⟩ = some (.int .i64 a1_1) ∧ w16.cell? ⟨gb285, 2, none⟩ = some (.int .i64 a1_2) ∧ w16.cell? ⟨gb285, 3, none⟩ = some (.int .u64 a1_3) ∧ w16.cell? ⟨gb285, 4, none⟩ = some (.slice A1_4 l1_4.length c1_4) := hS_
     obtain ⟨Ao18, co18, eo18⟩ := Kd.R_slice HO292.out
     (first | subst eo18 | (injection eo18 with f1_ f2_ f3_; have f4_ := f1_.symm; have f5_ := f3_.symm; clear f1_ f2_ f3_; subst f4_; subst f5_))
     refine norm_ (a' := ?_) ?_ ?_
     rotate_left
     ·simp only [putAll, Act.put, List.setIfInBounds_toArray, List.set_cons_zero, List.set_cons_succ]
      rfl
     refine one_ (i := 6) (N := some 18) #[true, true, true, true, true, true, true, false] rfl rfl (one_of HT_.out (by kernel_rfl)) (by decide) (fun K hK => ?_)
     refine Kd.R_append_rows_step (Kd.int .u8) (w0 := w) w.heap.size (by rfl) (.tmp 13) (.tmp 17) 41 5 (.int .u8 0) 1 rfl Tryd.underlying41 info5 rfl (by decide) (by omega) v288 t287 y290 _ _ _ (fun k_ => some k_ ≠ (.slice Ao18 y290.length co18 : Value).ownBlock) (fun _ => False) rfl rfl ?aO ?aR (fun _ _ h => h) (fun _ h => h.elim) ?aF ?aB ?aS ?aL ?_
     (case aR => repeat (first | exact (Kd.R_reads' HO292.out).2.2 | (with_reducible refine Kd.C_alloc ?_ _) | (with_reducible refine Kd.C_drewN ?_ _) | (with_reducible refine Kd.C_drew ?_)))
     (case aB => exact blx)
     (case aF => exact (fun k_ hk => Kd.fresh' (Kd.R_lt (ra HO292)) k_ hk))
     (case aO => exact (ra HO289))
     (case aS => exact (below_size blx))
     (case aL => have := LMc10.out; omega)
     intro v294 w17 ho hb hg hat
     rw [← Ny293.out] at ho
     have n0_ := Aside0.mk (blk_grown (g := gb285) (o := .cells #[.int .i64 a1_0, .int .i64 a1_1, .int .i64 a1_2, .int .u64 a1_3, .slice A1_4 l1_4.length c1_4] 33 (0, 0)) (bk BK285) hg (Kd.R_ne HO289.out BK285.out (by decide)))
     have n1_ := Aside0.mk (Kd.R_after (ok := (fun _ => True)) (by (with_reducible repeat (first | apply Kd.R_alloc | apply Kd.R_drewN | apply Kd.R_drew)); exact Kd.R_mono HO292.out (fun _ hk => ⟨trivial, hk⟩)) hg hat)
     have n2_ := Aside0.mk (hb)
     have n3_ := Aside0.mk (ho)
     clear BK285
     clear HO292
     clear HB
     clear HO289
     have BK285 := n0_
     have HO292 := n1_
     have HB := n2_
     have HO295 := n3_
     clear n0_ n1_ n2_ n3_
     clear ho hb hg hat
     refine hK.out _ _ ⟨(blk_cell BK285.out 0).trans rfl, (blk_cell BK285.out 1).trans rfl, (blk_cell BK285.out 2).trans rfl, (blk_cell BK285.out 3).trans rfl, (blk_cell BK285.out 4).trans rfl⟩ (fun hHeld => ?_)
     clear hK K
     refine norm_ (a' := ?_) ?_ ?_
     rotate_left
     ·show Act.put _ (some 18) _ = _
      simp only [Act.put, List.setIfInBounds_toArray, List.set_cons_zero, List.set_cons_succ, i64_w, i32_w]
      rfl
     refine pure_ (i := 7) (N := some 6) (v := ?_) (a' := ?_) #[true, true, true, true, true, true, true, true] rfl rfl (any_of HT_.out (by kernel_rfl)) (fun _ _ _ h => h) (Or.inl ⟨by rfl, ?_⟩) ?_ ?_
     rotate_left
     ·intro w'
      go_simp
      with_reducible rfl
     rotate_left
     ·simp only [Act.put, List.setIfInBounds_toArray, List.set_cons_zero, List.set_cons_succ, i64_w, i32_w]
      rfl
     refine done_ (done_of HT_.out (by kernel_rfl)) ?_
     go_upto_region 4 with (fail)
     go_cut [21] (fun v21 wc => ∃ (kq : Nat) (x21_10 : Int), v21 = .int .i64 x21_10 ∧ Aside0 (instr_Put.j1 kq y293 x21_10 a1_0 a1_1 a1_2 a1_3 l1_4 = some (r1, r2)) ∧ Aside0 (kq ≤ kj2) ∧ Aside0 (Kd.R (Kd.int .u8) 5 wc w.heap.size (fun _ => True) v294 y293) ∧ Aside0 (wc.heap[gb285]? = some (.cells #[.int .i64 a1_0, .int .i64 a1_1, .int .i64 a1_2, .int .u64 a1_3, (.slice A1_4 l1_4.length c1_4)] 33 (0, 0))) ∧ Aside0 (Below w.heap.size w wc))
     case first =>
      have H := HC11.out
      clear HC11
      replace H := Option.bind_eq_some_iff.mp H
      obtain ⟨t296, A190, H⟩ := H
      replace H : (instr_Put.j1 kj2 y293 t296 a1_0 a1_1 a1_2 a1_3 l1_4) = some (r1, r2) := H
      have A19 := Aside0.mk A190
      clear A190
      have H' := Aside0.mk H
      clear H
      obtain ⟨hcz20_0, hcz20_1, hcz20_2, hcz20_3, hcz20_4⟩ := cells5 BK285.out
      obtain ⟨hfz20_0, hfz20_1, hfz20_2, hfz20_3, hfz20_4⟩ := froz5 BK285.out
      go_wp2_with (first | ((with_reducible refine gate_callee (f := 28) rfl ?_); refine goesL_ (some 21) rfl rfl Tryd.func28 (by kernel_rfl) rfl #[.int .i64 a1_0] rfl am ?_; (with_reducible refine (instr_Kind.calls a1_0 t296 _ ?side1 A19.out).mono ?_); (case side1 => exact Glob.below HG.out blx); rintro e w21 ⟨rfl, hb⟩; refine ⟨_, rfl, ?_⟩; have n0_ := Aside0.mk (Kd.R_below (ra HO292) hb); have n1_ := Aside0.mk (Kd.R_below (ra HO295) hb); have n2_ := Aside0.mk (blk_below (bk BK285) hb); have n3_ := Aside0.mk (below_step blx hb); clear HO292; clear HO295; clear BK285; clear HB; have HO292 := n0_; have HO295 := n1_; have BK285 := n2_; have HB := n3_; clear n0_ n1_ n2_ n3_; (try clear hb); (try clear hb2); (try clear hk); (try clear hi)))
      go_meet
      case rel => exact ⟨_, (t296), rs, H', ⟨by have := HJ2.out; first | omega | exact Nat.le_refl _⟩, ⟨by (with_reducible repeat (first | apply Kd.R_alloc | apply Kd.R_drewN | apply Kd.R_drew)); exact Kd.R_mono HO295.out (fun _ hk => trivial)⟩, ⟨by (with_reducible repeat (first | refine blk_drewN ?_ _ | refine blk_drew ?_ | refine blk_alloc ?_ _)); exact BK285.out⟩, ⟨by repeat (first | (with_reducible first | exact HB.out | apply below_alloc | apply pw_below_drewN | apply below_drew1 | refine below_set ?_ GE285.out) | exact HB.out)⟩⟩
     case rest =>
      clear HC11
      (try clear c1); (try clear c2); (try clear p2); (try clear c5); (try clear c8); (try clear c10); (try clear hcz20_0); (try clear hcz20_1); (try clear hcz20_2); (try clear hcz20_3); (try clear hcz20_4); (try clear hcz6_0); (try clear hcz6_1); (try clear hcz6_2); (try clear hcz6_3); (try clear hcz6_4); (try clear hfz20_0); (try clear hfz20_1); (try clear hfz20_2); (try clear hfz20_3); (try clear hfz20_4); (try clear hfz6_0); (try clear hfz6_1); (try clear hfz6_2); (try clear hfz6_3); (try clear hfz6_4); (try clear p2)
      obtain ⟨kq, x21_10, rfl, HA, HJ10, HO_6, BK285, HB⟩ := hcut
      cases kq with
      | zero => exact absurd HA.out (by simp [instr_Put.j1])
      | succ kj10 =>
       have H := HA.out
       clear HA
       simp only [instr_Put.j1] at H
       by_cases c22 : x21_10 = 2
       ·rw [if_pos c22] at H
        have c22b0 : (x21_10 == 2) = true := beq_iff_eq.mpr c22
        have c22b1 : (x21_10 != 2) = false := bne_eq_false_iff_eq.mpr c22
        clear c22
        obtain ⟨ji23, hji23⟩ : ∃ j_ : Int, (mx a1_1 64) = j_ := ⟨_, rfl⟩
        replace H : ((some (([(ji23) % 256] : List Int) : List Int)).bind fun y297 => (if y293.length + y297.length < 140737488355328 then (some ((y293 ++ y297), 0)) else (none))) = some (r1, r2) := by first | (rw [hji23] at H; exact H) | (simp only [hji23] at H ⊢; exact H)
        (try (have hji23l : 64 ≤ ji23 := by (rw [← hji23]; unfold mx; (repeat' split) <;> omega)))
        (try (have hji23m : 0 ≤ ji23 := by omega))
        have hji23_ : (if a1_1 < 64 then 64 else a1_1) = ji23 := hji23
        obtain ⟨y297, hy297⟩ : ∃ y_ : List Int, y_ = (([(ji23) % 256] : List Int)) := ⟨_, rfl⟩
        replace H : (if y293.length + y297.length < 140737488355328 then (some ((y293 ++ y297), 0)) else (none)) = some (r1, r2) := by first | (rw [hy297]; with_reducible exact H) | (have H2_ := (Option.bind_some _ _).symm.trans H; rw [hy297]; with_reducible exact H2_) | (have H2_ := (Option.bind_some _ _).symm.trans H; with_reducible exact H2_) | with_reducible exact H | (rw [hy297]; exact H) | exact H
        have Ny297 := Aside0.mk hy297
        clear hy297
        by_cases c24 : y293.length + y297.length < 140737488355328
        ·rw [if_pos c24] at H
         have LMc24 := Aside0.mk c24
         clear c24
         obtain ⟨y300, hy300⟩ : ∃ y_ : List Int, y_ = (y293 ++ y297) := ⟨_, rfl⟩
         replace H : (some (y300, 0)) = some (r1, r2) := by first | (rw [hy300]; with_reducible exact H) | (have H2_ := (Option.bind_some _ _).symm.trans H; rw [hy300]; with_reducible exact H2_) | (have H2_ := (Option.bind_some _ _).symm.trans H; with_reducible exact H2_) | with_reducible exact H | (rw [hy300]; exact H) | exact H
         have Ny300 := Aside0.mk hy300
         clear hy300
         simp only [Option.some.injEq, Prod.mk.injEq] at H
         obtain ⟨rfl, rfl⟩ := H
         obtain ⟨hcz25_0, hcz25_1, hcz25_2, hcz25_3, hcz25_4⟩ := cells5 BK285.out
         obtain ⟨hfz25_0, hfz25_1, hfz25_2, hfz25_3, hfz25_4⟩ := froz5 BK285.out
         go_wp2_with (first | ((with_reducible refine gate_dst (N := 29) rfl ?_); refine Kd.R_lit (Kd.int .u8) _ 5 ?hg (N := 29) ?hd (xs := ([(ji23) % 256] : List Int)) (inner := [.int .u8 ((ji23) % 256)]) (ok := fun _ => True) (okp := fun _ => True) ?hr ?hp (fun _ hk => hk) trivial (Below.refl _ _) (Nat.le_refl _) (by simp) ?_; (case hd => rfl); (case hg => rfl); (case hr => first | (go_simp; done) | (go_simp; rfl)); (case hp => exact (Reps.one (show Kd.M (Kd.int .u8) _ _ _ ((ji23) % 256) [.int .u8 ((ji23) % 256)] from rfl) (Reps.none _ _))); intro v298 w26 ho27 hb hg_ hnew_; clear hg_ hnew_; (first | rw [← Ny297.out] at ho27 | (simp only [Int.reduceToNat] at ho27; rw [← Ny297.out] at ho27)); have n0_ := Aside0.mk (Kd.R_elder' (ra HO_6) (Kd.R_base ho27) hb); have n1_ := Aside0.mk (Kd.R_lower (Kd.R_new' ho27 (Kd.R_lt (ra HO_6))) (below_size blx)); have n2_ := Aside0.mk (blk_below (bk BK285) hb); have n3_ := Aside0.mk (below_step blx hb); clear HO_6; clear BK285; clear HB; have HO_6 := n0_; have HO299 := n1_; have BK285 := n2_; have HB := n3_; clear n0_ n1_ n2_ n3_; clear hb ho27; obtain ⟨Ao29, co29, eo29⟩ := Kd.R_slice HO299.out; subst eo29) | ((with_reducible refine gate_builtin (b := .append) (xs := #[.tmp 24, .tmp 29]) rfl ?_); at_builtin; refine Kd.R_append_rows (Kd.int .u8) (w0 := w) w.heap.size rfl (.tmp 24) (.tmp 29) 41 5 (.int .u8 0) 1 rfl Tryd.underlying41 info5 rfl (by decide) (by omega) v294 y293 y297 _ _ _ (fun k_ => some k_ ≠ (.slice Ao29 y297.length co29 : Value).ownBlock) (fun _ => False) rfl rfl ?aO ?aR (fun _ _ h => h) (fun _ h => h.elim) ?aF ?aB ?aS ?aL ?_; (case aR => repeat (first | exact (Kd.R_reads' HO299.out).2.2 | (with_reducible refine Kd.C_alloc ?_ _) | (with_reducible refine Kd.C_drewN ?_ _) | (with_reducible refine Kd.C_drew ?_))); (case aB => exact blx); (case aF => exact (fun k_ hk => Kd.fresh' (Kd.R_lt (ra HO299)) k_ hk)); (case aO => exact (by (with_reducible repeat (first | apply Kd.R_alloc | apply Kd.R_drewN | apply Kd.R_drew)); exact Kd.R_mono HO_6.out (fun _ hk => hk.2))); (case aS => exact (below_size blx)); (case aL => have := LMc24.out; omega); intro v301 w28 ho hb hg hat; rw [← Ny300.out] at ho; have n0_ := Aside0.mk (blk_grown (g := gb285) (o := .cells #[.int .i64 a1_0, .int .i64 a1_1, .int .i64 a1_2, .int .u64 a1_3, .slice A1_4 l1_4.length c1_4] 33 (0, 0)) (bk BK285) hg (Kd.R_ne HO_6.out BK285.out (by decide))); have n1_ := Aside0.mk (Kd.R_after (ok := (fun _ => True)) (ra HO299) hg hat); have n2_ := Aside0.mk (hb); have n3_ := Aside0.mk (ho); clear BK285; clear HO299; clear HB; clear HO_6; have BK285 := n0_; have HO299 := n1_; have HB := n2_; have HO302 := n3_; clear n0_ n1_ n2_ n3_; clear ho hb hg hat))
         go_ret2
         exact ⟨_, by first | rfl | (simp [errW_none, errW_some] <;> rfl) | (simp only [← hji23]; first | rfl | (simp [errW_none, errW_some] <;> rfl)) | (simp [*, errW_none, errW_some] <;> rfl), by (with_reducible repeat (first | apply Kd.R_alloc | apply Kd.R_drewN | apply Kd.R_drew)); exact Kd.R_mono HO302.out (fun _ hk => trivial), by repeat (first | (with_reducible first | exact HB.out | apply below_alloc | apply pw_below_drewN | apply below_drew1 | refine below_set ?_ GE285.out) | exact HB.out)⟩
        ·rw [if_neg c24] at H
         exact absurd H (by simp)
       ·rw [if_neg c22] at H
        have c22b0 : (x21_10 == 2) = false := beq_eq_false_iff_ne.mpr c22
        have c22b1 : (x21_10 != 2) = true := bne_iff_ne.mpr c22
        by_cases c30 : x21_10 = 4
        ·rw [if_pos c30] at H
         have c30b0 : (x21_10 == 4) = true := beq_iff_eq.mpr c30
         have c30b1 : (x21_10 != 4) = false := bne_eq_false_iff_eq.mpr c30
         clear c30
         replace H := Option.bind_eq_some_iff.mp H
         obtain ⟨t303, A310, H⟩ := H
         replace H : (instr_Put.l0 kj10 t303 l1_4 (l1_4.length : Int) 0 a1_0 a1_1 a1_2 a1_3 l1_4) = some (r1, r2) := H
         have A31 := Aside0.mk A310
         clear A310
         have H' := Aside0.mk H
         clear H
         obtain ⟨hcz32_0, hcz32_1, hcz32_2, hcz32_3, hcz32_4⟩ := cells5 BK285.out
         obtain ⟨hfz32_0, hfz32_1, hfz32_2, hfz32_3, hfz32_4⟩ := froz5 BK285.out
         obtain ⟨Ao33, co33, eo33⟩ := Kd.R_slice HO_6.out
         subst eo33
         go_wp2_with (first | ((with_reducible refine gate_callee (f := 58) rfl ?_); refine goesL_ (some 38) rfl rfl Tryd.func58 (by kernel_rfl) rfl #[.slice Ao33 y293.length co33, .int .u64 (IntKind.u64.wrap ((l1_4.length : Int)))] rfl am ?_; (with_reducible refine (leb_U.calls kj10 _ _ y293 (IntKind.u64.wrap ((l1_4.length : Int))) t303 _ ?side1 ?side2 A31.out).mono ?_); (case side1 => repeat (first | exact (Kd.R_reads' HO_6.out).2.2 | (with_reducible refine Kd.C_alloc ?_ _) | (with_reducible refine Kd.C_drewN ?_ _) | (with_reducible refine Kd.C_drew ?_))); (case side2 => exact (Kd.R_reads' HO_6.out).2.1); rintro e w34 ⟨v304, rfl, ho0, hb⟩; refine ⟨_, rfl, ?_⟩; have n0_ := Aside0.mk (Kd.R_elder' (ra HO_6) (Kd.R_base ho0) hb); have n1_ := Aside0.mk (Kd.R_lower (Kd.R_new' ho0 (Kd.R_lt (ra HO_6))) (below_size blx)); have n2_ := Aside0.mk (blk_below (bk BK285) hb); have n3_ := Aside0.mk (below_step blx hb); clear HO_6; clear BK285; clear HB; have HO_6 := n0_; have HO305 := n1_; have BK285 := n2_; have HB := n3_; clear n0_ n1_ n2_ n3_; (try clear hb); (try clear hb2); (try clear hk); (try clear hi); (try clear ho0); obtain ⟨hcz35_0, hcz35_1, hcz35_2, hcz35_3, hcz35_4⟩ := cells5 BK285.out; obtain ⟨hfz35_0, hfz35_1, hfz35_2, hfz35_3, hfz35_4⟩ := froz5 BK285.out))
         go_loopg [6, 42] kj10 (fun kq v6 v42 w' => ∃ (x6_3 : List Int) (x42_3 : Int), v42 = .int .i64 x42_3 ∧ Aside0 (instr_Put.l0 kq x6_3 l1_4 (l1_4.length : Int) x42_3 a1_0 a1_1 a1_2 a1_3 l1_4 = some (r1, r2)) ∧ Aside0 (kq ≤ kj10) ∧ Aside0 (Kd.R (Kd.int .u8) 5 w' w.heap.size (fun _ => True) v6 x6_3) ∧ Aside0 (w'.heap[gb285]? = some (.cells #[.int .i64 a1_0, .int .i64 a1_1, .int .i64 a1_2, .int .u64 a1_3, (.slice A1_4 l1_4.length c1_4)] 33 (0, 0))) ∧ Aside0 (Below w.heap.size w w'))
         case atStart => exact ⟨(t303), (0), rs, H', ⟨Nat.le_refl _⟩, ⟨by (with_reducible repeat (first | apply Kd.R_alloc | apply Kd.R_drewN | apply Kd.R_drew)); exact Kd.R_mono HO305.out (fun _ hk => trivial)⟩, ⟨by (with_reducible repeat (first | refine blk_drewN ?_ _ | refine blk_drew ?_ | refine blk_alloc ?_ _)); exact BK285.out⟩, ⟨by repeat (first | (with_reducible first | exact HB.out | apply below_alloc | apply pw_below_drewN | apply below_drew1 | refine below_set ?_ GE285.out) | exact HB.out)⟩⟩
         case round =>
          clear H'
          (try clear c1); (try clear c2); (try clear p2); (try clear c3); (try clear c5); (try clear c8); (try clear c10); (try clear c22); (try clear c22b0); (try clear c22b1); (try clear c24); (try clear c25); (try clear c28); (try clear c30); (try clear c30b0); (try clear c30b1); (try clear hcz20_0); (try clear hcz20_1); (try clear hcz20_2); (try clear hcz20_3); (try clear hcz20_4); (try clear hcz25_0); (try clear hcz25_1); (try clear hcz25_2); (try clear hcz25_3); (try clear hcz25_4); (try clear hcz32_0); (try clear hcz32_1); (try clear hcz32_2); (try clear hcz32_3); (try clear hcz32_4); (try clear hcz35_0); (try clear hcz35_1); (try clear hcz35_2); (try clear hcz35_3); (try clear hcz35_4); (try clear hcz6_0); (try clear hcz6_1); (try clear hcz6_2); (try clear hcz6_3); (try clear hcz6_4); (try clear hfz20_0); (try clear hfz20_1); (try clear hfz20_2); (try clear hfz20_3); (try clear hfz20_4); (try clear hfz25_0); (try clear hfz25_1); (try clear hfz25_2); (try clear hfz25_3); (try clear hfz25_4); (try clear hfz32_0); (try clear hfz32_1); (try clear hfz32_2); (try clear hfz32_3); (try clear hfz32_4); (try clear hfz35_0); (try clear hfz35_1); (try clear hfz35_2); (try clear hfz35_3); (try clear hfz35_4); (try clear hfz6_0); (try clear hfz6_1); (try clear hfz6_2); (try clear hfz6_3); (try clear hfz6_4); (try clear p2)
          obtain ⟨x6_3, x42_3, rfl, HA, HK3, HO_6, BK285, HB⟩ := hrel
          cases gk with
          | zero => exact absurd HA.out (by simp [instr_Put.l0])
          | succ k3 =>
           have H := HA.out
           clear HA
           simp only [instr_Put.l0] at H
           by_cases c36 : x42_3 < (l1_4.length : Int)
           ·rw [if_pos c36] at H
            have c36b0 : decide (x42_3 < (l1_4.length : Int)) = true := decide_eq_true c36
            clear c36
            by_cases c37 : 0 ≤ x42_3
            ·rw [if_pos c37] at H
             have c37b0 : decide (0 ≤ x42_3) = true := decide_eq_true c37
             clear c37
             by_cases c38 : x42_3 < (l1_4.length : Int)
             ·rw [if_pos c38] at H
              have c38b0 : decide (x42_3 < (l1_4.length : Int)) = true := decide_eq_true c38
              clear c38
              replace H := Option.bind_eq_some_iff.mp H
              obtain ⟨t307, A390, H⟩ := H
              replace H : (instr_Put.l0 k3 t307 l1_4 (l1_4.length : Int) (wrap64 (x42_3 + 1)) a1_0 a1_1 a1_2 a1_3 l1_4) = some (r1, r2) := H
              have A39 := Aside0.mk A390
              clear A390
              have H' := Aside0.mk H
              clear H
              have p306 : 0 ≤ (x42_3 : Int) := of_decide_eq_true asm
              have q306 : x42_3 < (l1_4.length : Int) := of_decide_eq_true asm
              obtain ⟨ad306, e306, hx306_0⟩ := Kd.at_int HR1_4.out x42_3 p306 q306
              cases e306
              replace hx306_0 := (HB.out.cell (World.block_lt_of_cell? w _ hx306_0)).trans hx306_0
              replace p306 := eq_true p306
              replace q306 := eq_true q306
              obtain ⟨Ao40, co40, eo40⟩ := Kd.R_slice HO_6.out
              subst eo40
              go_wp2_with (first | ((with_reducible refine gate_callee (f := 58) rfl ?_); refine goesL_ (some 49) rfl rfl Tryd.func58 (by kernel_rfl) rfl #[.slice Ao40 x6_3.length co40, .int .u64 (IntKind.u64.wrap (rd l1_4 x42_3))] rfl am ?_; (with_reducible refine (leb_U.calls k3 _ _ x6_3 (IntKind.u64.wrap (rd l1_4 x42_3)) t307 _ ?side1 ?side2 A39.out).mono ?_); (case side1 => repeat (first | exact (Kd.R_reads' HO_6.out).2.2 | (with_reducible refine Kd.C_alloc ?_ _) | (with_reducible refine Kd.C_drewN ?_ _) | (with_reducible refine Kd.C_drew ?_))); (case side2 => exact (Kd.R_reads' HO_6.out).2.1); rintro e w41 ⟨v308, rfl, ho0, hb⟩; refine ⟨_, rfl, ?_⟩; have n0_ := Aside0.mk (Kd.R_elder' (ra HO_6) (Kd.R_base ho0) hb); have n1_ := Aside0.mk (Kd.R_lower (Kd.R_new' ho0 (Kd.R_lt (ra HO_6))) (below_size blx)); have n2_ := Aside0.mk (blk_below (bk BK285) hb); have n3_ := Aside0.mk (below_step blx hb); clear HO_6; clear BK285; clear HB; have HO_6 := n0_; have HO309 := n1_; have BK285 := n2_; have HB := n3_; clear n0_ n1_ n2_ n3_; (try clear hb); (try clear hb2); (try clear hk); (try clear hi); (try clear ho0)))
              go_roundg k3
              case measure => have := HJ2.out; have := HJ10.out; have := HK3.out; omega
              case rel => exact ⟨(t307), (wrap64 (x42_3 + 1)), rs, H', ⟨by have := HJ2.out; have := HJ10.out; have := HK3.out; omega⟩, ⟨by (with_reducible repeat (first | apply Kd.R_alloc | apply Kd.R_drewN | apply Kd.R_drew)); exact Kd.R_mono HO309.out (fun _ hk => trivial)⟩, ⟨by (with_reducible repeat (first | refine blk_drewN ?_ _ | refine blk_drew ?_ | refine blk_alloc ?_ _)); exact BK285.out⟩, ⟨by repeat (first | (with_reducible first | exact HB.out | apply below_alloc | apply pw_below_drewN | apply below_drew1 | refine below_set ?_ GE285.out) | exact HB.out)⟩⟩
             ·rw [if_neg c38] at H
              exact absurd H (by simp)
            ·rw [if_neg c37] at H
             exact absurd H (by simp)
           ·rw [if_neg c36] at H
            have c36b0 : decide (x42_3 < (l1_4.length : Int)) = false := decide_eq_false c36
            clear c36
            replace H := Option.bind_eq_some_iff.mp H
            obtain ⟨t310, A420, H⟩ := H
            replace H : (some (t310, 0)) = some (r1, r2) := H
            have A42 := Aside0.mk A420
            clear A420
            simp only [Option.some.injEq, Prod.mk.injEq] at H
            obtain ⟨rfl, rfl⟩ := H
            obtain ⟨hcz43_0, hcz43_1, hcz43_2, hcz43_3, hcz43_4⟩ := cells5 BK285.out
            obtain ⟨hfz43_0, hfz43_1, hfz43_2, hfz43_3, hfz43_4⟩ := froz5 BK285.out
            obtain ⟨Ao44, co44, eo44⟩ := Kd.R_slice HO_6.out
            subst eo44
            go_wp2_with (first | ((with_reducible refine gate_callee (f := 58) rfl ?_); refine goesL_ (some 55) rfl rfl Tryd.func58 (by kernel_rfl) rfl #[.slice Ao44 x6_3.length co44, .int .u64 (IntKind.u64.wrap (a1_1))] rfl am ?_; (with_reducible refine (leb_U.calls k3 _ _ x6_3 (IntKind.u64.wrap (a1_1)) t310 _ ?side1 ?side2 A42.out).mono ?_); (case side1 => repeat (first | exact (Kd.R_reads' HO_6.out).2.2 | (with_reducible refine Kd.C_alloc ?_ _) | (with_reducible refine Kd.C_drewN ?_ _) | (with_reducible refine Kd.C_drew ?_))); (case side2 => exact (Kd.R_reads' HO_6.out).2.1); rintro e w45 ⟨v311, rfl, ho0, hb⟩; refine ⟨_, rfl, ?_⟩; have n0_ := Aside0.mk (Kd.R_elder' (ra HO_6) (Kd.R_base ho0) hb); have n1_ := Aside0.mk (Kd.R_lower (Kd.R_new' ho0 (Kd.R_lt (ra HO_6))) (below_size blx)); have n2_ := Aside0.mk (blk_below (bk BK285) hb); have n3_ := Aside0.mk (below_step blx hb); clear HO_6; clear BK285; clear HB; have HO_6 := n0_; have HO312 := n1_; have BK285 := n2_; have HB := n3_; clear n0_ n1_ n2_ n3_; (try clear hb); (try clear hb2); (try clear hk); (try clear hi); (try clear ho0)))
            go_ret2
            exact ⟨_, er, by (with_reducible repeat (first | apply Kd.R_alloc | apply Kd.R_drewN | apply Kd.R_drew)); exact Kd.R_mono HO312.out (fun _ hk => trivial), by repeat (first | (with_reducible first | exact HB.out | apply below_alloc | apply pw_below_drewN | apply below_drew1 | refine below_set ?_ GE285.out) | exact HB.out)⟩
        ·rw [if_neg c30] at H
         have c30b0 : (x21_10 == 4) = false := beq_eq_false_iff_ne.mpr c30
         have c30b1 : (x21_10 != 4) = true := bne_iff_ne.mpr c30
         by_cases c46 : x21_10 = 3
         ·rw [if_pos c46] at H
          have c46b0 : (x21_10 == 3) = true := beq_iff_eq.mpr c46
          have c46b1 : (x21_10 != 3) = false := bne_eq_false_iff_eq.mpr c46
          clear c46
          replace H := Option.bind_eq_some_iff.mp H
          obtain ⟨t313, A470, H⟩ := H
          replace H : (some (t313, 0)) = some (r1, r2) := H
          have A47 := Aside0.mk A470
          clear A470
          simp only [Option.some.injEq, Prod.mk.injEq] at H
          obtain ⟨rfl, rfl⟩ := H
          obtain ⟨hcz48_0, hcz48_1, hcz48_2, hcz48_3, hcz48_4⟩ := cells5 BK285.out
          obtain ⟨hfz48_0, hfz48_1, hfz48_2, hfz48_3, hfz48_4⟩ := froz5 BK285.out
          obtain ⟨Ao49, co49, eo49⟩ := Kd.R_slice HO_6.out
          subst eo49
          go_wp2_with (first | ((with_reducible refine gate_callee (f := 58) rfl ?_); refine goesL_ (some 62) rfl rfl Tryd.func58 (by kernel_rfl) rfl #[.slice Ao49 y293.length co49, .int .u64 (IntKind.u64.wrap (a1_1))] rfl am ?_; (with_reducible refine (leb_U.calls kj10 _ _ y293 (IntKind.u64.wrap (a1_1)) t313 _ ?side1 ?side2 A47.out).mono ?_); (case side1 => repeat (first | exact (Kd.R_reads' HO_6.out).2.2 | (with_reducible refine Kd.C_alloc ?_ _) | (with_reducible refine Kd.C_drewN ?_ _) | (with_reducible refine Kd.C_drew ?_))); (case side2 => exact (Kd.R_reads' HO_6.out).2.1); rintro e w50 ⟨v314, rfl, ho0, hb⟩; refine ⟨_, rfl, ?_⟩; have n0_ := Aside0.mk (Kd.R_elder' (ra HO_6) (Kd.R_base ho0) hb); have n1_ := Aside0.mk (Kd.R_lower (Kd.R_new' ho0 (Kd.R_lt (ra HO_6))) (below_size blx)); have n2_ := Aside0.mk (blk_below (bk BK285) hb); have n3_ := Aside0.mk (below_step blx hb); clear HO_6; clear BK285; clear HB; have HO_6 := n0_; have HO315 := n1_; have BK285 := n2_; have HB := n3_; clear n0_ n1_ n2_ n3_; (try clear hb); (try clear hb2); (try clear hk); (try clear hi); (try clear ho0)))
          go_ret2
          exact ⟨_, er, by (with_reducible repeat (first | apply Kd.R_alloc | apply Kd.R_drewN | apply Kd.R_drew)); exact Kd.R_mono HO315.out (fun _ hk => trivial), by repeat (first | (with_reducible first | exact HB.out | apply below_alloc | apply pw_below_drewN | apply below_drew1 | refine below_set ?_ GE285.out) | exact HB.out)⟩
         ·rw [if_neg c46] at H
          have c46b0 : (x21_10 == 3) = false := beq_eq_false_iff_ne.mpr c46
          have c46b1 : (x21_10 != 3) = true := bne_iff_ne.mpr c46
          by_cases c51 : x21_10 = 5
          ·rw [if_pos c51] at H
           have c51b0 : (x21_10 == 5) = true := beq_iff_eq.mpr c51
           have c51b1 : (x21_10 != 5) = false := bne_eq_false_iff_eq.mpr c51
           clear c51
           replace H := Option.bind_eq_some_iff.mp H
           obtain ⟨t316, A520, H⟩ := H
           replace H : ((some (([0] : List Int) : List Int)).bind fun y319 => (if t316.length + y319.length < 140737488355328 then (some ((t316 ++ y319), 0)) else (none))) = some (r1, r2) := H
           have A52 := Aside0.mk A520
           clear A520
           obtain ⟨y319, hy319⟩ : ∃ y_ : List Int, y_ = (([0] : List Int)) := ⟨_, rfl⟩
           replace H : (if t316.length + y319.length < 140737488355328 then (some ((t316 ++ y319), 0)) else (none)) = some (r1, r2) := by first | (rw [hy319]; with_reducible exact H) | (have H2_ := (Option.bind_some _ _).symm.trans H; rw [hy319]; with_reducible exact H2_) | (have H2_ := (Option.bind_some _ _).symm.trans H; with_reducible exact H2_) | with_reducible exact H | (rw [hy319]; exact H) | exact H
           have Ny319 := Aside0.mk hy319
           clear hy319
           by_cases c53 : t316.length + y319.length < 140737488355328
           ·rw [if_pos c53] at H
            have LMc53 := Aside0.mk c53
            clear c53
            obtain ⟨y322, hy322⟩ : ∃ y_ : List Int, y_ = (t316 ++ y319) := ⟨_, rfl⟩
            replace H : (some (y322, 0)) = some (r1, r2) := by first | (rw [hy322]; with_reducible exact H) | (have H2_ := (Option.bind_some _ _).symm.trans H; rw [hy322]; with_reducible exact H2_) | (have H2_ := (Option.bind_some _ _).symm.trans H; with_reducible exact H2_) | with_reducible exact H | (rw [hy322]; exact H) | exact H
            have Ny322 := Aside0.mk hy322
            clear hy322
            simp only [Option.some.injEq, Prod.mk.injEq] at H
            obtain ⟨rfl, rfl⟩ := H
            obtain ⟨hcz54_0, hcz54_1, hcz54_2, hcz54_3, hcz54_4⟩ := cells5 BK285.out
            obtain ⟨hfz54_0, hfz54_1, hfz54_2, hfz54_3, hfz54_4⟩ := froz5 BK285.out
            obtain ⟨Ao55, co55, eo55⟩ := Kd.R_slice HO_6.out
            subst eo55
            go_wp2_with (first | ((with_reducible refine gate_callee (f := 58) rfl ?_); refine goesL_ (some 69) rfl rfl Tryd.func58 (by kernel_rfl) rfl #[.slice Ao55 y293.length co55, .int .u64 (IntKind.u64.wrap (a1_1))] rfl am ?_; (with_reducible refine (leb_U.calls kj10 _ _ y293 (IntKind.u64.wrap (a1_1)) t316 _ ?side1 ?side2 A52.out).mono ?_); (case side1 => repeat (first | exact (Kd.R_reads' HO_6.out).2.2 | (with_reducible refine Kd.C_alloc ?_ _) | (with_reducible refine Kd.C_drewN ?_ _) | (with_reducible refine Kd.C_drew ?_))); (case side2 => exact (Kd.R_reads' HO_6.out).2.1); rintro e w56 ⟨v317, rfl, ho0, hb⟩; refine ⟨_, rfl, ?_⟩; have n0_ := Aside0.mk (Kd.R_elder' (ra HO_6) (Kd.R_base ho0) hb); have n1_ := Aside0.mk (Kd.R_lower (Kd.R_new' ho0 (Kd.R_lt (ra HO_6))) (below_size blx)); have n2_ := Aside0.mk (blk_below (bk BK285) hb); have n3_ := Aside0.mk (below_step blx hb); clear HO_6; clear BK285; clear HB; have HO_6 := n0_; have HO318 := n1_; have BK285 := n2_; have HB := n3_; clear n0_ n1_ n2_ n3_; (try clear hb); (try clear hb2); (try clear hk); (try clear hi); (try clear ho0)) | ((with_reducible refine gate_dst (N := 70) rfl ?_); refine Kd.R_lit (Kd.int .u8) _ 5 ?hg (N := 70) ?hd (xs := ([0] : List Int)) (inner := [.int .u8 0]) (ok := fun _ => True) (okp := fun _ => True) ?hr ?hp (fun _ hk => hk) trivial (Below.refl _ _) (Nat.le_refl _) (by simp) ?_; (case hd => rfl); (case hg => rfl); (case hr => first | (go_simp; done) | (go_simp; rfl)); (case hp => exact (Reps.one (show Kd.M (Kd.int .u8) _ _ _ 0 [.int .u8 0] from rfl) (Reps.none _ _))); intro v320 w57 ho58 hb hg_ hnew_; clear hg_ hnew_; (first | rw [← Ny319.out] at ho58 | (simp only [Int.reduceToNat] at ho58; rw [← Ny319.out] at ho58)); have n0_ := Aside0.mk (Kd.R_elder' (ra HO_6) (Kd.R_base ho58) hb); have n1_ := Aside0.mk (Kd.R_elder' (ra HO318) (Kd.R_base ho58) hb); have n2_ := Aside0.mk (Kd.R_lower (Kd.R_new' (Kd.R_new' ho58 (Kd.R_lt (ra HO_6))) (Kd.R_lt (ra HO318))) (below_size blx)); have n3_ := Aside0.mk (blk_below (bk BK285) hb); have n4_ := Aside0.mk (below_step blx hb); clear HO_6; clear HO318; clear BK285; clear HB; have HO_6 := n0_; have HO318 := n1_; have HO321 := n2_; have BK285 := n3_; have HB := n4_; clear n0_ n1_ n2_ n3_ n4_; clear hb ho58; obtain ⟨Ao60, co60, eo60⟩ := Kd.R_slice HO321.out; subst eo60) | ((with_reducible refine gate_builtin (b := .append) (xs := #[.tmp 69, .tmp 70]) rfl ?_); at_builtin; refine Kd.R_append_rows (Kd.int .u8) (w0 := w) w.heap.size rfl (.tmp 69) (.tmp 70) 41 5 (.int .u8 0) 1 rfl Tryd.underlying41 info5 rfl (by decide) (by omega) v317 t316 y319 _ _ _ (fun k_ => some k_ ≠ (.slice Ao55 y293.length co55 : Value).ownBlock ∧ some k_ ≠ (.slice Ao60 y319.length co60 : Value).ownBlock) (fun _ => False) rfl rfl ?aO ?aR (fun _ _ h => h) (fun _ h => h.elim) ?aF ?aB ?aS ?aL ?_; (case aR => repeat (first | exact (Kd.R_reads' HO321.out).2.2 | (with_reducible refine Kd.C_alloc ?_ _) | (with_reducible refine Kd.C_drewN ?_ _) | (with_reducible refine Kd.C_drew ?_))); (case aB => exact blx); (case aF => exact (fun k_ hk => ⟨Kd.fresh' (Kd.R_lt (ra HO_6)) k_ hk, Kd.fresh' (Kd.R_lt (ra HO321)) k_ hk⟩)); (case aO => exact (by (with_reducible repeat (first | apply Kd.R_alloc | apply Kd.R_drewN | apply Kd.R_drew)); exact Kd.R_mono HO318.out (fun _ hk => ⟨hk.1.2, hk.2⟩))); (case aS => exact (below_size blx)); (case aL => have := LMc53.out; omega); intro v323 w59 ho hb hg hat; rw [← Ny322.out] at ho; have n0_ := Aside0.mk (Kd.R_after (ok := (fun k_ => some k_ ≠ (.slice Ao60 y319.length co60 : Value).ownBlock)) (by (with_reducible repeat (first | apply Kd.R_alloc | apply Kd.R_drewN | apply Kd.R_drew)); exact Kd.R_mono HO_6.out (fun _ hk => ⟨hk.2, hk.1.2⟩)) hg hat); have n1_ := Aside0.mk (blk_grown (g := gb285) (o := .cells #[.int .i64 a1_0, .int .i64 a1_1, .int .i64 a1_2, .int .u64 a1_3, .slice A1_4 l1_4.length c1_4] 33 (0, 0)) (bk BK285) hg (Kd.R_ne HO318.out BK285.out (by decide))); have n2_ := Aside0.mk (Kd.R_after (ok := (fun k_ => some k_ ≠ (.slice Ao55 y293.length co55 : Value).ownBlock)) (by (with_reducible repeat (first | apply Kd.R_alloc | apply Kd.R_drewN | apply Kd.R_drew)); exact Kd.R_mono HO321.out (fun _ hk => ⟨hk.1.2, hk.2⟩)) hg hat); have n3_ := Aside0.mk (hb); have n4_ := Aside0.mk (ho); clear HO_6; clear BK285; clear HO321; clear HB; clear HO318; have HO_6 := n0_; have BK285 := n1_; have HO321 := n2_; have HB := n3_; have HO324 := n4_; clear n0_ n1_ n2_ n3_ n4_; clear ho hb hg hat))
            go_ret2
            exact ⟨_, er, by (with_reducible repeat (first | apply Kd.R_alloc | apply Kd.R_drewN | apply Kd.R_drew)); exact Kd.R_mono HO324.out (fun _ hk => trivial), by repeat (first | (with_reducible first | exact HB.out | apply below_alloc | apply pw_below_drewN | apply below_drew1 | refine below_set ?_ GE285.out) | exact HB.out)⟩
           ·rw [if_neg c53] at H
            exact absurd H (by simp)
          ·rw [if_neg c51] at H
           have c51b0 : (x21_10 == 5) = false := beq_eq_false_iff_ne.mpr c51
           have c51b1 : (x21_10 != 5) = true := bne_iff_ne.mpr c51
           by_cases c61 : x21_10 = 6
           ·rw [if_pos c61] at H
            have c61b0 : (x21_10 == 6) = true := beq_iff_eq.mpr c61
            have c61b1 : (x21_10 != 6) = false := bne_eq_false_iff_eq.mpr c61
            clear c61
            replace H := Option.bind_eq_some_iff.mp H
            obtain ⟨t325, A620, H⟩ := H
            replace H : ((leb_U.f kj10 t325 (IntKind.u64.wrap (a1_2))).bind fun t328 => (some (t328, 0))) = some (r1, r2) := H
            have A62 := Aside0.mk A620
            clear A620
            replace H := Option.bind_eq_some_iff.mp H
            obtain ⟨t328, A630, H⟩ := H
            replace H : (some (t328, 0)) = some (r1, r2) := H
            have A63 := Aside0.mk A630
            clear A630
            simp only [Option.some.injEq, Prod.mk.injEq] at H
            obtain ⟨rfl, rfl⟩ := H
            try go_wp2
            have n0_ := Aside0.mk (Kd.R_drew HO_6.out)
            have n1_ := Aside0.mk (blk_drew BK285.out)
            have n2_ := Aside0.mk (below_drew1 HB.out)
            clear HO_6
            clear BK285
            clear HB
            have HO_6 := n0_
            have BK285 := n1_
            have HB := n2_
            clear n0_ n1_ n2_
            obtain ⟨Ao65, co65, eo65⟩ := Kd.R_slice HO_6.out
            (first | subst eo65 | (injection eo65 with f1_ f2_ f3_; have f4_ := f1_.symm; have f5_ := f3_.symm; clear f1_ f2_ f3_; subst f4_; subst f5_))
            refine start_ (n := 11) (S := fun w' => w'.cell? ⟨gb285, 0, none⟩ = some (.int .i64 a1_0) ∧ w'.cell? ⟨gb285, 1, none⟩ = some (.int .i64 a1_1) ∧ w'.cell? ⟨gb285, 2, none⟩ = some (.int .i64 a1_2) ∧ w'.cell? ⟨gb285, 3, none⟩ = some (.int .u64 a1_3) ∧ w'.cell? ⟨gb285, 4, none⟩ = some (.slice A1_4 l1_4.length c1_4)) (ds := []) #[false, false, false, false, false, false, false, false, false, false, false] (by kernel_rfl) rfl rfl ⟨(blk_cell BK285.out 0).trans rfl, (blk_cell BK285.out 1).trans rfl, (blk_cell BK285.out 2).trans rfl, (blk_cell BK285.out 3).trans rfl, (blk_cell BK285.out 4).trans rfl⟩ (fun hHeld => ?_); refine with_tabW instr_Put.tab20 instr_Put.bits20 (fun HT_ HW_ => ?_)
            generalize wc.drew = w64 at HO_6 BK285 HB hHeld ⊢
            refine pure_ (i := 0) (N := some 74) (v := ?_) (a' := ?_) #[true, false, false, false, false, false, false, false, false, false, false] rfl rfl (any_of HT_.out (by kernel_rfl)) (fun _ _ _ h => h) (Or.inl ⟨by rfl, ?_⟩) ?_ ?_
            rotate_left
            ·intro w'
             go_simp
             with_reducible rfl
            rotate_left
            ·simp only [Act.put, List.setIfInBounds_toArray, List.set_cons_zero, List.set_cons_succ, i64_w, i32_w]
             rfl
            refine pure_ (i := 1) (N := some 75) (v := ?_) (a' := ?_) #[true, true, false, false, false, false, false, false, false, false, false] rfl rfl (any_of HT_.out (by kernel_rfl)) (fun _ _ _ h => h) (Or.inl ⟨by rfl, ?_⟩) ?_ ?_
            rotate_left
            ·intro w'
             go_simp
             with_reducible rfl
            rotate_left
            ·simp only [Act.put, List.setIfInBounds_toArray, List.set_cons_zero, List.set_cons_succ, i64_w, i32_w]
             rfl
            refine pure_ (i := 5) (N := some 79) (v := ?_) (a' := ?_) #[true, true, false, false, false, true, false, false, false, false, false] rfl rfl (any_of HT_.out (by kernel_rfl)) (fun _ _ _ h => h) (Or.inl ⟨by rfl, ?_⟩) ?_ ?_
            rotate_left
            ·intro w'
             go_simp
             with_reducible rfl
            rotate_left
            ·simp only [Act.put, List.setIfInBounds_toArray, List.set_cons_zero, List.set_cons_succ, i64_w, i32_w]
             rfl
            refine take_ (i := 2) (N := some 76) (v := ?_) (a' := ?_) #[true, true, true, false, false, true, false, false, false, false, false] rfl rfl (take_ofW HT_.out HW_.out (by kernel_rfl)) (fun _ _ _ h => h) (Or.inl ⟨by rfl, ?_⟩) hHeld ?_ ?_
            rotate_left
            ·rintro w' ⟨s0, s1, s2, s3, s4⟩
             go_simp
             with_reducible rfl
            rotate_left
            ·simp only [Act.put, List.setIfInBounds_toArray, List.set_cons_zero, List.set_cons_succ, i64_w, i32_w]
             rfl
            refine pure_ (i := 3) (N := some 77) (v := ?_) (a' := ?_) #[true, true, true, true, false, true, false, false, false, false, false] rfl rfl (any_of HT_.out (by kernel_rfl)) (fun _ _ _ h => h) (Or.inl ⟨by rfl, ?_⟩) ?_ ?_
            rotate_left
            ·intro w'
             go_simp
             with_reducible rfl
            rotate_left
            ·simp only [Act.put, List.setIfInBounds_toArray, List.set_cons_zero, List.set_cons_succ, i64_w, i32_w]
             rfl
            refine take_ (i := 6) (N := some 80) (v := ?_) (a' := ?_) #[true, true, true, true, false, true, true, false, false, false, false] rfl rfl (take_ofW HT_.out HW_.out (by kernel_rfl)) (fun _ _ _ h => h) (Or.inl ⟨by rfl, ?_⟩) hHeld ?_ ?_
            rotate_left
            ·rintro w' ⟨s0, s1, s2, s3, s4⟩
             go_simp
             with_reducible rfl
            rotate_left
            ·simp only [Act.put, List.setIfInBounds_toArray, List.set_cons_zero, List.set_cons_succ, i64_w, i32_w]
             rfl
            refine pure_ (i := 7) (N := some 81) (v := ?_) (a' := ?_) #[true, true, true, true, false, true, true, true, false, false, false] rfl rfl (any_of HT_.out (by kernel_rfl)) (fun _ _ _ h => h) (Or.inl ⟨by rfl, ?_⟩) ?_ ?_
            rotate_left
            ·intro w'
             go_simp
             with_reducible rfl
            rotate_left
            ·simp only [Act.put, List.setIfInBounds_toArray, List.set_cons_zero, List.set_cons_succ, i64_w, i32_w]
             rfl
            refine one_ (i := 4) (N := some 78) #[true, true, true, true, true, true, true, true, false, false, false] rfl rfl (one_of HT_.out (by kernel_rfl)) (by decide) (fun K hK => ?_)
            refine goes_ Tryd.func58 (by kernel_rfl) rfl #[.slice Ao65 y293.length co65, .int .u64 (IntKind.u64.wrap (a1_1))] (by rfl) rfl rfl am ?_
            with_reducible refine (leb_U.calls kj10 _ _ y293 (IntKind.u64.wrap (a1_1)) t325 _ ?side1 ?side2 A62.out).mono ?_
            (case side1 => repeat (first | exact (Kd.R_reads' HO_6.out).2.2 | (with_reducible refine Kd.C_alloc ?_ _) | (with_reducible refine Kd.C_drewN ?_ _) | (with_reducible refine Kd.C_drew ?_)))
            (case side2 => exact (Kd.R_reads' HO_6.out).2.1)
            rintro e w66 ⟨v326, rfl, ho0, hb⟩
            refine ⟨_, rfl, ?_⟩
            have n0_ := Aside0.mk (Kd.R_elder' (ra HO_6) (Kd.R_base ho0) hb)
            have n1_ := Aside0.mk (Kd.R_lower (Kd.R_new' ho0 (Kd.R_lt (ra HO_6))) (below_size blx))
            have n2_ := Aside0.mk (blk_below (bk BK285) hb)
            have n3_ := Aside0.mk (below_step blx hb)
            clear HO_6
            clear BK285
            clear HB
            have HO_6 := n0_
            have HO327 := n1_
            have BK285 := n2_
            have HB := n3_
            clear n0_ n1_ n2_ n3_
            (try clear hb)
            (try clear hb2)
            (try clear hk)
            (try clear hi)
            (try clear ho0)
            obtain ⟨Ao67, co67, eo67⟩ := Kd.R_slice HO327.out
            (first | subst eo67 | (injection eo67 with f1_ f2_ f3_; have f4_ := f1_.symm; have f5_ := f3_.symm; clear f1_ f2_ f3_; subst f4_; subst f5_))
            refine hK.out _ _ ⟨(blk_cell BK285.out 0).trans rfl, (blk_cell BK285.out 1).trans rfl, (blk_cell BK285.out 2).trans rfl, (blk_cell BK285.out 3).trans rfl, (blk_cell BK285.out 4).trans rfl⟩ (fun hHeld => ?_)
            clear hK K
            refine norm_ (a' := ?_) ?_ ?_
            rotate_left
            ·show Act.put _ (some 78) _ = _
             simp only [Act.put, List.setIfInBounds_toArray, List.set_cons_zero, List.set_cons_succ, i64_w, i32_w]
             rfl
            refine one_ (i := 8) (N := some 82) #[true, true, true, true, true, true, true, true, true, false, false] rfl rfl (one_of HT_.out (by kernel_rfl)) (by decide) (fun K hK => ?_)
            refine goes_ Tryd.func58 (by kernel_rfl) rfl #[.slice Ao67 t325.length co67, .int .u64 (IntKind.u64.wrap (a1_2))] (by rfl) rfl rfl am ?_
            with_reducible refine (leb_U.calls kj10 _ _ t325 (IntKind.u64.wrap (a1_2)) t328 _ ?side1 ?side2 A63.out).mono ?_
            (case side1 => repeat (first | exact (Kd.R_reads' HO327.out).2.2 | (with_reducible refine Kd.C_alloc ?_ _) | (with_reducible refine Kd.C_drewN ?_ _) | (with_reducible refine Kd.C_drew ?_)))
            (case side2 => exact (Kd.R_reads' HO327.out).2.1)
            rintro e w68 ⟨v329, rfl, ho0, hb⟩
            refine ⟨_, rfl, ?_⟩
            have n0_ := Aside0.mk (Kd.R_elder' (ra HO_6) (Kd.R_base ho0) hb)
            have n1_ := Aside0.mk (Kd.R_elder' (ra HO327) (Kd.R_base ho0) hb)
            have n2_ := Aside0.mk (Kd.R_lower (Kd.R_new' (Kd.R_new' ho0 (Kd.R_lt (ra HO_6))) (Kd.R_lt (ra HO327))) (below_size blx))
            have n3_ := Aside0.mk (blk_below (bk BK285) hb)
            have n4_ := Aside0.mk (below_step blx hb)
            clear HO_6
            clear HO327
            clear BK285
            clear HB
            have HO_6 := n0_
            have HO327 := n1_
            have HO330 := n2_
            have BK285 := n3_
            have HB := n4_
            clear n0_ n1_ n2_ n3_ n4_
            (try clear hb)
            (try clear hb2)
            (try clear hk)
            (try clear hi)
            (try clear ho0)
            refine hK.out _ _ ⟨(blk_cell BK285.out 0).trans rfl, (blk_cell BK285.out 1).trans rfl, (blk_cell BK285.out 2).trans rfl, (blk_cell BK285.out 3).trans rfl, (blk_cell BK285.out 4).trans rfl⟩ (fun hHeld => ?_)
            clear hK K
            refine norm_ (a' := ?_) ?_ ?_
            rotate_left
            ·show Act.put _ (some 82) _ = _
             simp only [Act.put, List.setIfInBounds_toArray, List.set_cons_zero, List.set_cons_succ, i64_w, i32_w]
             rfl
            refine pure_ (i := 9) (N := some 4) (v := ?_) (a' := ?_) #[true, true, true, true, true, true, true, true, true, true, false] rfl rfl (any_of HT_.out (by kernel_rfl)) (fun _ _ _ h => h) (Or.inl ⟨by rfl, ?_⟩) ?_ ?_
            rotate_left
            ·intro w'
             go_simp
             with_reducible rfl
            rotate_left
            ·simp only [Act.put, List.setIfInBounds_toArray, List.set_cons_zero, List.set_cons_succ, i64_w, i32_w]
             rfl
            refine pure_ (i := 10) (N := some 5) (v := ?_) (a' := ?_) #[true, true, true, true, true, true, true, true, true, true, true] rfl rfl (any_of HT_.out (by kernel_rfl)) (fun _ _ _ h => h) (Or.inl ⟨by rfl, ?_⟩) ?_ ?_
            rotate_left
            ·intro w'
             go_simp
             with_reducible rfl
            rotate_left
            ·simp only [Act.put, List.setIfInBounds_toArray, List.set_cons_zero, List.set_cons_succ, i64_w, i32_w]
             rfl
            refine done_ (done_of HT_.out (by kernel_rfl)) ?_
            try go_wp2
            go_ret2
            exact ⟨_, er, by (with_reducible repeat (first | apply Kd.R_alloc | apply Kd.R_drewN | apply Kd.R_drew)); exact Kd.R_mono HO330.out (fun _ hk => trivial), by repeat (first | (with_reducible first | exact HB.out | apply below_alloc | apply pw_below_drewN | apply below_drew1 | refine below_set ?_ GE285.out) | exact HB.out)⟩
           ·rw [if_neg c61] at H
            have c61b0 : (x21_10 == 6) = false := beq_eq_false_iff_ne.mpr c61
            have c61b1 : (x21_10 != 6) = true := bne_iff_ne.mpr c61
            by_cases c69 : x21_10 = 7
            ·rw [if_pos c69] at H
             have c69b0 : (x21_10 == 7) = true := beq_iff_eq.mpr c69
             have c69b1 : (x21_10 != 7) = false := bne_eq_false_iff_eq.mpr c69
             clear c69
             obtain ⟨y331, hy331⟩ : ∃ y_ : List Int, y_ = (([0] : List Int)) := ⟨_, rfl⟩
             replace H : (if y293.length + y331.length < 140737488355328 then (some ((y293 ++ y331), 0)) else (none)) = some (r1, r2) := by first | (rw [hy331]; with_reducible exact H) | (have H2_ := (Option.bind_some _ _).symm.trans H; rw [hy331]; with_reducible exact H2_) | (have H2_ := (Option.bind_some _ _).symm.trans H; with_reducible exact H2_) | with_reducible exact H | (rw [hy331]; exact H) | exact H
             have Ny331 := Aside0.mk hy331
             clear hy331
             by_cases c70 : y293.length + y331.length < 140737488355328
             ·rw [if_pos c70] at H
              have LMc70 := Aside0.mk c70
              clear c70
              obtain ⟨y334, hy334⟩ : ∃ y_ : List Int, y_ = (y293 ++ y331) := ⟨_, rfl⟩
              replace H : (some (y334, 0)) = some (r1, r2) := by first | (rw [hy334]; with_reducible exact H) | (have H2_ := (Option.bind_some _ _).symm.trans H; rw [hy334]; with_reducible exact H2_) | (have H2_ := (Option.bind_some _ _).symm.trans H; with_reducible exact H2_) | with_reducible exact H | (rw [hy334]; exact H) | exact H
              have Ny334 := Aside0.mk hy334
              clear hy334
              simp only [Option.some.injEq, Prod.mk.injEq] at H
              obtain ⟨rfl, rfl⟩ := H
              go_wp2_with (first | ((with_reducible refine gate_dst (N := 86) rfl ?_); refine Kd.R_lit (Kd.int .u8) _ 5 ?hg (N := 86) ?hd (xs := ([0] : List Int)) (inner := [.int .u8 0]) (ok := fun _ => True) (okp := fun _ => True) ?hr ?hp (fun _ hk => hk) trivial (Below.refl _ _) (Nat.le_refl _) (by simp) ?_; (case hd => rfl); (case hg => rfl); (case hr => first | (go_simp; done) | (go_simp; rfl)); (case hp => exact (Reps.one (show Kd.M (Kd.int .u8) _ _ _ 0 [.int .u8 0] from rfl) (Reps.none _ _))); intro v332 w71 ho72 hb hg_ hnew_; clear hg_ hnew_; (first | rw [← Ny331.out] at ho72 | (simp only [Int.reduceToNat] at ho72; rw [← Ny331.out] at ho72)); have n0_ := Aside0.mk (Kd.R_elder' (ra HO_6) (Kd.R_base ho72) hb); have n1_ := Aside0.mk (Kd.R_lower (Kd.R_new' ho72 (Kd.R_lt (ra HO_6))) (below_size blx)); have n2_ := Aside0.mk (blk_below (bk BK285) hb); have n3_ := Aside0.mk (below_step blx hb); clear HO_6; clear BK285; clear HB; have HO_6 := n0_; have HO333 := n1_; have BK285 := n2_; have HB := n3_; clear n0_ n1_ n2_ n3_; clear hb ho72; obtain ⟨Ao74, co74, eo74⟩ := Kd.R_slice HO333.out; subst eo74) | ((with_reducible refine gate_builtin (b := .append) (xs := #[.tmp 85, .tmp 86]) rfl ?_); at_builtin; refine Kd.R_append_rows (Kd.int .u8) (w0 := w) w.heap.size rfl (.tmp 85) (.tmp 86) 41 5 (.int .u8 0) 1 rfl Tryd.underlying41 info5 rfl (by decide) (by omega) v294 y293 y331 _ _ _ (fun k_ => some k_ ≠ (.slice Ao74 y331.length co74 : Value).ownBlock) (fun _ => False) rfl rfl ?aO ?aR (fun _ _ h => h) (fun _ h => h.elim) ?aF ?aB ?aS ?aL ?_; (case aR => repeat (first | exact (Kd.R_reads' HO333.out).2.2 | (with_reducible refine Kd.C_alloc ?_ _) | (with_reducible refine Kd.C_drewN ?_ _) | (with_reducible refine Kd.C_drew ?_))); (case aB => exact blx); (case aF => exact (fun k_ hk => Kd.fresh' (Kd.R_lt (ra HO333)) k_ hk)); (case aO => exact (by (with_reducible repeat (first | apply Kd.R_alloc | apply Kd.R_drewN | apply Kd.R_drew)); exact Kd.R_mono HO_6.out (fun _ hk => hk.2))); (case aS => exact (below_size blx)); (case aL => have := LMc70.out; omega); intro v335 w73 ho hb hg hat; rw [← Ny334.out] at ho; have n0_ := Aside0.mk (blk_grown (g := gb285) (o := .cells #[.int .i64 a1_0, .int .i64 a1_1, .int .i64 a1_2, .int .u64 a1_3, .slice A1_4 l1_4.length c1_4] 33 (0, 0)) (bk BK285) hg (Kd.R_ne HO_6.out BK285.out (by decide))); have n1_ := Aside0.mk (Kd.R_after (ok := (fun _ => True)) (ra HO333) hg hat); have n2_ := Aside0.mk (hb); have n3_ := Aside0.mk (ho); clear BK285; clear HO333; clear HB; clear HO_6; have BK285 := n0_; have HO333 := n1_; have HB := n2_; have HO336 := n3_; clear n0_ n1_ n2_ n3_; clear ho hb hg hat))
              go_ret2
              exact ⟨_, er, by (with_reducible repeat (first | apply Kd.R_alloc | apply Kd.R_drewN | apply Kd.R_drew)); exact Kd.R_mono HO336.out (fun _ hk => trivial), by repeat (first | (with_reducible first | exact HB.out | apply below_alloc | apply pw_below_drewN | apply below_drew1 | refine below_set ?_ GE285.out) | exact HB.out)⟩
             ·rw [if_neg c70] at H
              exact absurd H (by simp)
            ·rw [if_neg c69] at H
             have c69b0 : (x21_10 == 7) = false := beq_eq_false_iff_ne.mpr c69
             have c69b1 : (x21_10 != 7) = true := bne_iff_ne.mpr c69
             by_cases c75 : x21_10 = 8
             ·rw [if_pos c75] at H
              have c75b0 : (x21_10 == 8) = true := beq_iff_eq.mpr c75
              have c75b1 : (x21_10 != 8) = false := bne_eq_false_iff_eq.mpr c75
              clear c75
              replace H := Option.bind_eq_some_iff.mp H
              obtain ⟨t337, A760, H⟩ := H
              replace H : (some (t337, 0)) = some (r1, r2) := H
              have A76 := Aside0.mk A760
              clear A760
              simp only [Option.some.injEq, Prod.mk.injEq] at H
              obtain ⟨rfl, rfl⟩ := H
              obtain ⟨hcz77_0, hcz77_1, hcz77_2, hcz77_3, hcz77_4⟩ := cells5 BK285.out
              obtain ⟨hfz77_0, hfz77_1, hfz77_2, hfz77_3, hfz77_4⟩ := froz5 BK285.out
              obtain ⟨Ao78, co78, eo78⟩ := Kd.R_slice HO_6.out
              subst eo78
              go_wp2_with (first | ((with_reducible refine gate_callee (f := 59) rfl ?_); refine goesL_ (some 95) rfl rfl Tryd.func59 (by kernel_rfl) rfl #[.slice Ao78 y293.length co78, .int .i64 (wrap64 (wrap32 (a1_3)))] rfl am ?_; (with_reducible refine (leb_S.calls kj10 _ _ y293 (wrap64 (wrap32 (a1_3))) t337 _ ?side1 ?side2 A76.out).mono ?_); (case side1 => repeat (first | exact (Kd.R_reads' HO_6.out).2.2 | (with_reducible refine Kd.C_alloc ?_ _) | (with_reducible refine Kd.C_drewN ?_ _) | (with_reducible refine Kd.C_drew ?_))); (case side2 => exact (Kd.R_reads' HO_6.out).2.1); rintro e w79 ⟨v338, rfl, ho0, hb⟩; refine ⟨_, rfl, ?_⟩; have n0_ := Aside0.mk (Kd.R_elder' (ra HO_6) (Kd.R_base ho0) hb); have n1_ := Aside0.mk (Kd.R_lower (Kd.R_new' ho0 (Kd.R_lt (ra HO_6))) (below_size blx)); have n2_ := Aside0.mk (blk_below (bk BK285) hb); have n3_ := Aside0.mk (below_step blx hb); clear HO_6; clear BK285; clear HB; have HO_6 := n0_; have HO339 := n1_; have BK285 := n2_; have HB := n3_; clear n0_ n1_ n2_ n3_; (try clear hb); (try clear hb2); (try clear hk); (try clear hi); (try clear ho0)))
              go_ret2
              exact ⟨_, er, by (with_reducible repeat (first | apply Kd.R_alloc | apply Kd.R_drewN | apply Kd.R_drew)); exact Kd.R_mono HO339.out (fun _ hk => trivial), by repeat (first | (with_reducible first | exact HB.out | apply below_alloc | apply pw_below_drewN | apply below_drew1 | refine below_set ?_ GE285.out) | exact HB.out)⟩
             ·rw [if_neg c75] at H
              have c75b0 : (x21_10 == 8) = false := beq_eq_false_iff_ne.mpr c75
              have c75b1 : (x21_10 != 8) = true := bne_iff_ne.mpr c75
              by_cases c80 : x21_10 = 9
              ·rw [if_pos c80] at H
               have c80b0 : (x21_10 == 9) = true := beq_iff_eq.mpr c80
               have c80b1 : (x21_10 != 9) = false := bne_eq_false_iff_eq.mpr c80
               clear c80
               replace H := Option.bind_eq_some_iff.mp H
               obtain ⟨t340, A810, H⟩ := H
               replace H : (some (t340, 0)) = some (r1, r2) := H
               have A81 := Aside0.mk A810
               clear A810
               simp only [Option.some.injEq, Prod.mk.injEq] at H
               obtain ⟨rfl, rfl⟩ := H
               obtain ⟨hcz82_0, hcz82_1, hcz82_2, hcz82_3, hcz82_4⟩ := cells5 BK285.out
               obtain ⟨hfz82_0, hfz82_1, hfz82_2, hfz82_3, hfz82_4⟩ := froz5 BK285.out
               obtain ⟨Ao83, co83, eo83⟩ := Kd.R_slice HO_6.out
               subst eo83
               go_wp2_with (first | ((with_reducible refine gate_callee (f := 59) rfl ?_); refine goesL_ (some 102) rfl rfl Tryd.func59 (by kernel_rfl) rfl #[.slice Ao83 y293.length co83, .int .i64 (wrap64 (a1_3))] rfl am ?_; (with_reducible refine (leb_S.calls kj10 _ _ y293 (wrap64 (a1_3)) t340 _ ?side1 ?side2 A81.out).mono ?_); (case side1 => repeat (first | exact (Kd.R_reads' HO_6.out).2.2 | (with_reducible refine Kd.C_alloc ?_ _) | (with_reducible refine Kd.C_drewN ?_ _) | (with_reducible refine Kd.C_drew ?_))); (case side2 => exact (Kd.R_reads' HO_6.out).2.1); rintro e w84 ⟨v341, rfl, ho0, hb⟩; refine ⟨_, rfl, ?_⟩; have n0_ := Aside0.mk (Kd.R_elder' (ra HO_6) (Kd.R_base ho0) hb); have n1_ := Aside0.mk (Kd.R_lower (Kd.R_new' ho0 (Kd.R_lt (ra HO_6))) (below_size blx)); have n2_ := Aside0.mk (blk_below (bk BK285) hb); have n3_ := Aside0.mk (below_step blx hb); clear HO_6; clear BK285; clear HB; have HO_6 := n0_; have HO342 := n1_; have BK285 := n2_; have HB := n3_; clear n0_ n1_ n2_ n3_; (try clear hb); (try clear hb2); (try clear hk); (try clear hi); (try clear ho0)))
               go_ret2
               exact ⟨_, er, by (with_reducible repeat (first | apply Kd.R_alloc | apply Kd.R_drewN | apply Kd.R_drew)); exact Kd.R_mono HO342.out (fun _ hk => trivial), by repeat (first | (with_reducible first | exact HB.out | apply below_alloc | apply pw_below_drewN | apply below_drew1 | refine below_set ?_ GE285.out) | exact HB.out)⟩
              ·rw [if_neg c80] at H
               have c80b0 : (x21_10 == 9) = false := beq_eq_false_iff_ne.mpr c80
               have c80b1 : (x21_10 != 9) = true := bne_iff_ne.mpr c80
               simp only [Option.some.injEq, Prod.mk.injEq] at H
               obtain ⟨rfl, rfl⟩ := H
               go_wp2
               go_ret2
               exact ⟨_, er, by (with_reducible repeat (first | apply Kd.R_alloc | apply Kd.R_drewN | apply Kd.R_drew)); exact HO_6.out, by repeat (first | (with_reducible first | exact HB.out | apply below_alloc | apply pw_below_drewN | apply below_drew1 | refine below_set ?_ GE285.out) | exact HB.out)⟩
    ·rw [if_neg c10] at H
     exact absurd H (by simp)

end Go.Proofs.YtklnkkejkeelaaaDoor.X
