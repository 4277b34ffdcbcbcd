-- Printed by xprint, a tool of this work; Lean checks it.
import Derived.Test.YtklnkkejkeelaaaDoorXx0
namespace Go.Proofs.YtklnkkejkeelaaaDoor.X
open Go.RowKit Go.Proofs.YtklnkkejkeelaaaDoorW.PrintWords Go.Proofs.YtklnkkejkeelaaaDoorW.PrintLast Go.Proofs.YtklnkkejkeelaaaDoorW.PrintMore
attribute [local go_sem] max2_int min2_int max_two min_two max_three min_three max_four min_four   -- for this text's walks alone
set_option linter.unusedVariables false
set_option linter.unusedSimpArgs false

/-- A state of type 80 at block g of W; what its slices lead to came in by w0. -/
def IsS80 (w0 W : World) (g : Nat) (f0 : List Int) (f1 : Int) (f2 : Int) : Prop := ∃ A0 c0, W.heap[g]? = some (.cells #[.slice A0 f0.length c0, .int .i64 f1, .int .i64 f2] 80 (0, 0)) ∧ w0.heap.size ≤ g ∧ Kd.C (Kd.int .u8) w0 A0 f0.length f0 ∧ f0.length ≤ c0
theorem IsS80.grown {w0 W : World} {g : Nat} {f0 : List Int} {f1 : Int} {f2 : Int} {W1 : World} {row : Option Nat} (h : IsS80 w0 W g f0 f1 f2) (hw : W.grownBy W1 row) (hne : some g ≠ row) : IsS80 w0 W1 g f0 f1 f2 := by
 obtain ⟨A0, c0, hb, hg, hr0, hq0⟩ := h
 exact ⟨A0, c0, blk_grown hb hw hne, hg, hr0, hq0⟩
theorem IsS80.own_neN {w0 W : World} {g : Nat} {f0 : List Int} {f1 : Int} {f2 : Int} {α : Type} {d : Kd α} {e : Nat} {base : Nat} {ok : Nat → Prop} {v : Value} {xs : List α} (h : IsS80 w0 W g f0 f1 f2) (ho : Kd.N d e W base ok v xs) (ht : e ≠ 80) : some g ≠ v.ownBlock := by
 obtain ⟨A0, c0, hb, hg, hr0, hq0⟩ := h
 exact Kd.N_ne ho hb ht
theorem IsS80.fresh {w0 W : World} {g : Nat} {f0 : List Int} {f1 : Int} {f2 : Int} (h : IsS80 w0 W g f0 f1 f2) : ∀ k, W.heap.size ≤ k → k ≠ g := by
 obtain ⟨A0, c0, hb, hg, hr0, hq0⟩ := h
 exact Kd.freshB hb
theorem IsS80.kept {w0 W : World} {g : Nat} {f0 : List Int} {f1 : Int} {f2 : Int} {W1 : World} {S : Nat → Prop} (h : IsS80 w0 W g f0 f1 f2) (hk : Kept W W1 S) (hne : ¬ S g) : IsS80 w0 W1 g f0 f1 f2 := by
 obtain ⟨A0, c0, hb, hg, hr0, hq0⟩ := h
 exact ⟨A0, c0, blk_kept hb hk hne, hg, hr0, hq0⟩
theorem IsS80.below {w0 W : World} {g : Nat} {f0 : List Int} {f1 : Int} {f2 : Int} {W1 : World} (h : IsS80 w0 W g f0 f1 f2) (hw : Below W.heap.size W W1) : IsS80 w0 W1 g f0 f1 f2 := h.grown (grown_of_below hw none) (by simp)
theorem IsS80.alloc {w0 W : World} {g : Nat} {f0 : List Int} {f1 : Int} {f2 : Int} (h : IsS80 w0 W g f0 f1 f2) (o : Obj) : IsS80 w0 (W.alloc o) g f0 f1 f2 := h.below (below_alloc (Below.refl _ _) o)
theorem IsS80.drewN {w0 W : World} {g : Nat} {f0 : List Int} {f1 : Int} {f2 : Int} (h : IsS80 w0 W g f0 f1 f2) (m : Nat) : IsS80 w0 (W.drewN m) g f0 f1 f2 := h
theorem IsS80.drew {w0 W : World} {g : Nat} {f0 : List Int} {f1 : Int} {f2 : Int} (h : IsS80 w0 W g f0 f1 f2) : IsS80 w0 W.drew g f0 f1 f2 := h
theorem IsS80.at_ {w0 W : World} {g : Nat} {f0 : List Int} {f1 : Int} {f2 : Int} {w' : World} {m : Nat} (hq : W.drewN m = w') (h : IsS80 w0 W g f0 f1 f2) : IsS80 w0 w' g f0 f1 f2 := by subst hq; exact IsS80.drewN h m
theorem IsS80.apart {w0 W : World} {g : Nat} {f0 : List Int} {f1 : Int} {f2 : Int} {α : Type} {d : Kd α} {e : Nat} {base : Nat} {ok : Nat → Prop} {v : Value} {xs : List α} (h : IsS80 w0 W g f0 f1 f2) (ho : d.R e W base ok v xs) (ht : ∀ q, q ∈ e :: d.E → q ≠ 80) : d.R e W base (fun k => ok k ∧ k ≠ g) v xs := by
 obtain ⟨A0, c0, hb, hg, hr0, hq0⟩ := h
 exact Kd.R_types ho hb ht
theorem IsS80.own_ne {w0 W : World} {g : Nat} {f0 : List Int} {f1 : Int} {f2 : Int} {α : Type} {d : Kd α} {e : Nat} {base : Nat} {ok : Nat → Prop} {v : Value} {xs : List α} (h : IsS80 w0 W g f0 f1 f2) (ho : d.R e W base ok v xs) (ht : e ≠ 80) : some g ≠ v.ownBlock := by
 obtain ⟨A0, c0, hb, hg, hr0, hq0⟩ := h
 exact Kd.R_ne ho hb ht
theorem IsS80.apartQ {w0 W : World} {g : Nat} {f0 : List Int} {f1 : Int} {f2 : Int} {α : Type} {d : Kd α} {e : Nat} {base : Nat} {ok : Nat → Prop} {v : Value} {xs : List α} (h : IsS80 w0 W g f0 f1 f2) (ho : d.Q e W base ok v xs) (ht : ∀ q, q ∈ e :: d.E → q ≠ 80) : d.Q e W base (fun k => ok k ∧ k ≠ g) v xs := by
 obtain ⟨A0, c0, hb, hg, hr0, hq0⟩ := h
 exact Kd.Q_types ho hb ht
theorem IsS80.own_neQ {w0 W : World} {g : Nat} {f0 : List Int} {f1 : Int} {f2 : Int} {α : Type} {d : Kd α} {e : Nat} {base : Nat} {ok : Nat → Prop} {v : Value} {xs : List α} (h : IsS80 w0 W g f0 f1 f2) (ho : d.Q e W base ok v xs) (ht : e ≠ 80) : some g ≠ v.ownBlock := by
 obtain ⟨A0, c0, hb, hg, hr0, hq0⟩ := h
 exact Kd.Q_ne ho hb ht
theorem IsS80.apartS {w0 W : World} {g : Nat} {f0 : List Int} {f1 : Int} {f2 : Int} {α : Type} {d : Kd α} {e : Nat} {base : Nat} {ok : Nat → Prop} {v : Value} {xs : List α} (h : IsS80 w0 W g f0 f1 f2) (ho : d.S e W base ok v xs) (ht : ∀ q, q ∈ e :: d.E → q ≠ 80) : d.S e W base (fun k => ok k ∧ k ≠ g) v xs := by
 obtain ⟨A0, c0, hb, hg, hr0, hq0⟩ := h
 exact Kd.S_types ho hb ht
theorem IsS80.own_neS {w0 W : World} {g : Nat} {f0 : List Int} {f1 : Int} {f2 : Int} {α : Type} {d : Kd α} {e : Nat} {base : Nat} {ok : Nat → Prop} {v : Value} {xs : List α} (h : IsS80 w0 W g f0 f1 f2) (ho : d.S e W base ok v xs) (ht : e ≠ 80) : some g ≠ v.ownBlock := by
 obtain ⟨A0, c0, hb, hg, hr0, hq0⟩ := h
 exact Kd.S_ne ho hb ht
theorem IsS80.lt {w0 W : World} {g : Nat} {f0 : List Int} {f1 : Int} {f2 : Int} (h : IsS80 w0 W g f0 f1 f2) : g < W.heap.size := by
 obtain ⟨A0, c0, hb, hg, hr0, hq0⟩ := h
 exact blk_lt hb
theorem IsS80.ge {w0 W : World} {g : Nat} {f0 : List Int} {f1 : Int} {f2 : Int} (h : IsS80 w0 W g f0 f1 f2) : w0.heap.size ≤ g := by
 obtain ⟨A0, c0, hb, hg, hr0, hq0⟩ := h
 exact hg
theorem IsS80.ne_blk {w0 W : World} {g : Nat} {f0 : List Int} {f1 : Int} {f2 : Int} {a : Nat} {cs : Array Value} {t : TypeId} {fr : Nat × Nat} (h : IsS80 w0 W g f0 f1 f2) (hb2 : W.heap[a]? = some (.cells cs t fr)) (ht : t ≠ 80) : g ≠ a := by
 obtain ⟨A0, c0, hb, hg, hr0, hq0⟩ := h
 rintro rfl
 rw [hb] at hb2
 injection hb2 with hb2
 injection hb2 with _ ht2
 exact ht ht2.symm
theorem IsS80.far {w0 W : World} {g : Nat} {f0 : List Int} {f1 : Int} {f2 : Int} {p : Addr} (h : IsS80 w0 W g f0 f1 f2) (hne : g ≠ p.block) (u : Value) : IsS80 w0 (W.setCell p u) g f0 f1 f2 := by
 obtain ⟨A0, c0, hb, hg, hr0, hq0⟩ := h
 exact ⟨A0, c0, blk_far hb hne u, hg, hr0, hq0⟩
theorem cellS80_0 {W : World} {g : Nat} {A0 : Option Addr} {c0 : Nat} {f0 : List Int} {f1 : Int} {f2 : Int} (h : W.heap[g]? = some (.cells #[.slice A0 f0.length c0, .int .i64 f1, .int .i64 f2] 80 (0, 0))) : W.cell? ⟨g, 0, none⟩ = some (.slice A0 f0.length c0) := (blk_cell h 0).trans rfl
theorem cellS80_1 {W : World} {g : Nat} {A0 : Option Addr} {c0 : Nat} {f0 : List Int} {f1 : Int} {f2 : Int} (h : W.heap[g]? = some (.cells #[.slice A0 f0.length c0, .int .i64 f1, .int .i64 f2] 80 (0, 0))) : W.cell? ⟨g, 1, none⟩ = some (.int .i64 f1) := (blk_cell h 1).trans rfl
theorem IsS80.set_1 {w0 W : World} {g : Nat} {f0 : List Int} {f1 : Int} {f2 : Int} (h : IsS80 w0 W g f0 f1 f2) (x : Int) : IsS80 w0 (W.setCell ⟨g, 1, none⟩ (.int .i64 x)) g f0 x f2 := by
 obtain ⟨A0, c0, hb, hg, hr0, hq0⟩ := h
 exact ⟨A0, c0, by simpa using blk_set hb 1 (.int .i64 x), hg, hr0, hq0⟩
theorem cellS80_2 {W : World} {g : Nat} {A0 : Option Addr} {c0 : Nat} {f0 : List Int} {f1 : Int} {f2 : Int} (h : W.heap[g]? = some (.cells #[.slice A0 f0.length c0, .int .i64 f1, .int .i64 f2] 80 (0, 0))) : W.cell? ⟨g, 2, none⟩ = some (.int .i64 f2) := (blk_cell h 2).trans rfl
theorem IsS80.set_2 {w0 W : World} {g : Nat} {f0 : List Int} {f1 : Int} {f2 : Int} (h : IsS80 w0 W g f0 f1 f2) (x : Int) : IsS80 w0 (W.setCell ⟨g, 2, none⟩ (.int .i64 x)) g f0 f1 x := by
 obtain ⟨A0, c0, hb, hg, hr0, hq0⟩ := h
 exact ⟨A0, c0, by simpa using blk_set hb 2 (.int .i64 x), hg, hr0, hq0⟩
theorem IsS80.new (w0 W : World) (A0 : Option Addr) (c0 : Nat) (f0 : List Int) (f1 : Int) (f2 : Int) (hB : Below w0.heap.size w0 W) (hr0 : Kd.C (Kd.int .u8) w0 A0 f0.length f0) (hq0 : f0.length ≤ c0) : IsS80 w0 (W.alloc (.cells #[.slice A0 f0.length c0, .int .i64 f1, .int .i64 f2] 80)) W.heap.size f0 f1 f2 := ⟨A0, c0, by simpa using heap_alloc_new W _, hB.size, hr0, hq0⟩

/-! ### instr_reader_byte: function 63 -/
def instr_reader_byte.j0 : Nat → Bool → List Int → Int → Int → Option (Int × Int × Int)
 | 0, _, _, _, _ => none
 | k + 1, x19, x1000, x1001, x1002 => if x19 = true then (some (0, x1001, 2)) else (if x1002 = 0 then (if 0 ≤ (wrap64 ((wrap64 (x1001 + 1)) - 1)) then (if (wrap64 ((wrap64 (x1001 + 1)) - 1)) < (x1000.length : Int) then (some (wrap64 (rd x1000 (wrap64 ((wrap64 (x1001 + 1)) - 1))), wrap64 (x1001 + 1), x1002)) else (none)) else (none)) else (some (0, x1001, x1002)))
def instr_reader_byte.f (k : Nat) (s0_0 : List Int) (s0_1 : Int) (s0_2 : Int) : Option (Int × Int × Int) := if s0_2 = 0 then (instr_reader_byte.j0 k (decide (s0_1 ≥ (s0_0.length : Int))) s0_0 s0_1 s0_2) else (instr_reader_byte.j0 k false s0_0 s0_1 s0_2)
theorem instr_reader_byte.mono_l : ∀ k, (∀ y0 y1 y2 y3, LeO (instr_reader_byte.j0 k y0 y1 y2 y3) (instr_reader_byte.j0 (k + 1) y0 y1 y2 y3))
 | 0 => fun _ _ _ _ r h => by simp [instr_reader_byte.j0] at h
 | k + 1 => by
  have ih0 := instr_reader_byte.mono_l k
  ·intro y0 y1 y2 y3
   unfold instr_reader_byte.j0
   repeat' first
   | (with_reducible exact ih0 _ _ _ _)
   | (with_reducible exact LeO.refl _)
   | (with_reducible exact LeO.none _)
   | (with_reducible refine LeO.ite ?_ ?_)
   | (with_reducible refine LeO.bind ?_ (fun _ => ?_))
   | exact ih0 _ _ _ _
   | exact LeO.none _
   | refine LeO.ite ?_ ?_
   | refine LeO.bind ?_ (fun _ => ?_)
theorem instr_reader_byte.mono : ∀ a0 a1 a2 k, LeO (instr_reader_byte.f k a0 a1 a2) (instr_reader_byte.f (k + 1) a0 a1 a2) := by
 intro a0 a1 a2 k
 have ih0 := instr_reader_byte.mono_l k
 unfold instr_reader_byte.f
 repeat' first
   | (with_reducible exact ih0 _ _ _ _)
   | (with_reducible exact LeO.refl _)
   | (with_reducible exact LeO.none _)
   | (with_reducible refine LeO.ite ?_ ?_)
   | (with_reducible refine LeO.bind ?_ (fun _ => ?_))
   | exact ih0 _ _ _ _
   | exact LeO.none _
   | refine LeO.ite ?_ ?_
   | refine LeO.bind ?_ (fun _ => ?_)
set_option maxHeartbeats 8000000 in
set_option maxRecDepth 100000 in
theorem instr_reader_byte.calls (k : Nat) (g : Nat) (s0_0 : List Int) (s0_1 : Int) (s0_2 : Int) (r1 : Int) (r2 : Int) (r3 : Int) (w0 w : World) (hI : IsS80 w0 w g s0_0 s0_1 s0_2) (hB : Below w0.heap.size w0 w) (h : instr_reader_byte.f k s0_0 s0_1 s0_2 = some (r1, r2, r3)) :
  Calls Tryd.prog 63 #[.pointer (some ⟨g, 0, none⟩)] w fun e w' => e = .returned (.int .i64 r1) ∧ IsS80 w0 w' g s0_0 r2 r3 ∧ Below w0.heap.size w0 w' ∧ KeepBut w w' g none := by
 have HI0 := Aside0.mk hI
 have HK := Aside0.mk (KeepBut.refl w g none)
 have HL := Aside0.mk hB.size
 clear hI
 have HW0 := Aside0.mk hB.size
 have HB := Aside0.mk hB
 clear hB
 have H : (if s0_2 = 0 then (instr_reader_byte.j0 k (decide (s0_1 ≥ (s0_0.length : Int))) s0_0 s0_1 s0_2) else (instr_reader_byte.j0 k false s0_0 s0_1 s0_2)) = some (r1, r2, r3) := h
 clear h
 have HC2 := Aside0.mk H
 clear H
 go_enter Tryd.func63, Tryd.ntmps63
 go_upto_region 1 with (fail)
 repeat (go_quiet (fail); go_upto_region 1 with (fail))
 go_cut [19] (fun v19 wc => ∃ (kq : Nat) (x19_1 : Bool), v19 = .bool x19_1 ∧ Aside0 (instr_reader_byte.j0 kq x19_1 s0_0 s0_1 s0_2 = some (r1, r2, r3)) ∧ Aside0 (kq ≤ k) ∧ Aside0 (IsS80 w0 wc g s0_0 s0_1 s0_2) ∧ Aside0 (KeepBut w wc g none) ∧ Aside0 (Below w0.heap.size w0 wc))
 case first =>
  have H := HC2.out
  clear HC2
  by_cases c3 : s0_2 = 0
  ·rw [if_pos c3] at H
   have c3b0 : (s0_2 == 0) = true := beq_iff_eq.mpr c3
   have c3b1 : (s0_2 != 0) = false := bne_eq_false_iff_eq.mpr c3
   clear c3
   (first | rw [c3b0] | (simp only [i64_w, i32_w]; rw [c3b0]) | skip)
   have H' := Aside0.mk H
   clear H
   obtain ⟨ASz4_0, cSz4_0, HGz4, hgz4, HSz4_0, HQz4_0⟩ := HI0.out
   have hcz4_0 := cellS80_0 HGz4
   have hcz4_1 := cellS80_1 HGz4
   have hcz4_2 := cellS80_2 HGz4
   have hfz4_1 := blk_frozen HGz4 1
   have hfz4_2 := blk_frozen HGz4 2
   clear HGz4 hgz4
   go_wp2
   repeat (go_quiet (fail); try go_wp2)
   go_meet
   case rel => exact ⟨_, (decide (s0_1 ≥ (s0_0.length : Int))), rs, H', ⟨by first | omega | exact Nat.le_refl _⟩, ⟨by repeat (first | (with_reducible first | exact HI0.out | apply IsS80.alloc | apply IsS80.drewN | apply IsS80.drew | apply IsS80.set_1 | apply IsS80.set_2) | exact HI0.out)⟩, ⟨kl⟩, ⟨by repeat (first | (with_reducible first | exact HB.out | apply below_alloc | apply pw_below_drewN | apply below_drew1 | refine below_set ?_ (IsS80.ge HI0.out)) | exact HB.out)⟩⟩
  ·rw [if_neg c3] at H
   have c3b0 : (s0_2 == 0) = false := beq_eq_false_iff_ne.mpr c3
   have c3b1 : (s0_2 != 0) = true := bne_iff_ne.mpr c3
   (first | rw [c3b0] | (simp only [i64_w, i32_w]; rw [c3b0]) | skip)
   have H' := Aside0.mk H
   clear H
   obtain ⟨ASz5_0, cSz5_0, HGz5, hgz5, HSz5_0, HQz5_0⟩ := HI0.out
   have hcz5_0 := cellS80_0 HGz5
   have hcz5_1 := cellS80_1 HGz5
   have hcz5_2 := cellS80_2 HGz5
   have hfz5_1 := blk_frozen HGz5 1
   have hfz5_2 := blk_frozen HGz5 2
   clear HGz5 hgz5
   go_wp2
   repeat (go_quiet (fail); try go_wp2)
   go_meet
   case rel => exact ⟨_, (false), rs, H', ⟨by first | omega | exact Nat.le_refl _⟩, ⟨by repeat (first | (with_reducible first | exact HI0.out | apply IsS80.alloc | apply IsS80.drewN | apply IsS80.drew | apply IsS80.set_1 | apply IsS80.set_2) | exact HI0.out)⟩, ⟨kl⟩, ⟨by repeat (first | (with_reducible first | exact HB.out | apply below_alloc | apply pw_below_drewN | apply below_drew1 | refine below_set ?_ (IsS80.ge HI0.out)) | exact HB.out)⟩⟩
 case rest =>
  clear HC2
  (try clear p2); (try clear c3); (try clear c3b0); (try clear c3b1); (try clear hcz4_0); (try clear hcz4_1); (try clear hcz4_2); (try clear hcz5_0); (try clear hcz5_1); (try clear hcz5_2); (try clear hfz4_1); (try clear hfz4_2); (try clear hfz5_1); (try clear hfz5_2)
  obtain ⟨kq, x19_1, rfl, HA, HJ1, HI0, HK, HB⟩ := hcut
  cases kq with
  | zero => exact absurd HA.out (by simp [instr_reader_byte.j0])
  | succ kj1 =>
   have H := HA.out
   clear HA
   simp only [instr_reader_byte.j0] at H
   by_cases c6 : x19_1 = true
   ·subst c6
    have H1 : (some (0, s0_1, 2)) = some (r1, r2, r3) := by rw [if_pos rfl] at H; exact H
    clear H
    have H := H1
    clear H1
    simp only [Option.some.injEq, Prod.mk.injEq] at H
    obtain ⟨rfl, rfl, rfl⟩ := H
    obtain ⟨ASz7_0, cSz7_0, HGz7, hgz7, HSz7_0, HQz7_0⟩ := HI0.out
    have hcz7_0 := cellS80_0 HGz7
    have hcz7_1 := cellS80_1 HGz7
    have hcz7_2 := cellS80_2 HGz7
    have hfz7_1 := blk_frozen HGz7 1
    have hfz7_2 := blk_frozen HGz7 2
    clear HGz7 hgz7
    go_wp2
    repeat (go_quiet (fail); try go_wp2)
    go_ret
    exact ⟨er, by repeat (first | (with_reducible first | exact HI0.out | apply IsS80.alloc | apply IsS80.drewN | apply IsS80.drew | apply IsS80.set_1 | apply IsS80.set_2) | exact HI0.out), by repeat (first | (with_reducible first | exact HB.out | apply below_alloc | apply pw_below_drewN | apply below_drew1 | refine below_set ?_ (IsS80.ge HI0.out)) | exact HB.out), kl⟩
   ·replace c6 := Bool.eq_false_iff.mpr c6
    subst c6
    have H1 : (if s0_2 = 0 then (if 0 ≤ (wrap64 ((wrap64 (s0_1 + 1)) - 1)) then (if (wrap64 ((wrap64 (s0_1 + 1)) - 1)) < (s0_0.length : Int) then (some (wrap64 (rd s0_0 (wrap64 ((wrap64 (s0_1 + 1)) - 1))), wrap64 (s0_1 + 1), s0_2)) else (none)) else (none)) else (some (0, s0_1, s0_2))) = some (r1, r2, r3) := by rw [if_neg (show ¬ (false = true) by decide)] at H; exact H
    clear H
    have H := H1
    clear H1
    by_cases c8 : s0_2 = 0
    ·rw [if_pos c8] at H
     have c8b0 : (s0_2 == 0) = true := beq_iff_eq.mpr c8
     have c8b1 : (s0_2 != 0) = false := bne_eq_false_iff_eq.mpr c8
     clear c8
     obtain ⟨ji9, hji9⟩ : ∃ j_ : Int, (wrap64 ((wrap64 (s0_1 + 1)) - 1)) = j_ := ⟨_, rfl⟩
     replace H : (if 0 ≤ (ji9) then (if (ji9) < (s0_0.length : Int) then (some (wrap64 (rd s0_0 (ji9)), wrap64 (s0_1 + 1), s0_2)) else (none)) else (none)) = some (r1, r2, r3) := by first | (rw [hji9] at H; exact H) | (simp only [hji9] at H ⊢; exact H)
     have hji9w : (IntKind.i64.wrap ((wrap64 (s0_1 + 1)) - 1)) = ji9 := (i64_w _).trans hji9
     by_cases c10 : 0 ≤ (ji9)
     ·rw [if_pos c10] at H
      have c10b0 : decide (0 ≤ (ji9)) = true := decide_eq_true c10
      clear c10
      by_cases c11 : (ji9) < (s0_0.length : Int)
      ·rw [if_pos c11] at H
       have c11b0 : decide ((ji9) < (s0_0.length : Int)) = true := decide_eq_true c11
       clear c11
       simp only [Option.some.injEq, Prod.mk.injEq] at H
       obtain ⟨rfl, rfl, rfl⟩ := H
       obtain ⟨ASz12_0, cSz12_0, HGz12, hgz12, HSz12_0, HQz12_0⟩ := HI0.out
       have hcz12_0 := cellS80_0 HGz12
       have hcz12_1 := cellS80_1 HGz12
       have hcz12_2 := cellS80_2 HGz12
       have hfz12_1 := blk_frozen HGz12 1
       have hfz12_2 := blk_frozen HGz12 2
       clear HGz12 hgz12
       have p343 : 0 ≤ ((ji9) : Int) := of_decide_eq_true asm
       have q343 : (ji9) < (s0_0.length : Int) := of_decide_eq_true asm
       obtain ⟨ad343, e343, hx343_0⟩ := Kd.at_int HSz12_0 (ji9) p343 q343
       cases e343
       have hn343_0 : ad343.block ≠ g := Nat.ne_of_lt (Nat.lt_of_lt_of_le (by have := World.block_lt_of_cell? _ _ hx343_0; first | rwa [add_block] at this | exact this) (IsS80.ge HI0.out))
       replace hx343_0 := pw_cell_below HB.out hx343_0
       replace hx343_0 := (cell_far (p := ⟨g, 1, none⟩) (by first | (rw [add_block]; exact hn343_0) | (show (Addr.add _ _).block ≠ _; rw [add_block]; exact hn343_0) | exact hn343_0) (.int .i64 (wrap64 (s0_1 + 1)))).trans hx343_0
       (try have hy343_0 := fun (n_ : Nat) => (show (((wc.drewN n_).setCell ⟨g, 1, none⟩ (.int .i64 (wrap64 (s0_1 + 1))))).cell? _ = some _ from hx343_0))
       clear hn343_0
       replace p343 := eq_true p343
       replace q343 := eq_true q343
       go_wp2
       repeat (go_quiet (fail); try go_wp2)
       go_ret
       exact ⟨by first | rfl | (simp [errW_none, errW_some] <;> rfl) | (simp only [← hji9]; first | rfl | (simp [errW_none, errW_some] <;> rfl)) | (simp [*, errW_none, errW_some] <;> rfl), by repeat (first | (with_reducible first | exact HI0.out | apply IsS80.alloc | apply IsS80.drewN | apply IsS80.drew | apply IsS80.set_1 | apply IsS80.set_2) | exact HI0.out), by repeat (first | (with_reducible first | exact HB.out | apply below_alloc | apply pw_below_drewN | apply below_drew1 | refine below_set ?_ (IsS80.ge HI0.out)) | exact HB.out), kl⟩
      ·rw [if_neg c11] at H
       exact absurd H (by simp)
     ·rw [if_neg c10] at H
      exact absurd H (by simp)
    ·rw [if_neg c8] at H
     have c8b0 : (s0_2 == 0) = false := beq_eq_false_iff_ne.mpr c8
     have c8b1 : (s0_2 != 0) = true := bne_iff_ne.mpr c8
     simp only [Option.some.injEq, Prod.mk.injEq] at H
     obtain ⟨rfl, rfl, rfl⟩ := H
     obtain ⟨ASz13_0, cSz13_0, HGz13, hgz13, HSz13_0, HQz13_0⟩ := HI0.out
     have hcz13_0 := cellS80_0 HGz13
     have hcz13_1 := cellS80_1 HGz13
     have hcz13_2 := cellS80_2 HGz13
     have hfz13_1 := blk_frozen HGz13 1
     have hfz13_2 := blk_frozen HGz13 2
     clear HGz13 hgz13
     go_wp2
     repeat (go_quiet (fail); try go_wp2)
     go_ret
     exact ⟨er, by repeat (first | (with_reducible first | exact HI0.out | apply IsS80.alloc | apply IsS80.drewN | apply IsS80.drew | apply IsS80.set_1 | apply IsS80.set_2) | exact HI0.out), by repeat (first | (with_reducible first | exact HB.out | apply below_alloc | apply pw_below_drewN | apply below_drew1 | refine below_set ?_ (IsS80.ge HI0.out)) | exact HB.out), kl⟩

/-! ### instr_reader_must: function 64 -/
def instr_reader_must.f (s0_0 : List Int) (s0_1 : Int) (s0_2 : Int) (a1 : Bool) (a2 : Int) : Option (Int × Int) := if a1 = true then (some (s0_1, s0_2)) else (if s0_2 = 0 then (some (s0_1, a2)) else (some (s0_1, s0_2)))
set_option maxHeartbeats 8000000 in
set_option maxRecDepth 100000 in
theorem instr_reader_must.calls (g : Nat) (s0_0 : List Int) (s0_1 : Int) (s0_2 : Int) (a1 : Bool) (a2 : Int) (r1 : Int) (r2 : Int) (w0 w : World) (hI : IsS80 w0 w g s0_0 s0_1 s0_2) (hB : Below w0.heap.size w0 w) (h : instr_reader_must.f s0_0 s0_1 s0_2 a1 a2 = some (r1, r2)) :
  Calls Tryd.prog 64 #[.pointer (some ⟨g, 0, none⟩), .bool a1, .int .i64 a2] w fun e w' => e = .returned (.tuple #[]) ∧ IsS80 w0 w' g s0_0 r1 r2 ∧ Below w0.heap.size w0 w' ∧ KeepBut w w' g none := by
 have HI0 := Aside0.mk hI
 have HK := Aside0.mk (KeepBut.refl w g none)
 have HL := Aside0.mk hB.size
 clear hI
 have HW0 := Aside0.mk hB.size
 have HB := Aside0.mk hB
 clear hB
 have H : (if a1 = true then (some (s0_1, s0_2)) else (if s0_2 = 0 then (some (s0_1, a2)) else (some (s0_1, s0_2)))) = some (r1, r2) := h
 clear h
 by_cases c4 : a1 = true
 ·subst c4
  have H1 : (some (s0_1, s0_2)) = some (r1, r2) := by rw [if_pos rfl] at H; exact H
  clear H
  have H := H1
  clear H1
  simp only [Option.some.injEq, Prod.mk.injEq] at H
  obtain ⟨rfl, rfl⟩ := H
  go_enter Tryd.func64, Tryd.ntmps64
  go_wp2
  first | go_end0 | ((try simp only [Exit.inBlock, Exit.then]); refine bodyPost_ret (results_none rfl _ _ _) rfl ?_)
  exact ⟨er, by repeat (first | (with_reducible first | exact HI0.out | apply IsS80.alloc | apply IsS80.drewN | apply IsS80.drew | apply IsS80.set_1 | apply IsS80.set_2) | exact HI0.out), by repeat (first | (with_reducible first | exact HB.out | apply below_alloc | apply pw_below_drewN | apply below_drew1 | refine below_set ?_ (IsS80.ge HI0.out)) | exact HB.out), kl⟩
 ·replace c4 := Bool.eq_false_iff.mpr c4
  subst c4
  have H1 : (if s0_2 = 0 then (some (s0_1, a2)) else (some (s0_1, s0_2))) = some (r1, r2) := by rw [if_neg (show ¬ (false = true) by decide)] at H; exact H
  clear H
  have H := H1
  clear H1
  by_cases c5 : s0_2 = 0
  ·rw [if_pos c5] at H
   have c5b0 : (s0_2 == 0) = true := beq_iff_eq.mpr c5
   have c5b1 : (s0_2 != 0) = false := bne_eq_false_iff_eq.mpr c5
   clear c5
   simp only [Option.some.injEq, Prod.mk.injEq] at H
   obtain ⟨rfl, rfl⟩ := H
   obtain ⟨ASz6_0, cSz6_0, HGz6, hgz6, HSz6_0, HQz6_0⟩ := HI0.out
   have hcz6_0 := cellS80_0 HGz6
   have hcz6_1 := cellS80_1 HGz6
   have hcz6_2 := cellS80_2 HGz6
   have hfz6_1 := blk_frozen HGz6 1
   have hfz6_2 := blk_frozen HGz6 2
   clear HGz6 hgz6
   go_enter Tryd.func64, Tryd.ntmps64
   go_wp2
   first | go_end0 | ((try simp only [Exit.inBlock, Exit.then]); refine bodyPost_ret (results_none rfl _ _ _) rfl ?_)
   exact ⟨er, by repeat (first | (with_reducible first | exact HI0.out | apply IsS80.alloc | apply IsS80.drewN | apply IsS80.drew | apply IsS80.set_1 | apply IsS80.set_2) | exact HI0.out), by repeat (first | (with_reducible first | exact HB.out | apply below_alloc | apply pw_below_drewN | apply below_drew1 | refine below_set ?_ (IsS80.ge HI0.out)) | exact HB.out), kl⟩
  ·rw [if_neg c5] at H
   have c5b0 : (s0_2 == 0) = false := beq_eq_false_iff_ne.mpr c5
   have c5b1 : (s0_2 != 0) = true := bne_iff_ne.mpr c5
   simp only [Option.some.injEq, Prod.mk.injEq] at H
   obtain ⟨rfl, rfl⟩ := H
   obtain ⟨ASz7_0, cSz7_0, HGz7, hgz7, HSz7_0, HQz7_0⟩ := HI0.out
   have hcz7_0 := cellS80_0 HGz7
   have hcz7_1 := cellS80_1 HGz7
   have hcz7_2 := cellS80_2 HGz7
   have hfz7_1 := blk_frozen HGz7 1
   have hfz7_2 := blk_frozen HGz7 2
   clear HGz7 hgz7
   go_enter Tryd.func64, Tryd.ntmps64
   go_wp2
   first | go_end0 | ((try simp only [Exit.inBlock, Exit.then]); refine bodyPost_ret (results_none rfl _ _ _) rfl ?_)
   exact ⟨er, by repeat (first | (with_reducible first | exact HI0.out | apply IsS80.alloc | apply IsS80.drewN | apply IsS80.drew | apply IsS80.set_1 | apply IsS80.set_2) | exact HI0.out), by repeat (first | (with_reducible first | exact HB.out | apply below_alloc | apply pw_below_drewN | apply below_drew1 | refine below_set ?_ (IsS80.ge HI0.out)) | exact HB.out), kl⟩

/-! ### instr_reader_block: function 65 -/
def instr_reader_block.f (k : Nat) (s0_0 : List Int) (s0_1 : Int) (s0_2 : Int) : Option (Int × Int × Int) := (instr_reader_byte.f k s0_0 s0_1 s0_2).bind fun bt344 => (if bt344.1 = 64 then ((instr_reader_must.f s0_0 bt344.2.1 bt344.2.2 true 3).bind fun bt347 => (some (0, bt347.1, bt347.2))) else (if bt344.1 = 127 then ((instr_reader_must.f s0_0 bt344.2.1 bt344.2.2 true 3).bind fun bt349 => (some (bt344.1, bt349.1, bt349.2))) else ((instr_reader_must.f s0_0 bt344.2.1 bt344.2.2 (bt344.1 == 126) 3).bind fun bt351 => (some (bt344.1, bt351.1, bt351.2)))))
theorem instr_reader_block.mono : ∀ a0 a1 a2 k, LeO (instr_reader_block.f k a0 a1 a2) (instr_reader_block.f (k + 1) a0 a1 a2) := by
 intro a0 a1 a2 k
 unfold instr_reader_block.f
 repeat' first
   | (with_reducible exact instr_reader_byte.mono _ _ _ _)
   | (with_reducible exact LeO.refl _)
   | (with_reducible exact LeO.none _)
   | (with_reducible refine LeO.ite ?_ ?_)
   | (with_reducible refine LeO.bind ?_ (fun _ => ?_))
   | exact instr_reader_byte.mono _ _ _ _
   | exact LeO.none _
   | refine LeO.ite ?_ ?_
   | refine LeO.bind ?_ (fun _ => ?_)
set_option maxHeartbeats 8000000 in
set_option maxRecDepth 100000 in
theorem instr_reader_block.calls (k : Nat) (g : Nat) (s0_0 : List Int) (s0_1 : Int) (s0_2 : Int) (r1 : Int) (r2 : Int) (r3 : Int) (w0 w : World) (hI : IsS80 w0 w g s0_0 s0_1 s0_2) (hB : Below w0.heap.size w0 w) (h : instr_reader_block.f k s0_0 s0_1 s0_2 = some (r1, r2, r3)) :
  Calls Tryd.prog 65 #[.pointer (some ⟨g, 0, none⟩)] w fun e w' => e = .returned (.int .i64 r1) ∧ IsS80 w0 w' g s0_0 r2 r3 ∧ Below w0.heap.size w0 w' ∧ KeepBut w w' g none := by
 have HI0 := Aside0.mk hI
 have HK := Aside0.mk (KeepBut.refl w g none)
 have HL := Aside0.mk hB.size
 clear hI
 have HW0 := Aside0.mk hB.size
 have HB := Aside0.mk hB
 clear hB
 have H : ((instr_reader_byte.f k s0_0 s0_1 s0_2).bind fun bt344 => (if bt344.1 = 64 then ((instr_reader_must.f s0_0 bt344.2.1 bt344.2.2 true 3).bind fun bt347 => (some (0, bt347.1, bt347.2))) else (if bt344.1 = 127 then ((instr_reader_must.f s0_0 bt344.2.1 bt344.2.2 true 3).bind fun bt349 => (some (bt344.1, bt349.1, bt349.2))) else ((instr_reader_must.f s0_0 bt344.2.1 bt344.2.2 (bt344.1 == 126) 3).bind fun bt351 => (some (bt344.1, bt351.1, bt351.2)))))) = some (r1, r2, r3) := h
 clear h
 replace H := Option.bind_eq_some_iff.mp H
 obtain ⟨⟨t344, t345, t346⟩, A20, H⟩ := H
 replace H : (if t344 = 64 then ((instr_reader_must.f s0_0 t345 t346 true 3).bind fun bt347 => (some (0, bt347.1, bt347.2))) else (if t344 = 127 then ((instr_reader_must.f s0_0 t345 t346 true 3).bind fun bt349 => (some (t344, bt349.1, bt349.2))) else ((instr_reader_must.f s0_0 t345 t346 (t344 == 126) 3).bind fun bt351 => (some (t344, bt351.1, bt351.2))))) = some (r1, r2, r3) := H
 have A2 := Aside0.mk A20
 clear A20
 by_cases c3 : t344 = 64
 ·rw [if_pos c3] at H
  have c3b0 : (t344 == 64) = true := beq_iff_eq.mpr c3
  have c3b1 : (t344 != 64) = false := bne_eq_false_iff_eq.mpr c3
  clear c3
  replace H := Option.bind_eq_some_iff.mp H
  obtain ⟨⟨t347, t348⟩, A40, H⟩ := H
  replace H : (some (0, t347, t348)) = some (r1, r2, r3) := H
  have A4 := Aside0.mk A40
  clear A40
  simp only [Option.some.injEq, Prod.mk.injEq] at H
  obtain ⟨rfl, rfl, rfl⟩ := H
  go_enter Tryd.func65, Tryd.ntmps65
  go_wp2_with (first | ((with_reducible refine gate_callee (f := 63) rfl ?_); refine goesL_ (some 5) rfl rfl Tryd.func63 (by kernel_rfl) rfl #[.pointer (some ⟨g, 0, none⟩)] rfl am ?_; (with_reducible refine (instr_reader_byte.calls k g s0_0 s0_1 s0_2 t344 t345 t346 w0 _ ?side1 ?side2 A2.out).mono ?_); (case side1 => repeat (first | (with_reducible first | exact HI0.out | apply IsS80.alloc | apply IsS80.drewN | apply IsS80.drew | apply IsS80.set_1 | apply IsS80.set_2) | exact HI0.out)); (case side2 => repeat (first | (with_reducible first | exact HB.out | apply below_alloc | apply pw_below_drewN | apply below_drew1 | refine below_set ?_ (IsS80.ge HI0.out)) | exact HB.out)); rintro e w5 ⟨rfl, hi, hb, hk⟩; refine ⟨_, rfl, ?_⟩; have n0_ := Aside0.mk (KeepBut.trans kl hk (.inl rfl)); have n1_ := Aside0.mk (hb); have n2_ := Aside0.mk (hi); clear HK; clear HB; clear HI0; have HK := n0_; have HB := n1_; have HI0 := n2_; clear n0_ n1_ n2_; (try clear hb); (try clear hb2); (try clear hk); (try clear hi)) | ((with_reducible refine gate_callee (f := 64) rfl ?_); refine goesL_ (some 17) rfl rfl Tryd.func64 (by kernel_rfl) rfl #[.pointer (some ⟨g, 0, none⟩), .bool true, .int .i64 3] rfl am ?_; (with_reducible refine (instr_reader_must.calls g s0_0 t345 t346 true 3 t347 t348 w0 _ ?side1 ?side2 A4.out).mono ?_); (case side1 => repeat (first | (with_reducible first | exact HI0.out | apply IsS80.alloc | apply IsS80.drewN | apply IsS80.drew | apply IsS80.set_1 | apply IsS80.set_2) | exact HI0.out)); (case side2 => repeat (first | (with_reducible first | exact HB.out | apply below_alloc | apply pw_below_drewN | apply below_drew1 | refine below_set ?_ (IsS80.ge HI0.out)) | exact HB.out)); rintro e w6 ⟨rfl, hi, hb, hk⟩; refine ⟨_, rfl, ?_⟩; have n0_ := Aside0.mk (KeepBut.trans kl hk (.inl rfl)); have n1_ := Aside0.mk (hb); have n2_ := Aside0.mk (hi); clear HK; clear HB; clear HI0; have HK := n0_; have HB := n1_; have HI0 := n2_; clear n0_ n1_ n2_; (try clear hb); (try clear hb2); (try clear hk); (try clear hi)))
  go_ret
  exact ⟨er, by repeat (first | (with_reducible first | exact HI0.out | apply IsS80.alloc | apply IsS80.drewN | apply IsS80.drew | apply IsS80.set_1 | apply IsS80.set_2) | exact HI0.out), by repeat (first | (with_reducible first | exact HB.out | apply below_alloc | apply pw_below_drewN | apply below_drew1 | refine below_set ?_ (IsS80.ge HI0.out)) | exact HB.out), kl⟩
 ·rw [if_neg c3] at H
  have c3b0 : (t344 == 64) = false := beq_eq_false_iff_ne.mpr c3
  have c3b1 : (t344 != 64) = true := bne_iff_ne.mpr c3
  by_cases c7 : t344 = 127
  ·rw [if_pos c7] at H
   have c7b0 : (t344 == 127) = true := beq_iff_eq.mpr c7
   have c7b1 : (t344 != 127) = false := bne_eq_false_iff_eq.mpr c7
   clear c7
   replace H := Option.bind_eq_some_iff.mp H
   obtain ⟨⟨t349, t350⟩, A80, H⟩ := H
   replace H : (some (t344, t349, t350)) = some (r1, r2, r3) := H
   have A8 := Aside0.mk A80
   clear A80
   simp only [Option.some.injEq, Prod.mk.injEq] at H
   obtain ⟨rfl, rfl, rfl⟩ := H
   go_enter Tryd.func65, Tryd.ntmps65
   go_wp2_with (first | ((with_reducible refine gate_callee (f := 63) rfl ?_); refine goesL_ (some 5) rfl rfl Tryd.func63 (by kernel_rfl) rfl #[.pointer (some ⟨g, 0, none⟩)] rfl am ?_; (with_reducible refine (instr_reader_byte.calls k g s0_0 s0_1 s0_2 t344 t345 t346 w0 _ ?side1 ?side2 A2.out).mono ?_); (case side1 => repeat (first | (with_reducible first | exact HI0.out | apply IsS80.alloc | apply IsS80.drewN | apply IsS80.drew | apply IsS80.set_1 | apply IsS80.set_2) | exact HI0.out)); (case side2 => repeat (first | (with_reducible first | exact HB.out | apply below_alloc | apply pw_below_drewN | apply below_drew1 | refine below_set ?_ (IsS80.ge HI0.out)) | exact HB.out)); rintro e w9 ⟨rfl, hi, hb, hk⟩; refine ⟨_, rfl, ?_⟩; have n0_ := Aside0.mk (KeepBut.trans kl hk (.inl rfl)); have n1_ := Aside0.mk (hb); have n2_ := Aside0.mk (hi); clear HK; clear HB; clear HI0; have HK := n0_; have HB := n1_; have HI0 := n2_; clear n0_ n1_ n2_; (try clear hb); (try clear hb2); (try clear hk); (try clear hi)) | ((with_reducible refine gate_callee (f := 64) rfl ?_); refine goesL_ (some 17) rfl rfl Tryd.func64 (by kernel_rfl) rfl #[.pointer (some ⟨g, 0, none⟩), .bool true, .int .i64 3] rfl am ?_; (with_reducible refine (instr_reader_must.calls g s0_0 t345 t346 true 3 t349 t350 w0 _ ?side1 ?side2 A8.out).mono ?_); (case side1 => repeat (first | (with_reducible first | exact HI0.out | apply IsS80.alloc | apply IsS80.drewN | apply IsS80.drew | apply IsS80.set_1 | apply IsS80.set_2) | exact HI0.out)); (case side2 => repeat (first | (with_reducible first | exact HB.out | apply below_alloc | apply pw_below_drewN | apply below_drew1 | refine below_set ?_ (IsS80.ge HI0.out)) | exact HB.out)); rintro e w10 ⟨rfl, hi, hb, hk⟩; refine ⟨_, rfl, ?_⟩; have n0_ := Aside0.mk (KeepBut.trans kl hk (.inl rfl)); have n1_ := Aside0.mk (hb); have n2_ := Aside0.mk (hi); clear HK; clear HB; clear HI0; have HK := n0_; have HB := n1_; have HI0 := n2_; clear n0_ n1_ n2_; (try clear hb); (try clear hb2); (try clear hk); (try clear hi)))
   go_ret
   exact ⟨er, by repeat (first | (with_reducible first | exact HI0.out | apply IsS80.alloc | apply IsS80.drewN | apply IsS80.drew | apply IsS80.set_1 | apply IsS80.set_2) | exact HI0.out), by repeat (first | (with_reducible first | exact HB.out | apply below_alloc | apply pw_below_drewN | apply below_drew1 | refine below_set ?_ (IsS80.ge HI0.out)) | exact HB.out), kl⟩
  ·rw [if_neg c7] at H
   have c7b0 : (t344 == 127) = false := beq_eq_false_iff_ne.mpr c7
   have c7b1 : (t344 != 127) = true := bne_iff_ne.mpr c7
   replace H := Option.bind_eq_some_iff.mp H
   obtain ⟨⟨t351, t352⟩, A110, H⟩ := H
   replace H : (some (t344, t351, t352)) = some (r1, r2, r3) := H
   have A11 := Aside0.mk A110
   clear A110
   simp only [Option.some.injEq, Prod.mk.injEq] at H
   obtain ⟨rfl, rfl, rfl⟩ := H
   go_enter Tryd.func65, Tryd.ntmps65
   go_wp2_with (first | ((with_reducible refine gate_callee (f := 63) rfl ?_); refine goesL_ (some 5) rfl rfl Tryd.func63 (by kernel_rfl) rfl #[.pointer (some ⟨g, 0, none⟩)] rfl am ?_; (with_reducible refine (instr_reader_byte.calls k g s0_0 s0_1 s0_2 t344 t345 t346 w0 _ ?side1 ?side2 A2.out).mono ?_); (case side1 => repeat (first | (with_reducible first | exact HI0.out | apply IsS80.alloc | apply IsS80.drewN | apply IsS80.drew | apply IsS80.set_1 | apply IsS80.set_2) | exact HI0.out)); (case side2 => repeat (first | (with_reducible first | exact HB.out | apply below_alloc | apply pw_below_drewN | apply below_drew1 | refine below_set ?_ (IsS80.ge HI0.out)) | exact HB.out)); rintro e w12 ⟨rfl, hi, hb, hk⟩; refine ⟨_, rfl, ?_⟩; have n0_ := Aside0.mk (KeepBut.trans kl hk (.inl rfl)); have n1_ := Aside0.mk (hb); have n2_ := Aside0.mk (hi); clear HK; clear HB; clear HI0; have HK := n0_; have HB := n1_; have HI0 := n2_; clear n0_ n1_ n2_; (try clear hb); (try clear hb2); (try clear hk); (try clear hi)) | ((with_reducible refine gate_callee (f := 64) rfl ?_); refine goesL_ (some 17) rfl rfl Tryd.func64 (by kernel_rfl) rfl #[.pointer (some ⟨g, 0, none⟩), .bool (t344 == 126), .int .i64 3] rfl am ?_; (with_reducible refine (instr_reader_must.calls g s0_0 t345 t346 (t344 == 126) 3 t351 t352 w0 _ ?side1 ?side2 A11.out).mono ?_); (case side1 => repeat (first | (with_reducible first | exact HI0.out | apply IsS80.alloc | apply IsS80.drewN | apply IsS80.drew | apply IsS80.set_1 | apply IsS80.set_2) | exact HI0.out)); (case side2 => repeat (first | (with_reducible first | exact HB.out | apply below_alloc | apply pw_below_drewN | apply below_drew1 | refine below_set ?_ (IsS80.ge HI0.out)) | exact HB.out)); rintro e w13 ⟨rfl, hi, hb, hk⟩; refine ⟨_, rfl, ?_⟩; have n0_ := Aside0.mk (KeepBut.trans kl hk (.inl rfl)); have n1_ := Aside0.mk (hb); have n2_ := Aside0.mk (hi); clear HK; clear HB; clear HI0; have HK := n0_; have HB := n1_; have HI0 := n2_; clear n0_ n1_ n2_; (try clear hb); (try clear hb2); (try clear hk); (try clear hi)))
   go_ret
   exact ⟨er, by repeat (first | (with_reducible first | exact HI0.out | apply IsS80.alloc | apply IsS80.drewN | apply IsS80.drew | apply IsS80.set_1 | apply IsS80.set_2) | exact HI0.out), by repeat (first | (with_reducible first | exact HB.out | apply below_alloc | apply pw_below_drewN | apply below_drew1 | refine below_set ?_ (IsS80.ge HI0.out)) | exact HB.out), kl⟩

/-! ### leb_read: function 100 -/
/-- The cells of leb.read's own: the place, the bytes, the place's pointer (blocks ga, gb, gp); all else of w as it was. -/
def leb_read.I (w wr : World) (ga gb gp : Nat) (A : Option Addr) (n c : Nat) (x : Int) : Prop :=
  wr.heap[ga]? = some (.cells #[.int .i64 x] 3 (0, 0)) ∧ wr.heap[gb]? = some (.cells #[.slice A n c] 41 (0, 0)) ∧ wr.heap[gp]? = some (.cells #[.pointer (some ⟨ga, 0, none⟩)] 132 (0, 0)) ∧ Below w.heap.size w wr ∧ w.heap.size ≤ ga
theorem leb_read.I_drewN {w wr : World} {ga gb gp : Nat} {A : Option Addr} {n c : Nat} {x : Int} (h : leb_read.I w wr ga gb gp A n c x) (m : Nat) : leb_read.I w (wr.drewN m) ga gb gp A n c x :=
  ⟨h.1, h.2.1, h.2.2.1, pw_below_drewN h.2.2.2.1 m, h.2.2.2.2⟩
theorem leb_read.I_set {w wr : World} {ga gb gp : Nat} {A : Option Addr} {n c : Nat} {x : Int} (h : leb_read.I w wr ga gb gp A n c x) (y : Int) : leb_read.I w (wr.setCell ⟨ga, 0, none⟩ (.int .i64 y)) ga gb gp A n c y := by
  obtain ⟨h1, h2, h3, h4, h5⟩ := h
  have e1 : gb ≠ ga := by
    rintro rfl
    rw [h1] at h2
    injection h2 with h2
    injection h2 with h2 _
    simp at h2
  have e2 : gp ≠ ga := by
    rintro rfl
    rw [h1] at h3
    injection h3 with h3
    injection h3 with h3 _
    simp at h3
  exact ⟨by simpa using blk_set h1 0 (.int .i64 y), blk_far h2 e1 _, blk_far h3 e2 _, below_set h4 h5, h5⟩
set_option maxHeartbeats 1000000 in
set_option maxRecDepth 100000 in
theorem leb_read.more (w W : World) (ga gb gp : Nat) (A : Option Addr) (c : Nat) (l : List Int) (x : Int) (hI : leb_read.I w W ga gb gp A l.length c x) (hC : Kd.C (Kd.int .u8) w A l.length l) (h0 : 0 ≤ x) (h1 : x < (l.length : Int)) :
    Calls Tryd.prog 105 #[.pointer (some ⟨gp, 0, none⟩), .pointer (some ⟨gb, 0, none⟩)] W fun e w' => e = .returned (.tuple #[.int .u8 (rd l x), .int .i64 0]) ∧ leb_read.I w w' ga gb gp A l.length c (x + 1) := by
  have hm := hC.2.1
  obtain ⟨ad, rfl, hx⟩ := Kd.at_int (Kd.C_below hC hI.2.2.2.1) x h0 h1
  have c1 : W.cell? ⟨ga, 0, none⟩ = some (.int .i64 x) := (blk_cell hI.1 0).trans rfl
  have c2 : W.cell? ⟨gb, 0, none⟩ = some (.slice (some ad) l.length c) := (blk_cell hI.2.1 0).trans rfl
  have c3 : W.cell? ⟨gp, 0, none⟩ = some (.pointer (some ⟨ga, 0, none⟩)) := (blk_cell hI.2.2.1 0).trans rfl
  have f1 : W.frozen? ⟨ga, 0, none⟩ = false := blk_frozen hI.1 0
  have H := Aside0.mk hI
  have hd : decide ((l.length : Int) ≤ x) = false := decide_eq_false (by omega)
  have hd2 : decide (x < (l.length : Int)) = true := decide_eq_true h1
  have hd0 : decide (0 ≤ x) = true := decide_eq_true h0
  clear hI hC
  go_enter Tryd.func105, Tryd.ntmps105
  go_wp2
  go_quiet (fail)
  go_wp2
  go_quiet (fail)
  go_wp2
  go_ret2
  exact ⟨rfl, leb_read.I_set (leb_read.I_drewN H.out _) _⟩
set_option maxHeartbeats 1000000 in
set_option maxRecDepth 100000 in
theorem leb_read.past (w W : World) (ga gb gp : Nat) (A : Option Addr) (c : Nat) (l : List Int) (x : Int) (hI : leb_read.I w W ga gb gp A l.length c x) (hx : (l.length : Int) ≤ x) :
    Calls Tryd.prog 105 #[.pointer (some ⟨gp, 0, none⟩), .pointer (some ⟨gb, 0, none⟩)] W fun e w' => e = .returned (.tuple #[.int .u8 0, .int .i64 2]) ∧ leb_read.I w w' ga gb gp A l.length c x := by
  have c1 : W.cell? ⟨ga, 0, none⟩ = some (.int .i64 x) := (blk_cell hI.1 0).trans rfl
  have c2 : W.cell? ⟨gb, 0, none⟩ = some (.slice A l.length c) := (blk_cell hI.2.1 0).trans rfl
  have c3 : W.cell? ⟨gp, 0, none⟩ = some (.pointer (some ⟨ga, 0, none⟩)) := (blk_cell hI.2.2.1 0).trans rfl
  have H := Aside0.mk hI
  have hd : decide ((l.length : Int) ≤ x) = true := decide_eq_true hx
  clear hI
  go_enter Tryd.func105, Tryd.ntmps105
  go_wp2
  go_quiet (fail)
  go_wp2
  go_ret2
  exact ⟨rfl, leb_read.I_drewN H.out _⟩
/-- Seven digits more, as the code lays them in. -/
def leb_read.join (q c : Int) (n : Nat) : Int := bits .or .u64 q (IntKind.u64.wrap (IntKind.u64.wrap (bits .and .u8 c 127) * 2 ^ (7 * n)))
/-- The digits of a number, as they are read: the bytes, the place, how many there were, how many there may be, what they tell so far. -/
def leb_read.go (l : List Int) : Nat → Int → Nat → Int → Int → Option (Int × Int × Int × Int × Int)
  | 0, _, _, _, _ => none
  | k + 1, x, n, most, q =>
    if x < (l.length : Int) then
      (if rd l x < 128 then some (leb_read.join q (rd l x) n, 7 * ((n : Int) + 1), rd l x, x + 1, 0)
      else if (n : Int) + 1 = most then some (0, 0, 0, 0, 3)
      else leb_read.go l k (x + 1) (n + 1) most (leb_read.join q (rd l x) n))
    else some (0, 0, 0, 0, 2)
def leb_read.f (l0 : List Int) (a1 a2 : Int) : Option (Int × Int × Int × Int × Int) :=
  if a2 < 1 ∨ 64 < a2 ∨ a1 < 0 ∨ (l0.length : Int) < a1 then some (0, 0, 0, 0, 1) else leb_read.go l0 11 a1 0 ((a2 + 7 - 1) / 7) 0
set_option maxHeartbeats 1000000 in
set_option maxRecDepth 100000 in
theorem leb_read.takes (A : Option Addr) (n c ga : Nat) (w : World) :
    Calls Tryd.prog 103 #[.slice A n c, .pointer (some ⟨ga, 0, none⟩)] w fun e w' => e = .returned (.func (.func 105) #[] #[.pointer (some ⟨w.heap.size + 1, 0, none⟩), .pointer (some ⟨w.heap.size, 0, none⟩)]) ∧ w' = (w.alloc (.cells #[.slice A n c] 41)).alloc (.cells #[.pointer (some ⟨ga, 0, none⟩)] 132) := by
  have hmf : ∀ (fn : Fn) (first cap : Array Value) (w : World), (Instr.makeFunc fn first cap).run Tryd.prog w = .ok (.func fn first cap) w := fun _ _ _ _ => rfl
  go_enter Tryd.func103, Tryd.ntmps103
  go_wp2
  go_ret
  exact ⟨by simp, rfl⟩
set_option maxHeartbeats 1000000 in
set_option maxRecDepth 100000 in
theorem leb_read.calls (A0 : Option Addr) (c0 : Nat) (l0 : List Int) (a1 : Int) (a2 : Int) (r1 : Int) (r2 : Int) (r3 : Int) (r4 : Int) (r5 : Int) (w : World) (hr0 : Kd.C (Kd.int .u8) w A0 l0.length l0) (hc0 : l0.length ≤ c0) (h : leb_read.f l0 a1 a2 = some (r1, r2, r3, r4, r5)) :
    Calls Tryd.prog 100 #[.slice A0 l0.length c0, .int .i64 a1, .int .i64 a2] w fun e w' => e = .returned (.tuple #[.int .u64 r1, .int .i64 r2, .int .u8 r3, .int .i64 r4, .int .i64 r5]) ∧ Below w.heap.size w w' := by
  have hm := hr0.2.1
  unfold leb_read.f at h
  have HR := Aside0.mk hr0
  have hres : ∀ (x1 x2 x3 x4 x5 : Int), (some (x1, x2, x3, x4, x5) : Option (Int × Int × Int × Int × Int)) = some (r1, r2, r3, r4, r5) → x1 = r1 ∧ x2 = r2 ∧ x3 = r3 ∧ x4 = r4 ∧ x5 = r5 := fun _ _ _ _ _ h => by simpa using h
  by_cases hb : a2 < 1 ∨ 64 < a2 ∨ a1 < 0 ∨ (l0.length : Int) < a1
  · rw [if_pos hb] at h
    obtain ⟨rfl, rfl, rfl, rfl, rfl⟩ := hres _ _ _ _ _ h
    clear h hr0 hc0 hres
    by_cases q1 : a2 < 1
    · clear hb
      go_enter Tryd.func100, Tryd.ntmps100
      go_wp2
      exact bodyPost_ret (v := .tuple #[.int .u64 0, .int .i64 0, .int .u8 0, .int .i64 0, .int .i64 1]) (by simp [results, Tryd.results100, go_sem]) rfl ⟨rfl, below_alloc (Below.refl _ _) _⟩
    · by_cases q2 : 64 < a2
      · clear hb
        go_enter Tryd.func100, Tryd.ntmps100
        go_wp2
        exact bodyPost_ret (v := .tuple #[.int .u64 0, .int .i64 0, .int .u8 0, .int .i64 0, .int .i64 1]) (by simp [results, Tryd.results100, go_sem]) rfl ⟨rfl, below_alloc (Below.refl _ _) _⟩
      · by_cases q3 : a1 < 0
        · clear hb
          have d1 : decide (a1 < 0) = true := decide_eq_true q3
          go_enter Tryd.func100, Tryd.ntmps100
          go_wp2
          exact bodyPost_ret (v := .tuple #[.int .u64 0, .int .i64 0, .int .u8 0, .int .i64 0, .int .i64 1]) (by simp [results, Tryd.results100, go_sem]) rfl ⟨rfl, below_alloc (Below.refl _ _) _⟩
        · have d1 : decide (a1 < 0) = false := decide_eq_false q3
          have d2 : decide ((l0.length : Int) < a1) = true := decide_eq_true (by omega)
          clear hb
          go_enter Tryd.func100, Tryd.ntmps100
          go_wp2
          exact bodyPost_ret (v := .tuple #[.int .u64 0, .int .i64 0, .int .u8 0, .int .i64 0, .int .i64 1]) (by simp [results, Tryd.results100, go_sem]) rfl ⟨rfl, below_alloc (Below.refl _ _) _⟩
  · rw [if_neg hb] at h
    have b1 : 1 ≤ a2 := by omega
    have b2 : a2 ≤ 64 := by omega
    have b3 : 0 ≤ a1 := by omega
    have b4 : a1 ≤ (l0.length : Int) := by omega
    have H := Aside0.mk h
    have d3 : decide (a1 < 0) = false := decide_eq_false (by omega)
    have d4 : decide ((l0.length : Int) < a1) = false := decide_eq_false (by omega)
    have HRES := Aside0.mk hres
    clear h hb hr0 hc0 hres
    go_enter Tryd.func100, Tryd.ntmps100
    go_wp2_with (first | (go_at_call 103; refine (leb_read.takes _ _ _ _ _).mono ?_; rintro e w1 ⟨rfl, rfl⟩))
    go_loopw [13, 14] (fun v i wr => ∃ (x : Int) (n : Nat) (q : Int), 0 ≤ x ∧ x ≤ (l0.length : Int) ∧ n ≤ 9 ∧ (n : Int) < (a2 + 7 - 1) / 7 ∧ i = .int .i64 n ∧ v = .int .u64 q ∧ Aside0 (leb_read.go l0 (11 - n) x n ((a2 + 7 - 1) / 7) q = some (r1, r2, r3, r4, r5)) ∧ Aside0 (leb_read.I w wr w.heap.size (w.heap.size + 1) (w.heap.size + 1 + 1) A0 l0.length c0 x)) (fun _ i _ => 11 - (intOf i).toNat)
    case atStart => exact ⟨a1, 0, 0, b3, b4, by omega, by omega, rfl, rfl, H, Aside0.mk ⟨blk_alloc (blk_alloc (heap_alloc_new w _) _) _, blk_alloc (by simpa using heap_alloc_new (w.alloc _) _) _, by simpa using heap_alloc_new ((w.alloc _).alloc _) _, below_alloc (below_alloc (below_alloc (Below.refl _ _) _) _) _, Nat.le_refl _⟩⟩
    case round =>
      obtain ⟨x, n, q, x0, x1, n9, nm, rfl, rfl, HG, HI⟩ := hrel
      obtain ⟨k, hk⟩ : ∃ k, 11 - n = k + 1 := ⟨10 - n, by omega⟩
      have hg := HG.out
      rw [hk] at hg
      simp only [leb_read.go] at hg
      by_cases hx : x < (l0.length : Int)
      · rw [if_pos hx] at hg
        by_cases hc : rd l0 x < 128
        · rw [if_pos hc] at hg
          have HG2 := Aside0.mk hg
          clear hg
          go_wp2_with (first | (go_at_call 105; refine (leb_read.more w _ _ _ _ _ _ l0 x HI.out HR.out x0 hx).mono ?_; rintro e w2 ⟨rfl, hI2⟩; have c1 : w2.cell? ⟨w.heap.size, 0, none⟩ = some (.int .i64 (x + 1)) := (blk_cell hI2.1 0).trans rfl; have HI2 := Aside0.mk hI2; clear hI2))
          go_quiet (fail)
          go_wp2
          obtain ⟨rfl, rfl, rfl, rfl, rfl⟩ := HRES.out _ _ _ _ _ HG2.out
          exact bodyPost_ret (v := .tuple #[.int .u64 (leb_read.join q (rd l0 x) n), .int .i64 (7 * ((n : Int) + 1)), .int .u8 (rd l0 x), .int .i64 (x + 1), .int .i64 0]) (by simp [results, Tryd.results100, go_sem, leb_read.join]) rfl ⟨rfl, pw_below_drewN HI2.out.2.2.2.1 _⟩
        · rw [if_neg hc] at hg
          by_cases hn : (n : Int) + 1 = (a2 + 7 - 1) / 7
          · rw [if_pos hn] at hg
            have HG2 := Aside0.mk hg
            have hn2 : ((n : Int) + 1 == (a2 + 7 - 1) / 7) = true := beq_iff_eq.mpr hn
            clear hg hn
            go_wp2_with (first | (go_at_call 105; refine (leb_read.more w _ _ _ _ _ _ l0 x HI.out HR.out x0 hx).mono ?_; rintro e w2 ⟨rfl, hI2⟩; have HI2 := Aside0.mk hI2; clear hI2))
            obtain ⟨rfl, rfl, rfl, rfl, rfl⟩ := HRES.out _ _ _ _ _ HG2.out
            exact bodyPost_ret (v := .tuple #[.int .u64 0, .int .i64 0, .int .u8 0, .int .i64 0, .int .i64 3]) (by simp [results, Tryd.results100, go_sem]) rfl ⟨rfl, HI2.out.2.2.2.1⟩
          · rw [if_neg hn] at hg
            have hk2 : k = 11 - (n + 1) := by omega
            rw [hk2] at hg
            have HG2 := Aside0.mk hg
            have hn2 : ((n : Int) + 1 == (a2 + 7 - 1) / 7) = false := beq_eq_false_iff_ne.mpr hn
            have HN := Aside0.mk hn
            clear hg hn hk hk2
            go_wp2_with (first | (go_at_call 105; refine (leb_read.more w _ _ _ _ _ _ l0 x HI.out HR.out x0 hx).mono ?_; rintro e w2 ⟨rfl, hI2⟩; have HI2 := Aside0.mk hI2; clear hI2))
            go_roundw
            case rel => exact ⟨x + 1, n + 1, leb_read.join q (rd l0 x) n, by omega, by omega, by have := HN.out; omega, by have := HN.out; omega, by go_num, rfl, HG2, HI2⟩
            case measure => simp [intOf]; omega
      · rw [if_neg hx] at hg
        have HG2 := Aside0.mk hg
        clear hg
        go_wp2_with (first | (go_at_call 105; refine (leb_read.past w _ _ _ _ _ _ l0 x HI.out (by omega)).mono ?_; rintro e w2 ⟨rfl, hI2⟩; have HI2 := Aside0.mk hI2; clear hI2))
        obtain ⟨rfl, rfl, rfl, rfl, rfl⟩ := HRES.out _ _ _ _ _ HG2.out
        exact bodyPost_ret (v := .tuple #[.int .u64 0, .int .i64 0, .int .u8 0, .int .i64 0, .int .i64 2]) (by simp [results, Tryd.results100, go_sem]) rfl ⟨rfl, HI2.out.2.2.2.1⟩

/-! ### leb_ReadU: function 87 -/
def leb_ReadU.f (l0 : List Int) (a1 : Int) (a2 : Int) : Option (Int × Int × Int) := (leb_read.f l0 a1 a2).bind fun bt353 => (if bt353.2.2.2.2 = 0 then (if bt353.2.1 > a2 then (if 0 ≤ (wrap64 (7 - (wrap64 (bt353.2.1 - a2)))) then (if (shr .u8 bt353.2.2.1 (wrap64 (7 - (wrap64 (bt353.2.1 - a2))))) = 0 then (some (bt353.1, bt353.2.2.2.1, 0)) else (some (0, 0, 3))) else (none)) else (some (bt353.1, bt353.2.2.2.1, 0))) else (some (0, 0, bt353.2.2.2.2)))
set_option maxHeartbeats 8000000 in
set_option maxRecDepth 100000 in
theorem leb_ReadU.calls (A0 : Option Addr) (c0 : Nat) (l0 : List Int) (a1 : Int) (a2 : Int) (r1 : Int) (r2 : Int) (r3 : Int) (w : World) (hr0 : Kd.C (Kd.int .u8) w A0 l0.length l0) (hc0 : l0.length ≤ c0) (h : leb_ReadU.f l0 a1 a2 = some (r1, r2, r3)) :
  Calls Tryd.prog 87 #[.slice A0 l0.length c0, .int .i64 a1, .int .i64 a2] w fun e w' => e = .returned (.tuple #[.int .u64 r1, .int .i64 r2, .int .i64 r3]) ∧ Below w.heap.size w w' := by
 have HR0 := Aside0.mk hr0
 have HC0 := Aside0.mk hc0
 clear hr0 hc0
 have HB := Aside0.mk (Below.refl w.heap.size w)
 have H : ((leb_read.f l0 a1 a2).bind fun bt353 => (if bt353.2.2.2.2 = 0 then (if bt353.2.1 > a2 then (if 0 ≤ (wrap64 (7 - (wrap64 (bt353.2.1 - a2)))) then (if (shr .u8 bt353.2.2.1 (wrap64 (7 - (wrap64 (bt353.2.1 - a2))))) = 0 then (some (bt353.1, bt353.2.2.2.1, 0)) else (some (0, 0, 3))) else (none)) else (some (bt353.1, bt353.2.2.2.1, 0))) else (some (0, 0, bt353.2.2.2.2)))) = some (r1, r2, r3) := h
 clear h
 replace H := Option.bind_eq_some_iff.mp H
 obtain ⟨⟨t353, t354, t355, t356, t357⟩, A40, H⟩ := H
 replace H : (if t357 = 0 then (if t354 > a2 then (if 0 ≤ (wrap64 (7 - (wrap64 (t354 - a2)))) then (if (shr .u8 t355 (wrap64 (7 - (wrap64 (t354 - a2))))) = 0 then (some (t353, t356, 0)) else (some (0, 0, 3))) else (none)) else (some (t353, t356, 0))) else (some (0, 0, t357))) = some (r1, r2, r3) := H
 have A4 := Aside0.mk A40
 clear A40
 by_cases c5 : t357 = 0
 ·rw [if_pos c5] at H
  have c5b0 : (t357 == 0) = true := beq_iff_eq.mpr c5
  have c5b1 : (t357 != 0) = false := bne_eq_false_iff_eq.mpr c5
  clear c5
  by_cases c6 : t354 > a2
  ·rw [if_pos c6] at H
   have c6b0 : decide (a2 < t354) = true := decide_eq_true c6
   clear c6
   obtain ⟨ji7, hji7⟩ : ∃ j_ : Int, (wrap64 (7 - (wrap64 (t354 - a2)))) = j_ := ⟨_, rfl⟩
   replace H : (if 0 ≤ (ji7) then (if (shr .u8 t355 (ji7)) = 0 then (some (t353, t356, 0)) else (some (0, 0, 3))) else (none)) = some (r1, r2, r3) := by first | (rw [hji7] at H; exact H) | (simp only [hji7] at H ⊢; exact H)
   (try rw [hji7] at A4)
   have hji7w : (IntKind.i64.wrap (7 - (wrap64 (t354 - a2)))) = ji7 := (i64_w _).trans hji7
   by_cases c8 : 0 ≤ (ji7)
   ·rw [if_pos c8] at H
    have c8b0 := eq_true c8
    have c8b1 : decide (0 ≤ (ji7)) = true := decide_eq_true c8
    clear c8
    obtain ⟨ji9, hji9⟩ : ∃ j_ : Int, (shr .u8 t355 (ji7)) = j_ := ⟨_, rfl⟩
    replace H : (if (ji9) = 0 then (some (t353, t356, 0)) else (some (0, 0, 3))) = some (r1, r2, r3) := by first | (rw [hji9] at H; exact H) | (simp only [hji9] at H ⊢; exact H)
    (try rw [hji9] at A4)
    have hji9_ : (t355 / 2 ^ min (ji7).toNat 8) = ji9 := hji9
    have hji9z : (ji7) ≤ 8 → (t355 / 2 ^ (ji7).toNat) = ji9 := shr_small hji9
    by_cases c10 : (ji9) = 0
    ·rw [if_pos c10] at H
     have c10b0 : ((ji9) == 0) = true := beq_iff_eq.mpr c10
     have c10b1 : ((ji9) != 0) = false := bne_eq_false_iff_eq.mpr c10
     clear c10
     simp only [Option.some.injEq, Prod.mk.injEq] at H
     obtain ⟨rfl, rfl, rfl⟩ := H
     go_enter Tryd.func87, Tryd.ntmps87
     go_wp2_with (first | ((with_reducible refine gate_callee (f := 100) rfl ?_); refine goesL_ (some 18) rfl rfl Tryd.func100 (by kernel_rfl) rfl #[.slice A0 l0.length c0, .int .i64 a1, .int .i64 a2] rfl am ?_; (with_reducible refine (leb_read.calls _ _ l0 a1 a2 t353 t354 t355 t356 t357 _ ?side1 ?side2 A4.out).mono ?_); (case side1 => repeat (first | exact HR0.out | (with_reducible refine Kd.C_alloc ?_ _) | (with_reducible refine Kd.C_drewN ?_ _) | (with_reducible refine Kd.C_drew ?_))); (case side2 => exact HC0.out); rintro e w11 ⟨rfl, hb⟩; refine ⟨_, rfl, ?_⟩; have n0_ := Aside0.mk (below_step bl hb); clear HB; have HB := n0_; clear n0_; (try clear hb); (try clear hb2); (try clear hk); (try clear hi)))
     go_ret3
     exact ⟨by first | rfl | (simp [errW_none, errW_some] <;> rfl) | (simp only [← hji7, ← hji9]; first | rfl | (simp [errW_none, errW_some] <;> rfl)) | (simp [*, errW_none, errW_some] <;> rfl), bl⟩
    ·rw [if_neg c10] at H
     have c10b0 : ((ji9) == 0) = false := beq_eq_false_iff_ne.mpr c10
     have c10b1 : ((ji9) != 0) = true := bne_iff_ne.mpr c10
     simp only [Option.some.injEq, Prod.mk.injEq] at H
     obtain ⟨rfl, rfl, rfl⟩ := H
     go_enter Tryd.func87, Tryd.ntmps87
     go_wp2_with (first | ((with_reducible refine gate_callee (f := 100) rfl ?_); refine goesL_ (some 18) rfl rfl Tryd.func100 (by kernel_rfl) rfl #[.slice A0 l0.length c0, .int .i64 a1, .int .i64 a2] rfl am ?_; (with_reducible refine (leb_read.calls _ _ l0 a1 a2 t353 t354 t355 t356 t357 _ ?side1 ?side2 A4.out).mono ?_); (case side1 => repeat (first | exact HR0.out | (with_reducible refine Kd.C_alloc ?_ _) | (with_reducible refine Kd.C_drewN ?_ _) | (with_reducible refine Kd.C_drew ?_))); (case side2 => exact HC0.out); rintro e w12 ⟨rfl, hb⟩; refine ⟨_, rfl, ?_⟩; have n0_ := Aside0.mk (below_step bl hb); clear HB; have HB := n0_; clear n0_; (try clear hb); (try clear hb2); (try clear hk); (try clear hi)))
     go_ret3
     exact ⟨by first | rfl | (simp [errW_none, errW_some] <;> rfl) | (simp only [← hji7, ← hji9]; first | rfl | (simp [errW_none, errW_some] <;> rfl)) | (simp [*, errW_none, errW_some] <;> rfl), bl⟩
   ·rw [if_neg c8] at H
    exact absurd H (by simp)
  ·rw [if_neg c6] at H
   have c6b0 : decide (a2 < t354) = false := decide_eq_false c6
   clear c6
   simp only [Option.some.injEq, Prod.mk.injEq] at H
   obtain ⟨rfl, rfl, rfl⟩ := H
   go_enter Tryd.func87, Tryd.ntmps87
   go_wp2_with (first | ((with_reducible refine gate_callee (f := 100) rfl ?_); refine goesL_ (some 18) rfl rfl Tryd.func100 (by kernel_rfl) rfl #[.slice A0 l0.length c0, .int .i64 a1, .int .i64 a2] rfl am ?_; (with_reducible refine (leb_read.calls _ _ l0 a1 a2 t353 t354 t355 t356 t357 _ ?side1 ?side2 A4.out).mono ?_); (case side1 => repeat (first | exact HR0.out | (with_reducible refine Kd.C_alloc ?_ _) | (with_reducible refine Kd.C_drewN ?_ _) | (with_reducible refine Kd.C_drew ?_))); (case side2 => exact HC0.out); rintro e w13 ⟨rfl, hb⟩; refine ⟨_, rfl, ?_⟩; have n0_ := Aside0.mk (below_step bl hb); clear HB; have HB := n0_; clear n0_; (try clear hb); (try clear hb2); (try clear hk); (try clear hi)))
   go_ret3
   exact ⟨er, bl⟩
 ·rw [if_neg c5] at H
  have c5b0 : (t357 == 0) = false := beq_eq_false_iff_ne.mpr c5
  have c5b1 : (t357 != 0) = true := bne_iff_ne.mpr c5
  simp only [Option.some.injEq, Prod.mk.injEq] at H
  obtain ⟨rfl, rfl, rfl⟩ := H
  go_enter Tryd.func87, Tryd.ntmps87
  go_wp2_with (first | ((with_reducible refine gate_callee (f := 100) rfl ?_); refine goesL_ (some 18) rfl rfl Tryd.func100 (by kernel_rfl) rfl #[.slice A0 l0.length c0, .int .i64 a1, .int .i64 a2] rfl am ?_; (with_reducible refine (leb_read.calls _ _ l0 a1 a2 t353 t354 t355 t356 t357 _ ?side1 ?side2 A4.out).mono ?_); (case side1 => repeat (first | exact HR0.out | (with_reducible refine Kd.C_alloc ?_ _) | (with_reducible refine Kd.C_drewN ?_ _) | (with_reducible refine Kd.C_drew ?_))); (case side2 => exact HC0.out); rintro e w14 ⟨rfl, hb⟩; refine ⟨_, rfl, ?_⟩; have n0_ := Aside0.mk (below_step bl hb); clear HB; have HB := n0_; clear n0_; (try clear hb); (try clear hb2); (try clear hk); (try clear hi)))
  go_ret3
  exact ⟨er, bl⟩

/-! ### instr_reader_u: function 66 -/
def instr_reader_u.f (s0_0 : List Int) (s0_1 : Int) (s0_2 : Int) : Option (Int × Int × Int) := if s0_2 = 0 then ((leb_ReadU.f s0_0 s0_1 32).bind fun bt358 => (some (wrap64 (bt358.1), bt358.2.1, bt358.2.2))) else (some (0, s0_1, s0_2))
def instr_reader_u.T3 : Bool × List (List Nat × List Nat) := (true, [([], []), ([0], [0]), ([1], [1]), ([2], [2]), ([], []), ([4], [4]), ([5], [5]), ([6], [6]), ([3, 7], [3, 7]), ([8], [8]), ([9], [9]), ([9], [9]), ([9], [9]), ([10, 8, 0, 1, 2, 3, 4, 5, 6, 7, 8, 9, 10], [10]), ([11, 13, 0, 1, 2, 3, 4, 5, 6, 7, 8, 9, 10, 11, 13], [11]), ([12, 14, 0, 1, 2, 3, 4, 5, 6, 7, 8, 9, 10, 11, 12, 13, 14], [12])])
def instr_reader_u.B3 : List Nat := [0, 1, 3, 7, 0, 16, 48, 112, 255, 511, 1023, 1023, 1023, 2047, 12287, 32767]
theorem instr_reader_u.tab3 : rtab .any (opsOf Tryd.f66 3) = instr_reader_u.T3 := by kernel_rfl
theorem instr_reader_u.bits3 : waitsOk instr_reader_u.T3.2 instr_reader_u.B3 = true := by kernel_rfl
set_option maxHeartbeats 8000000 in
set_option maxRecDepth 100000 in
theorem instr_reader_u.calls (g : Nat) (s0_0 : List Int) (s0_1 : Int) (s0_2 : Int) (r1 : Int) (r2 : Int) (r3 : Int) (w0 w : World) (hI : IsS80 w0 w g s0_0 s0_1 s0_2) (hB : Below w0.heap.size w0 w) (h : instr_reader_u.f s0_0 s0_1 s0_2 = some (r1, r2, r3)) :
  Calls Tryd.prog 66 #[.pointer (some ⟨g, 0, none⟩)] w fun e w' => e = .returned (.int .i64 r1) ∧ IsS80 w0 w' g s0_0 r2 r3 ∧ Below w0.heap.size w0 w' ∧ KeepBut w w' g none := by
 have HI0 := Aside0.mk hI
 have HK := Aside0.mk (KeepBut.refl w g none)
 have HL := Aside0.mk hB.size
 clear hI
 have HW0 := Aside0.mk hB.size
 have HB := Aside0.mk hB
 clear hB
 have H : (if s0_2 = 0 then ((leb_ReadU.f s0_0 s0_1 32).bind fun bt358 => (some (wrap64 (bt358.1), bt358.2.1, bt358.2.2))) else (some (0, s0_1, s0_2))) = some (r1, r2, r3) := h
 clear h
 by_cases c2 : s0_2 = 0
 ·rw [if_pos c2] at H
  have c2b0 : (s0_2 == 0) = true := beq_iff_eq.mpr c2
  have c2b1 : (s0_2 != 0) = false := bne_eq_false_iff_eq.mpr c2
  clear c2
  replace H := Option.bind_eq_some_iff.mp H
  obtain ⟨⟨t358, t359, t360⟩, A30, H⟩ := H
  replace H : (some (wrap64 (t358), t359, t360)) = some (r1, r2, r3) := H
  have A3 := Aside0.mk A30
  clear A30
  simp only [Option.some.injEq, Prod.mk.injEq] at H
  obtain ⟨rfl, rfl, rfl⟩ := H
  obtain ⟨ASz4_0, cSz4_0, HGz4, hgz4, HSz4_0, HQz4_0⟩ := HI0.out
  have hcz4_0 := cellS80_0 HGz4
  have hcz4_1 := cellS80_1 HGz4
  have hcz4_2 := cellS80_2 HGz4
  have hfz4_1 := blk_frozen HGz4 1
  have hfz4_2 := blk_frozen HGz4 2
  clear HGz4 hgz4
  go_enter Tryd.func66, Tryd.ntmps66
  try go_wp2
  have n0_ := Aside0.mk (IsS80.drew HI0.out)
  have n1_ := Aside0.mk (keep_drew HK.out)
  have n2_ := Aside0.mk (below_drew1 HB.out)
  clear HI0
  clear HK
  clear HB
  have HI0 := n0_
  have HK := n1_
  have HB := n2_
  clear n0_ n1_ n2_
  obtain ⟨ASz6_0, cSz6_0, HGz6, hgz6, HSz6_0, HQz6_0⟩ := HI0.out
  have hcz6_0 := cellS80_0 HGz6
  have hcz6_1 := cellS80_1 HGz6
  have hcz6_2 := cellS80_2 HGz6
  have hfz6_1 := blk_frozen HGz6 1
  have hfz6_2 := blk_frozen HGz6 2
  clear HGz6 hgz6
  refine start_ (n := 16) (S := fun w' => w'.cell? ⟨g, 0, none⟩ = some (.slice ASz6_0 s0_0.length cSz6_0) ∧ w'.cell? ⟨g, 1, none⟩ = some (.int .i64 s0_1) ∧ w'.cell? ⟨g, 2, none⟩ = some (.int .i64 s0_2)) (ds := []) #[false, false, false, false, false, false, false, false, false, false, false, false, false, false, false, false] (by kernel_rfl) rfl rfl ⟨hcz6_0, hcz6_1, hcz6_2⟩ (fun hHeld => ?_); refine with_tabW instr_reader_u.tab3 instr_reader_u.bits3 (fun HT_ HW_ => ?_)
  generalize w.drew = w5 at hcz6_0 hcz6_1 hcz6_2 hfz6_1 hfz6_2 HI0 HK HB hHeld ⊢
  refine pure_ (i := 0) (N := some 12) (v := ?_) (a' := ?_) #[true, false, false, false, false, false, false, false, false, false, false, false, false, false, false, false] rfl rfl (any_of HT_.out (by kernel_rfl)) (fun _ _ _ h => h) (Or.inl ⟨by rfl, ?_⟩) ?_ ?_
  rotate_left
  ·intro w'
   go_simp
   with_reducible rfl
  rotate_left
  ·simp only [Act.put, List.setIfInBounds_toArray, List.set_cons_zero, List.set_cons_succ, i64_w, i32_w]
   rfl
  refine pure_ (i := 1) (N := some 13) (v := ?_) (a' := ?_) #[true, true, false, false, false, false, false, false, false, false, false, false, false, false, false, false] rfl rfl (any_of HT_.out (by kernel_rfl)) (fun _ _ _ h => h) (Or.inl ⟨by rfl, ?_⟩) ?_ ?_
  rotate_left
  ·intro w'
   go_simp
   with_reducible rfl
  rotate_left
  ·simp only [Act.put, List.setIfInBounds_toArray, List.set_cons_zero, List.set_cons_succ, i64_w, i32_w]
   rfl
  refine pure_ (i := 2) (N := some 14) (v := ?_) (a' := ?_) #[true, true, true, false, false, false, false, false, false, false, false, false, false, false, false, false] rfl rfl (any_of HT_.out (by kernel_rfl)) (fun _ _ _ h => h) (Or.inl ⟨by rfl, ?_⟩) ?_ ?_
  rotate_left
  ·intro w'
   go_simp
   with_reducible rfl
  rotate_left
  ·simp only [Act.put, List.setIfInBounds_toArray, List.set_cons_zero, List.set_cons_succ, i64_w, i32_w]
   rfl
  refine pure_ (i := 4) (N := some 16) (v := ?_) (a' := ?_) #[true, true, true, false, true, false, false, false, false, false, false, false, false, false, false, false] rfl rfl (any_of HT_.out (by kernel_rfl)) (fun _ _ _ h => h) (Or.inl ⟨by rfl, ?_⟩) ?_ ?_
  rotate_left
  ·intro w'
   go_simp
   with_reducible rfl
  rotate_left
  ·simp only [Act.put, List.setIfInBounds_toArray, List.set_cons_zero, List.set_cons_succ, i64_w, i32_w]
   rfl
  refine pure_ (i := 5) (N := some 17) (v := ?_) (a' := ?_) #[true, true, true, false, true, true, false, false, false, false, false, false, false, false, false, false] rfl rfl (any_of HT_.out (by kernel_rfl)) (fun _ _ _ h => h) (Or.inl ⟨by rfl, ?_⟩) ?_ ?_
  rotate_left
  ·intro w'
   go_simp
   with_reducible rfl
  rotate_left
  ·simp only [Act.put, List.setIfInBounds_toArray, List.set_cons_zero, List.set_cons_succ, i64_w, i32_w]
   rfl
  refine pure_ (i := 6) (N := some 18) (v := ?_) (a' := ?_) #[true, true, true, false, true, true, true, false, false, false, false, false, false, false, false, false] rfl rfl (any_of HT_.out (by kernel_rfl)) (fun _ _ _ h => h) (Or.inl ⟨by rfl, ?_⟩) ?_ ?_
  rotate_left
  ·intro w'
   go_simp
   with_reducible rfl
  rotate_left
  ·simp only [Act.put, List.setIfInBounds_toArray, List.set_cons_zero, List.set_cons_succ, i64_w, i32_w]
   rfl
  refine take_ (i := 3) (N := some 15) (v := ?_) (a' := ?_) #[true, true, true, true, true, true, true, false, false, false, false, false, false, false, false, false] rfl rfl (take_ofW HT_.out HW_.out (by kernel_rfl)) (fun _ _ _ h => h) (Or.inl ⟨by rfl, ?_⟩) hHeld ?_ ?_
  rotate_left
  ·rintro w' ⟨s0, s1, s2⟩
   go_simp
   with_reducible rfl
  rotate_left
  ·simp only [Act.put, List.setIfInBounds_toArray, List.set_cons_zero, List.set_cons_succ, i64_w, i32_w]
   rfl
  refine take_ (i := 7) (N := some 19) (v := ?_) (a' := ?_) #[true, true, true, true, true, true, true, true, false, false, false, false, false, false, false, false] rfl rfl (take_ofW HT_.out HW_.out (by kernel_rfl)) (fun _ _ _ h => h) (Or.inl ⟨by rfl, ?_⟩) hHeld ?_ ?_
  rotate_left
  ·rintro w' ⟨s0, s1, s2⟩
   go_simp
   with_reducible rfl
  rotate_left
  ·simp only [Act.put, List.setIfInBounds_toArray, List.set_cons_zero, List.set_cons_succ, i64_w, i32_w]
   rfl
  refine one_ (i := 8) (N := some 20) #[true, true, true, true, true, true, true, true, true, false, false, false, false, false, false, false] rfl rfl (one_of HT_.out (by kernel_rfl)) (by decide) (fun K hK => ?_)
  refine goes_ Tryd.func87 (by kernel_rfl) rfl #[.slice ASz6_0 s0_0.length cSz6_0, .int .i64 s0_1, .int .i64 32] (by rfl) rfl rfl am ?_
  with_reducible refine (leb_ReadU.calls _ _ s0_0 s0_1 32 t358 t359 t360 _ ?side1 ?side2 A3.out).mono ?_
  (case side1 => exact Kd.C_below HSz6_0 (blg (IsS80.ge HI0.out)))
  (case side2 => exact HQz6_0)
  rintro e w7 ⟨rfl, hb⟩
  have HS0_ := (hb.cell (World.block_lt_of_cell? _ _ (hHeld.1))).trans (hHeld.1)
  have HS1_ := (hb.cell (World.block_lt_of_cell? _ _ (hHeld.2.1))).trans (hHeld.2.1)
  have HS2_ := (hb.cell (World.block_lt_of_cell? _ _ (hHeld.2.2))).trans (hHeld.2.2)
  refine ⟨_, rfl, ?_⟩
  have n0_ := Aside0.mk (IsS80.below (by repeat (first | (with_reducible first | exact HI0.out | apply IsS80.alloc | apply IsS80.drewN | apply IsS80.drew | apply IsS80.set_1 | apply IsS80.set_2) | exact HI0.out)) hb)
  have n1_ := Aside0.mk (KeepBut.trans kl (KeepBut.of_below hb g none) (.inl rfl))
  have n2_ := Aside0.mk (below_step (blg (IsS80.ge HI0.out)) hb)
  clear HI0
  clear HK
  clear HB
  have HI0 := n0_
  have HK := n1_
  have HB := n2_
  clear n0_ n1_ n2_
  (try clear hb)
  (try clear hb2)
  (try clear hk)
  (try clear hi)
  refine hK.out _ _ ⟨HS0_, HS1_, HS2_⟩ (fun hHeld => ?_)
  clear hK K
  refine norm_ (a' := ?_) ?_ ?_
  rotate_left
  ·show Act.put _ (some 20) _ = _
   simp only [Act.put, List.setIfInBounds_toArray, List.set_cons_zero, List.set_cons_succ, i64_w, i32_w]
   rfl
  refine pure_ (i := 9) (N := some 11) (v := ?_) (a' := ?_) #[true, true, true, true, true, true, true, true, true, true, false, false, false, false, false, false] rfl rfl (any_of HT_.out (by kernel_rfl)) (fun _ _ _ h => h) (Or.inl ⟨by rfl, ?_⟩) ?_ ?_
  rotate_left
  ·intro w'
   go_simp
   with_reducible rfl
  rotate_left
  ·simp only [Act.put, List.setIfInBounds_toArray, List.set_cons_zero, List.set_cons_succ, i64_w, i32_w]
   rfl
  refine pure_ (i := 10) (N := some 21) (v := ?_) (a' := ?_) #[true, true, true, true, true, true, true, true, true, true, true, false, false, false, false, false] rfl rfl (any_of HT_.out (by kernel_rfl)) (fun _ _ _ h => h) (Or.inl ⟨by rfl, ?_⟩) ?_ ?_
  rotate_left
  ·intro w'
   go_simp
   with_reducible rfl
  rotate_left
  ·simp only [Act.put, List.setIfInBounds_toArray, List.set_cons_zero, List.set_cons_succ, i64_w, i32_w]
   rfl
  refine pure_ (i := 11) (N := some 22) (v := ?_) (a' := ?_) #[true, true, true, true, true, true, true, true, true, true, true, true, false, false, false, false] rfl rfl (any_of HT_.out (by kernel_rfl)) (fun _ _ _ h => h) (Or.inl ⟨by rfl, ?_⟩) ?_ ?_
  rotate_left
  ·intro w'
   go_simp
   with_reducible rfl
  rotate_left
  ·simp only [Act.put, List.setIfInBounds_toArray, List.set_cons_zero, List.set_cons_succ, i64_w, i32_w]
   rfl
  refine pure_ (i := 12) (N := some 23) (v := ?_) (a' := ?_) #[true, true, true, true, true, true, true, true, true, true, true, true, true, false, false, false] rfl rfl (any_of HT_.out (by kernel_rfl)) (fun _ _ _ h => h) (Or.inl ⟨by rfl, ?_⟩) ?_ ?_
  rotate_left
  ·intro w'
   go_simp
   with_reducible rfl
  rotate_left
  ·simp only [Act.put, List.setIfInBounds_toArray, List.set_cons_zero, List.set_cons_succ, i64_w, i32_w]
   rfl
  refine pure_ (i := 13) (N := some 3) (v := ?_) (a' := ?_) #[true, true, true, true, true, true, true, true, true, true, true, true, true, true, false, false] rfl rfl (any_of HT_.out (by kernel_rfl)) (fun _ _ _ h => h) (Or.inl ⟨by rfl, ?_⟩) ?_ ?_
  rotate_left
  ·intro w'
   go_simp
   with_reducible rfl
  rotate_left
  ·simp only [Act.put, List.setIfInBounds_toArray, List.set_cons_zero, List.set_cons_succ, i64_w, i32_w]
   rfl
  refine pure_ (i := 14) (N := some 4) (v := ?_) (a' := ?_) #[true, true, true, true, true, true, true, true, true, true, true, true, true, true, true, false] rfl rfl (any_of HT_.out (by kernel_rfl)) (fun _ _ _ h => h) (Or.inl ⟨by rfl, ?_⟩) ?_ ?_
  rotate_left
  ·intro w'
   go_simp
   with_reducible rfl
  rotate_left
  ·simp only [Act.put, List.setIfInBounds_toArray, List.set_cons_zero, List.set_cons_succ, i64_w, i32_w]
   rfl
  refine pure_ (i := 15) (N := some 5) (v := ?_) (a' := ?_) #[true, true, true, true, true, true, true, true, true, true, true, true, true, true, true, true] rfl rfl (any_of HT_.out (by kernel_rfl)) (fun _ _ _ h => h) (Or.inl ⟨by rfl, ?_⟩) ?_ ?_
  rotate_left
  ·intro w'
   go_simp
   with_reducible rfl
  rotate_left
  ·simp only [Act.put, List.setIfInBounds_toArray, List.set_cons_zero, List.set_cons_succ, i64_w, i32_w]
   rfl
  refine done_ (done_of HT_.out (by kernel_rfl)) ?_
  obtain ⟨ASz8_0, cSz8_0, HGz8, hgz8, HSz8_0, HQz8_0⟩ := HI0.out
  have hcz8_0 := cellS80_0 HGz8
  have hcz8_1 := cellS80_1 HGz8
  have hcz8_2 := cellS80_2 HGz8
  have hfz8_1 := blk_frozen HGz8 1
  have hfz8_2 := blk_frozen HGz8 2
  clear HGz8 hgz8
  try go_wp2
  go_ret
  exact ⟨er, by repeat (first | (with_reducible first | exact HI0.out | apply IsS80.alloc | apply IsS80.drewN | apply IsS80.drew | apply IsS80.set_1 | apply IsS80.set_2) | exact HI0.out), by repeat (first | (with_reducible first | exact HB.out | apply below_alloc | apply pw_below_drewN | apply below_drew1 | refine below_set ?_ (IsS80.ge HI0.out)) | exact HB.out), kl⟩
 ·rw [if_neg c2] at H
  have c2b0 : (s0_2 == 0) = false := beq_eq_false_iff_ne.mpr c2
  have c2b1 : (s0_2 != 0) = true := bne_iff_ne.mpr c2
  simp only [Option.some.injEq, Prod.mk.injEq] at H
  obtain ⟨rfl, rfl, rfl⟩ := H
  obtain ⟨ASz9_0, cSz9_0, HGz9, hgz9, HSz9_0, HQz9_0⟩ := HI0.out
  have hcz9_0 := cellS80_0 HGz9
  have hcz9_1 := cellS80_1 HGz9
  have hcz9_2 := cellS80_2 HGz9
  have hfz9_1 := blk_frozen HGz9 1
  have hfz9_2 := blk_frozen HGz9 2
  clear HGz9 hgz9
  go_enter Tryd.func66, Tryd.ntmps66
  go_wp2
  go_ret
  exact ⟨er, by repeat (first | (with_reducible first | exact HI0.out | apply IsS80.alloc | apply IsS80.drewN | apply IsS80.drew | apply IsS80.set_1 | apply IsS80.set_2) | exact HI0.out), by repeat (first | (with_reducible first | exact HB.out | apply below_alloc | apply pw_below_drewN | apply below_drew1 | refine below_set ?_ (IsS80.ge HI0.out)) | exact HB.out), kl⟩

/-! ### instr_reader_labels: function 67 -/
def instr_reader_labels.l0 : Nat → Int → List Int → Int → List Int → Int → Int → Option (List Int × Int × Int)
 | 0, _, _, _, _, _, _ => none
 | k + 1, x3, x4, x5, x1000, x1001, x1002 => if x5 < x3 then (if x1002 = 0 then ((instr_reader_u.f x1000 x1001 x1002).bind fun bt366 => (if x4.length < 17592186044416 then (instr_reader_labels.l0 k x3 (x4 ++ [bt366.1]) (wrap64 (x5 + 1)) x1000 bt366.2.1 bt366.2.2) else (none))) else (some (x4, x1001, x1002))) else (some (x4, x1001, x1002))
def instr_reader_labels.f (k : Nat) (s0_0 : List Int) (s0_1 : Int) (s0_2 : Int) : Option (List Int × Int × Int) := (instr_reader_u.f s0_0 s0_1 s0_2).bind fun bt361 => ((instr_reader_must.f s0_0 bt361.2.1 bt361.2.2 (decide (bt361.1 ≤ 64)) 4).bind fun bt364 => (instr_reader_labels.l0 k bt361.1 ([] : List Int) 0 s0_0 bt364.1 bt364.2))
theorem instr_reader_labels.mono_l : ∀ k, (∀ y0 y1 y2 y3 y4 y5, LeO (instr_reader_labels.l0 k y0 y1 y2 y3 y4 y5) (instr_reader_labels.l0 (k + 1) y0 y1 y2 y3 y4 y5))
 | 0 => fun _ _ _ _ _ _ r h => by simp [instr_reader_labels.l0] at h
 | k + 1 => by
  have ih0 := instr_reader_labels.mono_l k
  ·intro y0 y1 y2 y3 y4 y5
   unfold instr_reader_labels.l0
   repeat' first
   | (with_reducible exact ih0 _ _ _ _ _ _)
   | (with_reducible exact LeO.refl _)
   | (with_reducible exact LeO.none _)
   | (with_reducible refine LeO.ite ?_ ?_)
   | (with_reducible refine LeO.bind ?_ (fun _ => ?_))
   | exact ih0 _ _ _ _ _ _
   | exact LeO.none _
   | refine LeO.ite ?_ ?_
   | refine LeO.bind ?_ (fun _ => ?_)
theorem instr_reader_labels.mono : ∀ a0 a1 a2 k, LeO (instr_reader_labels.f k a0 a1 a2) (instr_reader_labels.f (k + 1) a0 a1 a2) := by
 intro a0 a1 a2 k
 have ih0 := instr_reader_labels.mono_l k
 unfold instr_reader_labels.f
 repeat' first
   | (with_reducible exact ih0 _ _ _ _ _ _)
   | (with_reducible exact LeO.refl _)
   | (with_reducible exact LeO.none _)
   | (with_reducible refine LeO.ite ?_ ?_)
   | (with_reducible refine LeO.bind ?_ (fun _ => ?_))
   | exact ih0 _ _ _ _ _ _
   | exact LeO.none _
   | refine LeO.ite ?_ ?_
   | refine LeO.bind ?_ (fun _ => ?_)
set_option maxHeartbeats 8000000 in
set_option maxRecDepth 100000 in
theorem instr_reader_labels.calls (k : Nat) (g : Nat) (s0_0 : List Int) (s0_1 : Int) (s0_2 : Int) (r1 : List Int) (r2 : Int) (r3 : Int) (w0 w : World) (hI : IsS80 w0 w g s0_0 s0_1 s0_2) (hB : Below w0.heap.size w0 w) (h : instr_reader_labels.f k s0_0 s0_1 s0_2 = some (r1, r2, r3)) :
  Calls Tryd.prog 67 #[.pointer (some ⟨g, 0, none⟩)] w fun e w' => ∃ v0_ : Value, e = .returned (v0_) ∧ Kd.R (Kd.int .i64) 3 w' w.heap.size (fun _ => True) v0_ r1 ∧ IsS80 w0 w' g s0_0 r2 r3 ∧ Below w0.heap.size w0 w' ∧ KeepBut w w' g none := by
 have HI0 := Aside0.mk hI
 have HK := Aside0.mk (KeepBut.refl w g none)
 have HL := Aside0.mk hB.size
 clear hI
 have HW0 := Aside0.mk hB.size
 have HB := Aside0.mk hB
 clear hB
 have H : ((instr_reader_u.f s0_0 s0_1 s0_2).bind fun bt361 => ((instr_reader_must.f s0_0 bt361.2.1 bt361.2.2 (decide (bt361.1 ≤ 64)) 4).bind fun bt364 => (instr_reader_labels.l0 k bt361.1 ([] : List Int) 0 s0_0 bt364.1 bt364.2))) = some (r1, r2, r3) := h
 clear h
 replace H := Option.bind_eq_some_iff.mp H
 obtain ⟨⟨t361, t362, t363⟩, A20, H⟩ := H
 replace H : ((instr_reader_must.f s0_0 t362 t363 (decide (t361 ≤ 64)) 4).bind fun bt364 => (instr_reader_labels.l0 k t361 ([] : List Int) 0 s0_0 bt364.1 bt364.2)) = some (r1, r2, r3) := H
 have A2 := Aside0.mk A20
 clear A20
 replace H := Option.bind_eq_some_iff.mp H
 obtain ⟨⟨t364, t365⟩, A30, H⟩ := H
 replace H : (instr_reader_labels.l0 k t361 ([] : List Int) 0 s0_0 t364 t365) = some (r1, r2, r3) := H
 have A3 := Aside0.mk A30
 clear A30
 have H' := Aside0.mk H
 clear H
 go_enter Tryd.func67, Tryd.ntmps67
 go_wp2_with (first | ((with_reducible refine gate_callee (f := 66) rfl ?_); refine goesL_ (some 7) rfl rfl Tryd.func66 (by kernel_rfl) rfl #[.pointer (some ⟨g, 0, none⟩)] rfl am ?_; (with_reducible refine (instr_reader_u.calls g s0_0 s0_1 s0_2 t361 t362 t363 w0 _ ?side1 ?side2 A2.out).mono ?_); (case side1 => repeat (first | (with_reducible first | exact HI0.out | apply IsS80.alloc | apply IsS80.drewN | apply IsS80.drew | apply IsS80.set_1 | apply IsS80.set_2) | exact HI0.out)); (case side2 => repeat (first | (with_reducible first | exact HB.out | apply below_alloc | apply pw_below_drewN | apply below_drew1 | refine below_set ?_ (IsS80.ge HI0.out)) | exact HB.out)); rintro e w4 ⟨rfl, hi, hb, hk⟩; refine ⟨_, rfl, ?_⟩; have n0_ := Aside0.mk (KeepBut.trans kl hk (.inl rfl)); have n1_ := Aside0.mk (hb); have n2_ := Aside0.mk (hi); clear HK; clear HB; clear HI0; have HK := n0_; have HB := n1_; have HI0 := n2_; clear n0_ n1_ n2_; (try clear hb); (try clear hb2); (try clear hk); (try clear hi)) | ((with_reducible refine gate_callee (f := 64) rfl ?_); refine goesL_ (some 11) rfl rfl Tryd.func64 (by kernel_rfl) rfl #[.pointer (some ⟨g, 0, none⟩), .bool (decide (t361 ≤ 64)), .int .i64 4] rfl am ?_; (with_reducible refine (instr_reader_must.calls g s0_0 t362 t363 (decide (t361 ≤ 64)) 4 t364 t365 w0 _ ?side1 ?side2 A3.out).mono ?_); (case side1 => repeat (first | (with_reducible first | exact HI0.out | apply IsS80.alloc | apply IsS80.drewN | apply IsS80.drew | apply IsS80.set_1 | apply IsS80.set_2) | exact HI0.out)); (case side2 => repeat (first | (with_reducible first | exact HB.out | apply below_alloc | apply pw_below_drewN | apply below_drew1 | refine below_set ?_ (IsS80.ge HI0.out)) | exact HB.out)); rintro e w5 ⟨rfl, hi, hb, hk⟩; refine ⟨_, rfl, ?_⟩; have n0_ := Aside0.mk (KeepBut.trans kl hk (.inl rfl)); have n1_ := Aside0.mk (hb); have n2_ := Aside0.mk (hi); clear HK; clear HB; clear HI0; have HK := n0_; have HB := n1_; have HI0 := n2_; clear n0_ n1_ n2_; (try clear hb); (try clear hb2); (try clear hk); (try clear hi)))
 go_loopg [4, 5] k (fun kq v4 v5 w' => ∃ (x4_1 : List Int) (x5_1 : Int) (x1001_1 : Int) (x1002_1 : Int), v5 = .int .i64 x5_1 ∧ Aside0 (instr_reader_labels.l0 kq t361 x4_1 x5_1 s0_0 x1001_1 x1002_1 = some (r1, r2, r3)) ∧ Aside0 (kq ≤ k) ∧ Aside0 (Kd.R (Kd.int .i64) 3 w' w.heap.size (fun _ => True) v4 x4_1) ∧ Aside0 (IsS80 w0 w' g s0_0 x1001_1 x1002_1) ∧ Aside0 (KeepBut w w' g none) ∧ Aside0 (Below w0.heap.size w0 w'))
 case atStart => exact ⟨(([] : List Int)), (0), (t364), (t365), rs, H', ⟨Nat.le_refl _⟩, ⟨by first | exact Kd.R_nil _ _ _ _ _ | exact Kd.N_nil _ _ _ _ _ | exact Kd.V_nil _ _ _ _ _ | exact Kd.Q_nil _ _ _ _ _ | exact Kd.S_nil _ _ _ _ _⟩, ⟨by repeat (first | (with_reducible first | exact HI0.out | apply IsS80.alloc | apply IsS80.drewN | apply IsS80.drew | apply IsS80.set_1 | apply IsS80.set_2) | exact HI0.out)⟩, ⟨kl⟩, ⟨by repeat (first | (with_reducible first | exact HB.out | apply below_alloc | apply pw_below_drewN | apply below_drew1 | refine below_set ?_ (IsS80.ge HI0.out)) | exact HB.out)⟩⟩
 case round =>
  clear H'
  (try clear p2)
  obtain ⟨x4_1, x5_1, x1001_1, x1002_1, rfl, HA, HK1, HO_4, HI0, HK, HB⟩ := hrel
  cases gk with
  | zero => exact absurd HA.out (by simp [instr_reader_labels.l0])
  | succ k1 =>
   have H := HA.out
   clear HA
   simp only [instr_reader_labels.l0] at H
   by_cases c6 : x5_1 < t361
   ·rw [if_pos c6] at H
    have c6b0 : decide (x5_1 < t361) = true := decide_eq_true c6
    clear c6
    by_cases c7 : x1002_1 = 0
    ·rw [if_pos c7] at H
     have c7b0 : (x1002_1 == 0) = true := beq_iff_eq.mpr c7
     have c7b1 : (x1002_1 != 0) = false := bne_eq_false_iff_eq.mpr c7
     clear c7
     replace H := Option.bind_eq_some_iff.mp H
     obtain ⟨⟨t366, t367, t368⟩, A80, H⟩ := H
     replace H : (if x4_1.length < 17592186044416 then (instr_reader_labels.l0 k1 t361 (x4_1 ++ [t366]) (wrap64 (x5_1 + 1)) s0_0 t367 t368) else (none)) = some (r1, r2, r3) := H
     have A8 := Aside0.mk A80
     clear A80
     by_cases c9 : x4_1.length < 17592186044416
     ·rw [if_pos c9] at H
      have LMc9 := Aside0.mk c9
      clear c9
      obtain ⟨y369, hy369⟩ : ∃ y_ : List Int, y_ = (x4_1 ++ [t366]) := ⟨_, rfl⟩
      replace H : (instr_reader_labels.l0 k1 t361 y369 (wrap64 (x5_1 + 1)) s0_0 t367 t368) = some (r1, r2, r3) := by first | (rw [hy369]; with_reducible exact H) | (have H2_ := (Option.bind_some _ _).symm.trans H; rw [hy369]; with_reducible exact H2_) | (have H2_ := (Option.bind_some _ _).symm.trans H; with_reducible exact H2_) | with_reducible exact H | (rw [hy369]; exact H) | exact H
      have Ny369 := Aside0.mk hy369
      clear hy369
      have H' := Aside0.mk H
      clear H
      obtain ⟨ASz10_0, cSz10_0, HGz10, hgz10, HSz10_0, HQz10_0⟩ := HI0.out
      have hcz10_0 := cellS80_0 HGz10
      have hcz10_1 := cellS80_1 HGz10
      have hcz10_2 := cellS80_2 HGz10
      have hfz10_1 := blk_frozen HGz10 1
      have hfz10_2 := blk_frozen HGz10 2
      clear HGz10 hgz10
      go_wp2_with (first | ((with_reducible refine gate_callee (f := 66) rfl ?_); refine goesL_ (some 26) rfl rfl Tryd.func66 (by kernel_rfl) rfl #[.pointer (some ⟨g, 0, none⟩)] rfl am ?_; (with_reducible refine (instr_reader_u.calls g s0_0 x1001_1 x1002_1 t366 t367 t368 w0 _ ?side1 ?side2 A8.out).mono ?_); (case side1 => repeat (first | (with_reducible first | exact HI0.out | apply IsS80.alloc | apply IsS80.drewN | apply IsS80.drew | apply IsS80.set_1 | apply IsS80.set_2) | exact HI0.out)); (case side2 => repeat (first | (with_reducible first | exact HB.out | apply below_alloc | apply pw_below_drewN | apply below_drew1 | refine below_set ?_ (IsS80.ge HI0.out)) | exact HB.out)); rintro e w11 ⟨rfl, hi, hb, hk⟩; refine ⟨_, rfl, ?_⟩; have n0_ := Aside0.mk (Kd.R_mono (Kd.R_keep (IsS80.apart (show IsS80 w0 _ g s0_0 x1001_1 x1002_1 from by repeat (first | (with_reducible first | exact HI0.out | apply IsS80.alloc | apply IsS80.drewN | apply IsS80.drew | apply IsS80.set_1 | apply IsS80.set_2) | exact HI0.out)) (ra HO_4) (by decide)) hk (fun _ h => h.2)) (fun _ h => h.1)); have n1_ := Aside0.mk (KeepBut.trans kl hk (.inl rfl)); have n2_ := Aside0.mk (hb); have n3_ := Aside0.mk (hi); clear HO_4; clear HK; clear HB; clear HI0; have HO_4 := n0_; have HK := n1_; have HB := n2_; have HI0 := n3_; clear n0_ n1_ n2_ n3_; (try clear hb); (try clear hb2); (try clear hk); (try clear hi)) | ((with_reducible refine gate_builtin (b := .append) (xs := #[.tmp 24, .tmp 27]) rfl ?_); at_builtin; refine Kd.R_append (Kd.int .i64) w.heap.size rfl (.tmp 24) (.tmp 27) 28 3 (.int .i64 0) 8 rfl Tryd.underlying28 info3 rfl (by decide) (by omega) u4 x4_1 t366 [.int .i64 t366] (fun _ => True) (fun _ => False) rfl rfl ?aP (fun _ hk => hk.elim) ?aF ?aO (Below.refl _ _) ?aS ?aL ?_; (case aP => exact rfl); (case aF => exact (fun _ _ => trivial)); (case aO => exact (ra HO_4)); (case aS => exact (keep_size (w := w) (g := g) (row := none) kl)); (case aL => have := LMc9.out; omega); intro v370 w12 ho hb hg hat; rw [← Ny369.out] at ho; have n0_ := Aside0.mk (IsS80.grown (by repeat (first | (with_reducible first | exact HI0.out | apply IsS80.alloc | apply IsS80.drewN | apply IsS80.drew | apply IsS80.set_1 | apply IsS80.set_2) | exact HI0.out)) hg (IsS80.own_ne HI0.out HO_4.out (by decide))); have n1_ := Aside0.mk (below_weaken (blg (IsS80.ge HI0.out)) HL.out hb); have n2_ := Aside0.mk (KeepBut.trans kl (KeepBut.of_grown hg g) (Kd.R_base2 HO_4.out)); have n3_ := Aside0.mk (ho); clear HI0; clear HB; clear HK; clear HO_4; have HI0 := n0_; have HB := n1_; have HK := n2_; have HO371 := n3_; clear n0_ n1_ n2_ n3_; clear ho hb hg hat))
      go_roundg k1
      case measure => have := HK1.out; omega
      case rel => exact ⟨(y369), (wrap64 (x5_1 + 1)), (t367), (t368), rs, H', ⟨by have := HK1.out; omega⟩, ⟨by (with_reducible repeat (first | apply Kd.R_alloc | apply Kd.R_drewN | apply Kd.R_drew)); exact HO371.out⟩, ⟨by repeat (first | (with_reducible first | exact HI0.out | apply IsS80.alloc | apply IsS80.drewN | apply IsS80.drew | apply IsS80.set_1 | apply IsS80.set_2) | exact HI0.out)⟩, ⟨kl⟩, ⟨by repeat (first | (with_reducible first | exact HB.out | apply below_alloc | apply pw_below_drewN | apply below_drew1 | refine below_set ?_ (IsS80.ge HI0.out)) | exact HB.out)⟩⟩
     ·rw [if_neg c9] at H
      exact absurd H (by simp)
    ·rw [if_neg c7] at H
     have c7b0 : (x1002_1 == 0) = false := beq_eq_false_iff_ne.mpr c7
     have c7b1 : (x1002_1 != 0) = true := bne_iff_ne.mpr c7
     simp only [Option.some.injEq, Prod.mk.injEq] at H
     obtain ⟨rfl, rfl, rfl⟩ := H
     obtain ⟨ASz13_0, cSz13_0, HGz13, hgz13, HSz13_0, HQz13_0⟩ := HI0.out
     have hcz13_0 := cellS80_0 HGz13
     have hcz13_1 := cellS80_1 HGz13
     have hcz13_2 := cellS80_2 HGz13
     have hfz13_1 := blk_frozen HGz13 1
     have hfz13_2 := blk_frozen HGz13 2
     clear HGz13 hgz13
     go_wp2
     go_ret
     exact ⟨_, er, by (with_reducible repeat (first | apply Kd.R_alloc | apply Kd.R_drewN | apply Kd.R_drew)); exact HO_4.out, by repeat (first | (with_reducible first | exact HI0.out | apply IsS80.alloc | apply IsS80.drewN | apply IsS80.drew | apply IsS80.set_1 | apply IsS80.set_2) | exact HI0.out), by repeat (first | (with_reducible first | exact HB.out | apply below_alloc | apply pw_below_drewN | apply below_drew1 | refine below_set ?_ (IsS80.ge HI0.out)) | exact HB.out), kl⟩
   ·rw [if_neg c6] at H
    have c6b0 : decide (x5_1 < t361) = false := decide_eq_false c6
    clear c6
    simp only [Option.some.injEq, Prod.mk.injEq] at H
    obtain ⟨rfl, rfl, rfl⟩ := H
    go_wp2
    go_ret
    exact ⟨_, er, by (with_reducible repeat (first | apply Kd.R_alloc | apply Kd.R_drewN | apply Kd.R_drew)); exact HO_4.out, by repeat (first | (with_reducible first | exact HI0.out | apply IsS80.alloc | apply IsS80.drewN | apply IsS80.drew | apply IsS80.set_1 | apply IsS80.set_2) | exact HI0.out), by repeat (first | (with_reducible first | exact HB.out | apply below_alloc | apply pw_below_drewN | apply below_drew1 | refine below_set ?_ (IsS80.ge HI0.out)) | exact HB.out), kl⟩

/-! ### instr_reader_zero: function 68 -/
def instr_reader_zero.f (k : Nat) (s0_0 : List Int) (s0_1 : Int) (s0_2 : Int) : Option (Int × Int) := (instr_reader_byte.f k s0_0 s0_1 s0_2).bind fun bt372 => ((instr_reader_must.f s0_0 bt372.2.1 bt372.2.2 (bt372.1 == 0) 3).bind fun bt375 => (some (bt375.1, bt375.2)))
theorem instr_reader_zero.mono : ∀ a0 a1 a2 k, LeO (instr_reader_zero.f k a0 a1 a2) (instr_reader_zero.f (k + 1) a0 a1 a2) := by
 intro a0 a1 a2 k
 unfold instr_reader_zero.f
 repeat' first
   | (with_reducible exact instr_reader_byte.mono _ _ _ _)
   | (with_reducible exact LeO.refl _)
   | (with_reducible exact LeO.none _)
   | (with_reducible refine LeO.ite ?_ ?_)
   | (with_reducible refine LeO.bind ?_ (fun _ => ?_))
   | exact instr_reader_byte.mono _ _ _ _
   | exact LeO.none _
   | refine LeO.ite ?_ ?_
   | refine LeO.bind ?_ (fun _ => ?_)
set_option maxHeartbeats 8000000 in
set_option maxRecDepth 100000 in
theorem instr_reader_zero.calls (k : Nat) (g : Nat) (s0_0 : List Int) (s0_1 : Int) (s0_2 : Int) (r1 : Int) (r2 : Int) (w0 w : World) (hI : IsS80 w0 w g s0_0 s0_1 s0_2) (hB : Below w0.heap.size w0 w) (h : instr_reader_zero.f k s0_0 s0_1 s0_2 = some (r1, r2)) :
  Calls Tryd.prog 68 #[.pointer (some ⟨g, 0, none⟩)] w fun e w' => e = .returned (.tuple #[]) ∧ IsS80 w0 w' g s0_0 r1 r2 ∧ Below w0.heap.size w0 w' ∧ KeepBut w w' g none := by
 have HI0 := Aside0.mk hI
 have HK := Aside0.mk (KeepBut.refl w g none)
 have HL := Aside0.mk hB.size
 clear hI
 have HW0 := Aside0.mk hB.size
 have HB := Aside0.mk hB
 clear hB
 have H : ((instr_reader_byte.f k s0_0 s0_1 s0_2).bind fun bt372 => ((instr_reader_must.f s0_0 bt372.2.1 bt372.2.2 (bt372.1 == 0) 3).bind fun bt375 => (some (bt375.1, bt375.2)))) = some (r1, r2) := h
 clear h
 replace H := Option.bind_eq_some_iff.mp H
 obtain ⟨⟨t372, t373, t374⟩, A20, H⟩ := H
 replace H : ((instr_reader_must.f s0_0 t373 t374 (t372 == 0) 3).bind fun bt375 => (some (bt375.1, bt375.2))) = some (r1, r2) := H
 have A2 := Aside0.mk A20
 clear A20
 replace H := Option.bind_eq_some_iff.mp H
 obtain ⟨⟨t375, t376⟩, A30, H⟩ := H
 replace H : (some (t375, t376)) = some (r1, r2) := H
 have A3 := Aside0.mk A30
 clear A30
 simp only [Option.some.injEq, Prod.mk.injEq] at H
 obtain ⟨rfl, rfl⟩ := H
 go_enter Tryd.func68, Tryd.ntmps68
 go_wp2_with (first | ((with_reducible refine gate_callee (f := 63) rfl ?_); refine goesL_ (some 4) rfl rfl Tryd.func63 (by kernel_rfl) rfl #[.pointer (some ⟨g, 0, none⟩)] rfl am ?_; (with_reducible refine (instr_reader_byte.calls k g s0_0 s0_1 s0_2 t372 t373 t374 w0 _ ?side1 ?side2 A2.out).mono ?_); (case side1 => repeat (first | (with_reducible first | exact HI0.out | apply IsS80.alloc | apply IsS80.drewN | apply IsS80.drew | apply IsS80.set_1 | apply IsS80.set_2) | exact HI0.out)); (case side2 => repeat (first | (with_reducible first | exact HB.out | apply below_alloc | apply pw_below_drewN | apply below_drew1 | refine below_set ?_ (IsS80.ge HI0.out)) | exact HB.out)); rintro e w4 ⟨rfl, hi, hb, hk⟩; refine ⟨_, rfl, ?_⟩; have n0_ := Aside0.mk (KeepBut.trans kl hk (.inl rfl)); have n1_ := Aside0.mk (hb); have n2_ := Aside0.mk (hi); clear HK; clear HB; clear HI0; have HK := n0_; have HB := n1_; have HI0 := n2_; clear n0_ n1_ n2_; (try clear hb); (try clear hb2); (try clear hk); (try clear hi)) | ((with_reducible refine gate_callee (f := 64) rfl ?_); refine goesL_ (some 6) rfl rfl Tryd.func64 (by kernel_rfl) rfl #[.pointer (some ⟨g, 0, none⟩), .bool (t372 == 0), .int .i64 3] rfl am ?_; (with_reducible refine (instr_reader_must.calls g s0_0 t373 t374 (t372 == 0) 3 t375 t376 w0 _ ?side1 ?side2 A3.out).mono ?_); (case side1 => repeat (first | (with_reducible first | exact HI0.out | apply IsS80.alloc | apply IsS80.drewN | apply IsS80.drew | apply IsS80.set_1 | apply IsS80.set_2) | exact HI0.out)); (case side2 => repeat (first | (with_reducible first | exact HB.out | apply below_alloc | apply pw_below_drewN | apply below_drew1 | refine below_set ?_ (IsS80.ge HI0.out)) | exact HB.out)); rintro e w5 ⟨rfl, hi, hb, hk⟩; refine ⟨_, rfl, ?_⟩; have n0_ := Aside0.mk (KeepBut.trans kl hk (.inl rfl)); have n1_ := Aside0.mk (hb); have n2_ := Aside0.mk (hi); clear HK; clear HB; clear HI0; have HK := n0_; have HB := n1_; have HI0 := n2_; clear n0_ n1_ n2_; (try clear hb); (try clear hb2); (try clear hk); (try clear hi)))
 first | go_end0 | ((try simp only [Exit.inBlock, Exit.then]); refine bodyPost_ret (results_none rfl _ _ _) rfl ?_)
 exact ⟨er, by repeat (first | (with_reducible first | exact HI0.out | apply IsS80.alloc | apply IsS80.drewN | apply IsS80.drew | apply IsS80.set_1 | apply IsS80.set_2) | exact HI0.out), by repeat (first | (with_reducible first | exact HB.out | apply below_alloc | apply pw_below_drewN | apply below_drew1 | refine below_set ?_ (IsS80.ge HI0.out)) | exact HB.out), kl⟩

/-! ### leb_ReadS: function 88 -/
def leb_ReadS.j0 : Nat → Int → Int → Int → Int → Bool → Option (Int × Int × Int)
 | 0, _, _, _, _, _ => none
 | k + 1, x9, x10, x11, x12, x49 => if x49 = true then (some (0, 0, 3)) else (if x10 < 64 then (if (Go.bits .and .u8 x11 64) = 0 then (some (wrap64 (x9), x12, 0)) else (if 0 ≤ x10 then (some (wrap64 (Go.bits .or .u64 x9 (shl .u64 18446744073709551615 x10)), x12, 0)) else (none))) else (some (wrap64 (x9), x12, 0)))
def leb_ReadS.f (k : Nat) (l0 : List Int) (a1 : Int) (a2 : Int) : Option (Int × Int × Int) := (leb_read.f l0 a1 a2).bind fun bt377 => (if bt377.2.2.2.2 = 0 then (if bt377.2.1 > a2 then (if 0 ≤ (wrap64 ((wrap64 (7 - (wrap64 (bt377.2.1 - a2)))) - 1)) then (if (shr .u8 bt377.2.2.1 (wrap64 ((wrap64 (7 - (wrap64 (bt377.2.1 - a2)))) - 1))) = 0 then (leb_ReadS.j0 k bt377.1 bt377.2.1 bt377.2.2.1 bt377.2.2.2.1 false) else (leb_ReadS.j0 k bt377.1 bt377.2.1 bt377.2.2.1 bt377.2.2.2.1 ((shr .u8 bt377.2.2.1 (wrap64 ((wrap64 (7 - (wrap64 (bt377.2.1 - a2)))) - 1))) != (shr .u8 127 (wrap64 ((wrap64 (7 - (wrap64 (bt377.2.1 - a2)))) - 1)))))) else (none)) else (if bt377.2.1 < 64 then (if (Go.bits .and .u8 bt377.2.2.1 64) = 0 then (some (wrap64 (bt377.1), bt377.2.2.2.1, 0)) else (if 0 ≤ bt377.2.1 then (some (wrap64 (Go.bits .or .u64 bt377.1 (shl .u64 18446744073709551615 bt377.2.1)), bt377.2.2.2.1, 0)) else (none))) else (some (wrap64 (bt377.1), bt377.2.2.2.1, 0)))) else (some (0, 0, bt377.2.2.2.2)))
theorem leb_ReadS.mono_l : ∀ k, (∀ y0 y1 y2 y3 y4, LeO (leb_ReadS.j0 k y0 y1 y2 y3 y4) (leb_ReadS.j0 (k + 1) y0 y1 y2 y3 y4))
 | 0 => fun _ _ _ _ _ r h => by simp [leb_ReadS.j0] at h
 | k + 1 => by
  have ih0 := leb_ReadS.mono_l k
  ·intro y0 y1 y2 y3 y4
   unfold leb_ReadS.j0
   repeat' first
   | (with_reducible exact ih0 _ _ _ _ _)
   | (with_reducible exact LeO.refl _)
   | (with_reducible exact LeO.none _)
   | (with_reducible refine LeO.ite ?_ ?_)
   | (with_reducible refine LeO.bind ?_ (fun _ => ?_))
   | exact ih0 _ _ _ _ _
   | exact LeO.none _
   | refine LeO.ite ?_ ?_
   | refine LeO.bind ?_ (fun _ => ?_)
theorem leb_ReadS.mono : ∀ a0 a1 a2 k, LeO (leb_ReadS.f k a0 a1 a2) (leb_ReadS.f (k + 1) a0 a1 a2) := by
 intro a0 a1 a2 k
 have ih0 := leb_ReadS.mono_l k
 unfold leb_ReadS.f
 repeat' first
   | (with_reducible exact ih0 _ _ _ _ _)
   | (with_reducible exact LeO.refl _)
   | (with_reducible exact LeO.none _)
   | (with_reducible refine LeO.ite ?_ ?_)
   | (with_reducible refine LeO.bind ?_ (fun _ => ?_))
   | exact ih0 _ _ _ _ _
   | exact LeO.none _
   | refine LeO.ite ?_ ?_
   | refine LeO.bind ?_ (fun _ => ?_)
set_option maxHeartbeats 8000000 in
set_option maxRecDepth 100000 in
theorem leb_ReadS.calls (k : Nat) (A0 : Option Addr) (c0 : Nat) (l0 : List Int) (a1 : Int) (a2 : Int) (r1 : Int) (r2 : Int) (r3 : Int) (w : World) (hr0 : Kd.C (Kd.int .u8) w A0 l0.length l0) (hc0 : l0.length ≤ c0) (h : leb_ReadS.f k l0 a1 a2 = some (r1, r2, r3)) :
  Calls Tryd.prog 88 #[.slice A0 l0.length c0, .int .i64 a1, .int .i64 a2] w fun e w' => e = .returned (.tuple #[.int .i64 r1, .int .i64 r2, .int .i64 r3]) ∧ Below w.heap.size w w' := by
 have HR0 := Aside0.mk hr0
 have HC0 := Aside0.mk hc0
 clear hr0 hc0
 have HB := Aside0.mk (Below.refl w.heap.size w)
 have H : ((leb_read.f l0 a1 a2).bind fun bt377 => (if bt377.2.2.2.2 = 0 then (if bt377.2.1 > a2 then (if 0 ≤ (wrap64 ((wrap64 (7 - (wrap64 (bt377.2.1 - a2)))) - 1)) then (if (shr .u8 bt377.2.2.1 (wrap64 ((wrap64 (7 - (wrap64 (bt377.2.1 - a2)))) - 1))) = 0 then (leb_ReadS.j0 k bt377.1 bt377.2.1 bt377.2.2.1 bt377.2.2.2.1 false) else (leb_ReadS.j0 k bt377.1 bt377.2.1 bt377.2.2.1 bt377.2.2.2.1 ((shr .u8 bt377.2.2.1 (wrap64 ((wrap64 (7 - (wrap64 (bt377.2.1 - a2)))) - 1))) != (shr .u8 127 (wrap64 ((wrap64 (7 - (wrap64 (bt377.2.1 - a2)))) - 1)))))) else (none)) else (if bt377.2.1 < 64 then (if (Go.bits .and .u8 bt377.2.2.1 64) = 0 then (some (wrap64 (bt377.1), bt377.2.2.2.1, 0)) else (if 0 ≤ bt377.2.1 then (some (wrap64 (Go.bits .or .u64 bt377.1 (shl .u64 18446744073709551615 bt377.2.1)), bt377.2.2.2.1, 0)) else (none))) else (some (wrap64 (bt377.1), bt377.2.2.2.1, 0)))) else (some (0, 0, bt377.2.2.2.2)))) = some (r1, r2, r3) := h
 clear h
 replace H := Option.bind_eq_some_iff.mp H
 obtain ⟨⟨t377, t378, t379, t380, t381⟩, A40, H⟩ := H
 replace H : (if t381 = 0 then (if t378 > a2 then (if 0 ≤ (wrap64 ((wrap64 (7 - (wrap64 (t378 - a2)))) - 1)) then (if (shr .u8 t379 (wrap64 ((wrap64 (7 - (wrap64 (t378 - a2)))) - 1))) = 0 then (leb_ReadS.j0 k t377 t378 t379 t380 false) else (leb_ReadS.j0 k t377 t378 t379 t380 ((shr .u8 t379 (wrap64 ((wrap64 (7 - (wrap64 (t378 - a2)))) - 1))) != (shr .u8 127 (wrap64 ((wrap64 (7 - (wrap64 (t378 - a2)))) - 1)))))) else (none)) else (if t378 < 64 then (if (Go.bits .and .u8 t379 64) = 0 then (some (wrap64 (t377), t380, 0)) else (if 0 ≤ t378 then (some (wrap64 (Go.bits .or .u64 t377 (shl .u64 18446744073709551615 t378)), t380, 0)) else (none))) else (some (wrap64 (t377), t380, 0)))) else (some (0, 0, t381))) = some (r1, r2, r3) := H
 have A4 := Aside0.mk A40
 clear A40
 by_cases c5 : t381 = 0
 ·rw [if_pos c5] at H
  have c5b0 : (t381 == 0) = true := beq_iff_eq.mpr c5
  have c5b1 : (t381 != 0) = false := bne_eq_false_iff_eq.mpr c5
  clear c5
  by_cases c6 : t378 > a2
  ·rw [if_pos c6] at H
   have c6b0 : decide (a2 < t378) = true := decide_eq_true c6
   clear c6
   obtain ⟨ji7, hji7⟩ : ∃ j_ : Int, (wrap64 ((wrap64 (7 - (wrap64 (t378 - a2)))) - 1)) = j_ := ⟨_, rfl⟩
   replace H : (if 0 ≤ (ji7) then (if (shr .u8 t379 (ji7)) = 0 then (leb_ReadS.j0 k t377 t378 t379 t380 false) else (leb_ReadS.j0 k t377 t378 t379 t380 ((shr .u8 t379 (ji7)) != (shr .u8 127 (ji7))))) else (none)) = some (r1, r2, r3) := by first | (rw [hji7] at H; exact H) | (simp only [hji7] at H ⊢; exact H)
   (try rw [hji7] at A4)
   have hji7w : (IntKind.i64.wrap ((wrap64 (7 - (wrap64 (t378 - a2)))) - 1)) = ji7 := (i64_w _).trans hji7
   by_cases c8 : 0 ≤ (ji7)
   ·rw [if_pos c8] at H
    have c8b0 := eq_true c8
    have c8b1 : decide (0 ≤ (ji7)) = true := decide_eq_true c8
    clear c8
    obtain ⟨ji9, hji9⟩ : ∃ j_ : Int, (shr .u8 t379 (ji7)) = j_ := ⟨_, rfl⟩
    replace H : (if (ji9) = 0 then (leb_ReadS.j0 k t377 t378 t379 t380 false) else (leb_ReadS.j0 k t377 t378 t379 t380 ((ji9) != (shr .u8 127 (ji7))))) = some (r1, r2, r3) := by first | (rw [hji9] at H; exact H) | (simp only [hji9] at H ⊢; exact H)
    (try rw [hji9] at A4)
    have hji9_ : (t379 / 2 ^ min (ji7).toNat 8) = ji9 := hji9
    have hji9z : (ji7) ≤ 8 → (t379 / 2 ^ (ji7).toNat) = ji9 := shr_small hji9
    have HC10 := Aside0.mk H
    clear H
    go_enter Tryd.func88, Tryd.ntmps88
    go_upto_region 6 with (first | ((with_reducible refine gate_callee (f := 100) rfl ?_); refine goesL_ (some 19) rfl rfl Tryd.func100 (by kernel_rfl) rfl #[.slice A0 l0.length c0, .int .i64 a1, .int .i64 a2] rfl am ?_; (with_reducible refine (leb_read.calls _ _ l0 a1 a2 t377 t378 t379 t380 t381 _ ?side1 ?side2 A4.out).mono ?_); (case side1 => repeat (first | exact HR0.out | (with_reducible refine Kd.C_alloc ?_ _) | (with_reducible refine Kd.C_drewN ?_ _) | (with_reducible refine Kd.C_drew ?_))); (case side2 => exact HC0.out); rintro e w11 ⟨rfl, hb⟩; refine ⟨_, rfl, ?_⟩; have n0_ := Aside0.mk (below_step bl hb); clear HB; have HB := n0_; clear n0_; (try clear hb); (try clear hb2); (try clear hk); (try clear hi)))
    (try simp only [Act.put, List.setIfInBounds_toArray, List.set_cons_zero, List.set_cons_succ])
    go_cut [49] (fun v49 wc => ∃ (kq : Nat) (x49_9 : Bool), v49 = .bool x49_9 ∧ Aside0 (leb_ReadS.j0 kq t377 t378 t379 t380 x49_9 = some (r1, r2, r3)) ∧ Aside0 (kq ≤ k) ∧ Aside0 (Below w.heap.size w wc))
    case first =>
     have H := HC10.out
     clear HC10
     by_cases c12 : (ji9) = 0
     ·rw [if_pos c12] at H
      have c12b0 : ((ji9) == 0) = true := beq_iff_eq.mpr c12
      have c12b1 : ((ji9) != 0) = false := bne_eq_false_iff_eq.mpr c12
      clear c12
      (first | rw [c12b0] | (simp only [i64_w, i32_w]; rw [c12b0]) | skip)
      have H' := Aside0.mk H
      clear H
      go_wp2
      go_meet
      case rel => exact ⟨_, (false), rs, H', ⟨by first | omega | exact Nat.le_refl _⟩, ⟨bl⟩⟩
     ·rw [if_neg c12] at H
      have c12b0 : ((ji9) == 0) = false := beq_eq_false_iff_ne.mpr c12
      have c12b1 : ((ji9) != 0) = true := bne_iff_ne.mpr c12
      (first | rw [c12b0] | (simp only [i64_w, i32_w]; rw [c12b0]) | skip)
      have c13b0 := eq_true (of_decide_eq_true asm : 0 ≤ (ji7))
      obtain ⟨ji14, hji14⟩ : ∃ j_ : Int, (shr .u8 127 (ji7)) = j_ := ⟨_, rfl⟩
      replace H : (leb_ReadS.j0 k t377 t378 t379 t380 ((ji9) != (ji14))) = some (r1, r2, r3) := by first | (rw [hji14] at H; exact H) | (simp only [hji14] at H ⊢; exact H)
      have hji14_ : (127 / 2 ^ min (ji7).toNat 8) = ji14 := hji14
      have hji14z : (ji7) ≤ 8 → (127 / 2 ^ (ji7).toNat) = ji14 := shr_small hji14
      have H' := Aside0.mk H
      clear H
      go_wp2
      go_meet
      case rel => exact ⟨_, (((ji9) != (ji14))), (by first | rfl | (simp; done) | (simp only [← hji9, ← hji14] <;> (first | rfl | simp)) | (simp [*]; done)), H', ⟨by first | omega | exact Nat.le_refl _⟩, ⟨bl⟩⟩
    case rest =>
     clear HC10
     (try clear c1); (try clear p2); (try clear c5); (try clear c5b0); (try clear c5b1); (try clear c6); (try clear c6b0); (try clear p6); (try clear c8); (try clear c8b0); (try clear c8b1); (try clear c10); (try clear c12); (try clear c12b0); (try clear c12b1); (try clear c13); (try clear c13b0)
     obtain ⟨kq, x49_9, rfl, HA, HJ9, HB⟩ := hcut
     cases kq with
     | zero => exact absurd HA.out (by simp [leb_ReadS.j0])
     | succ kj9 =>
      have H := HA.out
      clear HA
      simp only [leb_ReadS.j0] at H
      by_cases c15 : x49_9 = true
      ·subst c15
       have H1 : (some (0, 0, 3)) = some (r1, r2, r3) := by rw [if_pos rfl] at H; exact H
       clear H
       have H := H1
       clear H1
       simp only [Option.some.injEq, Prod.mk.injEq] at H
       obtain ⟨rfl, rfl, rfl⟩ := H
       go_wp2
       go_ret3
       exact ⟨by first | rfl | (simp [errW_none, errW_some] <;> rfl) | (simp only [← hji7, ← hji9]; first | rfl | (simp [errW_none, errW_some] <;> rfl)) | (simp [*, errW_none, errW_some] <;> rfl), bl⟩
      ·replace c15 := Bool.eq_false_iff.mpr c15
       subst c15
       have H1 : (if t378 < 64 then (if (Go.bits .and .u8 t379 64) = 0 then (some (wrap64 (t377), t380, 0)) else (if 0 ≤ t378 then (some (wrap64 (Go.bits .or .u64 t377 (shl .u64 18446744073709551615 t378)), t380, 0)) else (none))) else (some (wrap64 (t377), t380, 0))) = some (r1, r2, r3) := by rw [if_neg (show ¬ (false = true) by decide)] at H; exact H
       clear H
       have H := H1
       clear H1
       by_cases c16 : t378 < 64
       ·rw [if_pos c16] at H
        have c16b0 : decide (t378 < 64) = true := decide_eq_true c16
        clear c16
        by_cases c17 : (Go.bits .and .u8 t379 64) = 0
        ·rw [if_pos c17] at H
         have c17b0 : ((Go.bits .and .u8 t379 64) == 0) = true := beq_iff_eq.mpr c17
         have c17b1 : ((Go.bits .and .u8 t379 64) != 0) = false := bne_eq_false_iff_eq.mpr c17
         clear c17
         simp only [Option.some.injEq, Prod.mk.injEq] at H
         obtain ⟨rfl, rfl, rfl⟩ := H
         go_wp2
         go_ret3
         exact ⟨by first | rfl | (simp [errW_none, errW_some] <;> rfl) | (simp only [← hji7, ← hji9]; first | rfl | (simp [errW_none, errW_some] <;> rfl)) | (simp [*, errW_none, errW_some] <;> rfl), bl⟩
        ·rw [if_neg c17] at H
         have c17b0 : ((Go.bits .and .u8 t379 64) == 0) = false := beq_eq_false_iff_ne.mpr c17
         have c17b1 : ((Go.bits .and .u8 t379 64) != 0) = true := bne_iff_ne.mpr c17
         by_cases c18 : 0 ≤ t378
         ·rw [if_pos c18] at H
          have c18b0 := eq_true c18
          have c18b1 : decide (0 ≤ t378) = true := decide_eq_true c18
          clear c18
          obtain ⟨ji19, hji19⟩ : ∃ j_ : Int, (shl .u64 18446744073709551615 t378) = j_ := ⟨_, rfl⟩
          replace H : (some (wrap64 (Go.bits .or .u64 t377 (ji19)), t380, 0)) = some (r1, r2, r3) := by first | (rw [hji19] at H; exact H) | (simp only [hji19] at H ⊢; exact H)
          have hji19_ : (IntKind.u64.wrap (18446744073709551615 * 2 ^ min t378.toNat 64)) = ji19 := hji19
          have hji19z : t378 ≤ 64 → (IntKind.u64.wrap (18446744073709551615 * 2 ^ t378.toNat)) = ji19 := shl_small hji19
          simp only [Option.some.injEq, Prod.mk.injEq] at H
          obtain ⟨rfl, rfl, rfl⟩ := H
          go_wp2
          go_ret3
          exact ⟨by first | rfl | (simp [errW_none, errW_some] <;> rfl) | (simp only [← hji7, ← hji9, ← hji19]; first | rfl | (simp [errW_none, errW_some] <;> rfl)) | (simp [*, errW_none, errW_some] <;> rfl), bl⟩
         ·rw [if_neg c18] at H
          exact absurd H (by simp)
       ·rw [if_neg c16] at H
        have c16b0 : decide (t378 < 64) = false := decide_eq_false c16
        clear c16
        simp only [Option.some.injEq, Prod.mk.injEq] at H
        obtain ⟨rfl, rfl, rfl⟩ := H
        go_wp2
        go_ret3
        exact ⟨by first | rfl | (simp [errW_none, errW_some] <;> rfl) | (simp only [← hji7, ← hji9]; first | rfl | (simp [errW_none, errW_some] <;> rfl)) | (simp [*, errW_none, errW_some] <;> rfl), bl⟩
   ·rw [if_neg c8] at H
    exact absurd H (by simp)
  ·rw [if_neg c6] at H
   have c6b0 : decide (a2 < t378) = false := decide_eq_false c6
   clear c6
   by_cases c20 : t378 < 64
   ·rw [if_pos c20] at H
    have c20b0 : decide (t378 < 64) = true := decide_eq_true c20
    clear c20
    by_cases c21 : (Go.bits .and .u8 t379 64) = 0
    ·rw [if_pos c21] at H
     have c21b0 : ((Go.bits .and .u8 t379 64) == 0) = true := beq_iff_eq.mpr c21
     have c21b1 : ((Go.bits .and .u8 t379 64) != 0) = false := bne_eq_false_iff_eq.mpr c21
     clear c21
     simp only [Option.some.injEq, Prod.mk.injEq] at H
     obtain ⟨rfl, rfl, rfl⟩ := H
     go_enter Tryd.func88, Tryd.ntmps88
     go_wp2_with (first | ((with_reducible refine gate_callee (f := 100) rfl ?_); refine goesL_ (some 19) rfl rfl Tryd.func100 (by kernel_rfl) rfl #[.slice A0 l0.length c0, .int .i64 a1, .int .i64 a2] rfl am ?_; (with_reducible refine (leb_read.calls _ _ l0 a1 a2 t377 t378 t379 t380 t381 _ ?side1 ?side2 A4.out).mono ?_); (case side1 => repeat (first | exact HR0.out | (with_reducible refine Kd.C_alloc ?_ _) | (with_reducible refine Kd.C_drewN ?_ _) | (with_reducible refine Kd.C_drew ?_))); (case side2 => exact HC0.out); rintro e w22 ⟨rfl, hb⟩; refine ⟨_, rfl, ?_⟩; have n0_ := Aside0.mk (below_step bl hb); clear HB; have HB := n0_; clear n0_; (try clear hb); (try clear hb2); (try clear hk); (try clear hi)))
     go_ret3
     exact ⟨er, bl⟩
    ·rw [if_neg c21] at H
     have c21b0 : ((Go.bits .and .u8 t379 64) == 0) = false := beq_eq_false_iff_ne.mpr c21
     have c21b1 : ((Go.bits .and .u8 t379 64) != 0) = true := bne_iff_ne.mpr c21
     by_cases c23 : 0 ≤ t378
     ·rw [if_pos c23] at H
      have c23b0 := eq_true c23
      have c23b1 : decide (0 ≤ t378) = true := decide_eq_true c23
      clear c23
      obtain ⟨ji24, hji24⟩ : ∃ j_ : Int, (shl .u64 18446744073709551615 t378) = j_ := ⟨_, rfl⟩
      replace H : (some (wrap64 (Go.bits .or .u64 t377 (ji24)), t380, 0)) = some (r1, r2, r3) := by first | (rw [hji24] at H; exact H) | (simp only [hji24] at H ⊢; exact H)
      (try rw [hji24] at A4)
      have hji24_ : (IntKind.u64.wrap (18446744073709551615 * 2 ^ min t378.toNat 64)) = ji24 := hji24
      have hji24z : t378 ≤ 64 → (IntKind.u64.wrap (18446744073709551615 * 2 ^ t378.toNat)) = ji24 := shl_small hji24
      simp only [Option.some.injEq, Prod.mk.injEq] at H
      obtain ⟨rfl, rfl, rfl⟩ := H
      go_enter Tryd.func88, Tryd.ntmps88
      go_wp2_with (first | ((with_reducible refine gate_callee (f := 100) rfl ?_); refine goesL_ (some 19) rfl rfl Tryd.func100 (by kernel_rfl) rfl #[.slice A0 l0.length c0, .int .i64 a1, .int .i64 a2] rfl am ?_; (with_reducible refine (leb_read.calls _ _ l0 a1 a2 t377 t378 t379 t380 t381 _ ?side1 ?side2 A4.out).mono ?_); (case side1 => repeat (first | exact HR0.out | (with_reducible refine Kd.C_alloc ?_ _) | (with_reducible refine Kd.C_drewN ?_ _) | (with_reducible refine Kd.C_drew ?_))); (case side2 => exact HC0.out); rintro e w25 ⟨rfl, hb⟩; refine ⟨_, rfl, ?_⟩; have n0_ := Aside0.mk (below_step bl hb); clear HB; have HB := n0_; clear n0_; (try clear hb); (try clear hb2); (try clear hk); (try clear hi)))
      go_ret3
      exact ⟨by first | rfl | (simp [errW_none, errW_some] <;> rfl) | (simp only [← hji24]; first | rfl | (simp [errW_none, errW_some] <;> rfl)) | (simp [*, errW_none, errW_some] <;> rfl), bl⟩
     ·rw [if_neg c23] at H
      exact absurd H (by simp)
   ·rw [if_neg c20] at H
    have c20b0 : decide (t378 < 64) = false := decide_eq_false c20
    clear c20
    simp only [Option.some.injEq, Prod.mk.injEq] at H
    obtain ⟨rfl, rfl, rfl⟩ := H
    go_enter Tryd.func88, Tryd.ntmps88
    go_wp2_with (first | ((with_reducible refine gate_callee (f := 100) rfl ?_); refine goesL_ (some 19) rfl rfl Tryd.func100 (by kernel_rfl) rfl #[.slice A0 l0.length c0, .int .i64 a1, .int .i64 a2] rfl am ?_; (with_reducible refine (leb_read.calls _ _ l0 a1 a2 t377 t378 t379 t380 t381 _ ?side1 ?side2 A4.out).mono ?_); (case side1 => repeat (first | exact HR0.out | (with_reducible refine Kd.C_alloc ?_ _) | (with_reducible refine Kd.C_drewN ?_ _) | (with_reducible refine Kd.C_drew ?_))); (case side2 => exact HC0.out); rintro e w26 ⟨rfl, hb⟩; refine ⟨_, rfl, ?_⟩; have n0_ := Aside0.mk (below_step bl hb); clear HB; have HB := n0_; clear n0_; (try clear hb); (try clear hb2); (try clear hk); (try clear hi)))
    go_ret3
    exact ⟨er, bl⟩
 ·rw [if_neg c5] at H
  have c5b0 : (t381 == 0) = false := beq_eq_false_iff_ne.mpr c5
  have c5b1 : (t381 != 0) = true := bne_iff_ne.mpr c5
  simp only [Option.some.injEq, Prod.mk.injEq] at H
  obtain ⟨rfl, rfl, rfl⟩ := H
  go_enter Tryd.func88, Tryd.ntmps88
  go_wp2_with (first | ((with_reducible refine gate_callee (f := 100) rfl ?_); refine goesL_ (some 19) rfl rfl Tryd.func100 (by kernel_rfl) rfl #[.slice A0 l0.length c0, .int .i64 a1, .int .i64 a2] rfl am ?_; (with_reducible refine (leb_read.calls _ _ l0 a1 a2 t377 t378 t379 t380 t381 _ ?side1 ?side2 A4.out).mono ?_); (case side1 => repeat (first | exact HR0.out | (with_reducible refine Kd.C_alloc ?_ _) | (with_reducible refine Kd.C_drewN ?_ _) | (with_reducible refine Kd.C_drew ?_))); (case side2 => exact HC0.out); rintro e w27 ⟨rfl, hb⟩; refine ⟨_, rfl, ?_⟩; have n0_ := Aside0.mk (below_step bl hb); clear HB; have HB := n0_; clear n0_; (try clear hb); (try clear hb2); (try clear hk); (try clear hi)))
  go_ret3
  exact ⟨er, bl⟩

/-! ### instr_reader_s: function 69 -/
def instr_reader_s.f (k : Nat) (s0_0 : List Int) (s0_1 : Int) (s0_2 : Int) (a1 : Int) : Option (Int × Int × Int) := if s0_2 = 0 then ((leb_ReadS.f k s0_0 s0_1 a1).bind fun bt382 => (some (bt382.1, bt382.2.1, bt382.2.2))) else (some (0, s0_1, s0_2))
theorem instr_reader_s.mono : ∀ a0 a1 a2 a3 k, LeO (instr_reader_s.f k a0 a1 a2 a3) (instr_reader_s.f (k + 1) a0 a1 a2 a3) := by
 intro a0 a1 a2 a3 k
 unfold instr_reader_s.f
 repeat' first
   | (with_reducible exact leb_ReadS.mono _ _ _ _)
   | (with_reducible exact LeO.refl _)
   | (with_reducible exact LeO.none _)
   | (with_reducible refine LeO.ite ?_ ?_)
   | (with_reducible refine LeO.bind ?_ (fun _ => ?_))
   | exact leb_ReadS.mono _ _ _ _
   | exact LeO.none _
   | refine LeO.ite ?_ ?_
   | refine LeO.bind ?_ (fun _ => ?_)
def instr_reader_s.T3 : Bool × List (List Nat × List Nat) := (true, [([], []), ([0], [0]), ([1], [1]), ([2], [2]), ([], []), ([4], [4]), ([5], [5]), ([6], [6]), ([], []), ([3, 7, 8], [3, 7, 8]), ([9], [9]), ([10], [10]), ([10], [10]), ([10], [10]), ([11, 9, 0, 1, 2, 3, 4, 5, 6, 7, 8, 9, 10, 11], [11]), ([12, 14, 0, 1, 2, 3, 4, 5, 6, 7, 8, 9, 10, 11, 12, 14], [12]), ([13, 15, 0, 1, 2, 3, 4, 5, 6, 7, 8, 9, 10, 11, 12, 13, 14, 15], [13])])
def instr_reader_s.B3 : List Nat := [0, 1, 3, 7, 0, 16, 48, 112, 0, 511, 1023, 2047, 2047, 2047, 4095, 24575, 65535]
theorem instr_reader_s.tab3 : rtab .any (opsOf Tryd.f69 3) = instr_reader_s.T3 := by kernel_rfl
theorem instr_reader_s.bits3 : waitsOk instr_reader_s.T3.2 instr_reader_s.B3 = true := by kernel_rfl
set_option maxHeartbeats 8000000 in
set_option maxRecDepth 100000 in
theorem instr_reader_s.calls (k : Nat) (g : Nat) (s0_0 : List Int) (s0_1 : Int) (s0_2 : Int) (a1 : Int) (r1 : Int) (r2 : Int) (r3 : Int) (w0 w : World) (hI : IsS80 w0 w g s0_0 s0_1 s0_2) (hB : Below w0.heap.size w0 w) (h : instr_reader_s.f k s0_0 s0_1 s0_2 a1 = some (r1, r2, r3)) :
  Calls Tryd.prog 69 #[.pointer (some ⟨g, 0, none⟩), .int .i64 a1] w fun e w' => e = .returned (.int .i64 r1) ∧ IsS80 w0 w' g s0_0 r2 r3 ∧ Below w0.heap.size w0 w' ∧ KeepBut w w' g none := by
 have HI0 := Aside0.mk hI
 have HK := Aside0.mk (KeepBut.refl w g none)
 have HL := Aside0.mk hB.size
 clear hI
 have HW0 := Aside0.mk hB.size
 have HB := Aside0.mk hB
 clear hB
 have H : (if s0_2 = 0 then ((leb_ReadS.f k s0_0 s0_1 a1).bind fun bt382 => (some (bt382.1, bt382.2.1, bt382.2.2))) else (some (0, s0_1, s0_2))) = some (r1, r2, r3) := h
 clear h
 by_cases c3 : s0_2 = 0
 ·rw [if_pos c3] at H
  have c3b0 : (s0_2 == 0) = true := beq_iff_eq.mpr c3
  have c3b1 : (s0_2 != 0) = false := bne_eq_false_iff_eq.mpr c3
  clear c3
  replace H := Option.bind_eq_some_iff.mp H
  obtain ⟨⟨t382, t383, t384⟩, A40, H⟩ := H
  replace H : (some (t382, t383, t384)) = some (r1, r2, r3) := H
  have A4 := Aside0.mk A40
  clear A40
  simp only [Option.some.injEq, Prod.mk.injEq] at H
  obtain ⟨rfl, rfl, rfl⟩ := H
  obtain ⟨ASz5_0, cSz5_0, HGz5, hgz5, HSz5_0, HQz5_0⟩ := HI0.out
  have hcz5_0 := cellS80_0 HGz5
  have hcz5_1 := cellS80_1 HGz5
  have hcz5_2 := cellS80_2 HGz5
  have hfz5_1 := blk_frozen HGz5 1
  have hfz5_2 := blk_frozen HGz5 2
  clear HGz5 hgz5
  go_enter Tryd.func69, Tryd.ntmps69
  try go_wp2
  have n0_ := Aside0.mk (IsS80.drew HI0.out)
  have n1_ := Aside0.mk (keep_drew HK.out)
  have n2_ := Aside0.mk (below_drew1 HB.out)
  clear HI0
  clear HK
  clear HB
  have HI0 := n0_
  have HK := n1_
  have HB := n2_
  clear n0_ n1_ n2_
  obtain ⟨ASz7_0, cSz7_0, HGz7, hgz7, HSz7_0, HQz7_0⟩ := HI0.out
  have hcz7_0 := cellS80_0 HGz7
  have hcz7_1 := cellS80_1 HGz7
  have hcz7_2 := cellS80_2 HGz7
  have hfz7_1 := blk_frozen HGz7 1
  have hfz7_2 := blk_frozen HGz7 2
  clear HGz7 hgz7
  refine start_ (n := 17) (S := fun w' => w'.cell? ⟨g, 0, none⟩ = some (.slice ASz7_0 s0_0.length cSz7_0) ∧ w'.cell? ⟨g, 1, none⟩ = some (.int .i64 s0_1) ∧ w'.cell? ⟨g, 2, none⟩ = some (.int .i64 s0_2)) (ds := []) #[false, false, false, false, false, false, false, false, false, false, false, false, false, false, false, false, false] (by kernel_rfl) rfl rfl ⟨hcz7_0, hcz7_1, hcz7_2⟩ (fun hHeld => ?_); refine with_tabW instr_reader_s.tab3 instr_reader_s.bits3 (fun HT_ HW_ => ?_)
  generalize w.drew = w6 at hcz7_0 hcz7_1 hcz7_2 hfz7_1 hfz7_2 HI0 HK HB hHeld ⊢
  refine pure_ (i := 0) (N := some 14) (v := ?_) (a' := ?_) #[true, false, false, false, false, false, false, false, false, false, false, false, false, false, false, false, false] rfl rfl (any_of HT_.out (by kernel_rfl)) (fun _ _ _ h => h) (Or.inl ⟨by rfl, ?_⟩) ?_ ?_
  rotate_left
  ·intro w'
   go_simp
   with_reducible rfl
  rotate_left
  ·simp only [Act.put, List.setIfInBounds_toArray, List.set_cons_zero, List.set_cons_succ, i64_w, i32_w]
   rfl
  refine pure_ (i := 1) (N := some 15) (v := ?_) (a' := ?_) #[true, true, false, false, false, false, false, false, false, false, false, false, false, false, false, false, false] rfl rfl (any_of HT_.out (by kernel_rfl)) (fun _ _ _ h => h) (Or.inl ⟨by rfl, ?_⟩) ?_ ?_
  rotate_left
  ·intro w'
   go_simp
   with_reducible rfl
  rotate_left
  ·simp only [Act.put, List.setIfInBounds_toArray, List.set_cons_zero, List.set_cons_succ, i64_w, i32_w]
   rfl
  refine pure_ (i := 2) (N := some 16) (v := ?_) (a' := ?_) #[true, true, true, false, false, false, false, false, false, false, false, false, false, false, false, false, false] rfl rfl (any_of HT_.out (by kernel_rfl)) (fun _ _ _ h => h) (Or.inl ⟨by rfl, ?_⟩) ?_ ?_
  rotate_left
  ·intro w'
   go_simp
   with_reducible rfl
  rotate_left
  ·simp only [Act.put, List.setIfInBounds_toArray, List.set_cons_zero, List.set_cons_succ, i64_w, i32_w]
   rfl
  refine pure_ (i := 4) (N := some 18) (v := ?_) (a' := ?_) #[true, true, true, false, true, false, false, false, false, false, false, false, false, false, false, false, false] rfl rfl (any_of HT_.out (by kernel_rfl)) (fun _ _ _ h => h) (Or.inl ⟨by rfl, ?_⟩) ?_ ?_
  rotate_left
  ·intro w'
   go_simp
   with_reducible rfl
  rotate_left
  ·simp only [Act.put, List.setIfInBounds_toArray, List.set_cons_zero, List.set_cons_succ, i64_w, i32_w]
   rfl
  refine pure_ (i := 5) (N := some 19) (v := ?_) (a' := ?_) #[true, true, true, false, true, true, false, false, false, false, false, false, false, false, false, false, false] rfl rfl (any_of HT_.out (by kernel_rfl)) (fun _ _ _ h => h) (Or.inl ⟨by rfl, ?_⟩) ?_ ?_
  rotate_left
  ·intro w'
   go_simp
   with_reducible rfl
  rotate_left
  ·simp only [Act.put, List.setIfInBounds_toArray, List.set_cons_zero, List.set_cons_succ, i64_w, i32_w]
   rfl
  refine pure_ (i := 6) (N := some 20) (v := ?_) (a' := ?_) #[true, true, true, false, true, true, true, false, false, false, false, false, false, false, false, false, false] rfl rfl (any_of HT_.out (by kernel_rfl)) (fun _ _ _ h => h) (Or.inl ⟨by rfl, ?_⟩) ?_ ?_
  rotate_left
  ·intro w'
   go_simp
   with_reducible rfl
  rotate_left
  ·simp only [Act.put, List.setIfInBounds_toArray, List.set_cons_zero, List.set_cons_succ, i64_w, i32_w]
   rfl
  refine pure_ (i := 8) (N := some 22) (v := ?_) (a' := ?_) #[true, true, true, false, true, true, true, false, true, false, false, false, false, false, false, false, false] rfl rfl (any_of HT_.out (by kernel_rfl)) (fun _ _ _ h => h) (Or.inl ⟨by rfl, ?_⟩) ?_ ?_
  rotate_left
  ·intro w'
   go_simp
   with_reducible rfl
  rotate_left
  ·simp only [Act.put, List.setIfInBounds_toArray, List.set_cons_zero, List.set_cons_succ, i64_w, i32_w]
   rfl
  refine take_ (i := 3) (N := some 17) (v := ?_) (a' := ?_) #[true, true, true, true, true, true, true, false, true, false, false, false, false, false, false, false, false] rfl rfl (take_ofW HT_.out HW_.out (by kernel_rfl)) (fun _ _ _ h => h) (Or.inl ⟨by rfl, ?_⟩) hHeld ?_ ?_
  rotate_left
  ·rintro w' ⟨s0, s1, s2⟩
   go_simp
   with_reducible rfl
  rotate_left
  ·simp only [Act.put, List.setIfInBounds_toArray, List.set_cons_zero, List.set_cons_succ, i64_w, i32_w]
   rfl
  refine take_ (i := 7) (N := some 21) (v := ?_) (a' := ?_) #[true, true, true, true, true, true, true, true, true, false, false, false, false, false, false, false, false] rfl rfl (take_ofW HT_.out HW_.out (by kernel_rfl)) (fun _ _ _ h => h) (Or.inl ⟨by rfl, ?_⟩) hHeld ?_ ?_
  rotate_left
  ·rintro w' ⟨s0, s1, s2⟩
   go_simp
   with_reducible rfl
  rotate_left
  ·simp only [Act.put, List.setIfInBounds_toArray, List.set_cons_zero, List.set_cons_succ, i64_w, i32_w]
   rfl
  refine one_ (i := 9) (N := some 23) #[true, true, true, true, true, true, true, true, true, true, false, false, false, false, false, false, false] rfl rfl (one_of HT_.out (by kernel_rfl)) (by decide) (fun K hK => ?_)
  refine goes_ Tryd.func88 (by kernel_rfl) rfl #[.slice ASz7_0 s0_0.length cSz7_0, .int .i64 s0_1, .int .i64 a1] (by rfl) rfl rfl am ?_
  with_reducible refine (leb_ReadS.calls k _ _ s0_0 s0_1 a1 t382 t383 t384 _ ?side1 ?side2 A4.out).mono ?_
  (case side1 => exact Kd.C_below HSz7_0 (blg (IsS80.ge HI0.out)))
  (case side2 => exact HQz7_0)
  rintro e w8 ⟨rfl, hb⟩
  have HS0_ := (hb.cell (World.block_lt_of_cell? _ _ (hHeld.1))).trans (hHeld.1)
  have HS1_ := (hb.cell (World.block_lt_of_cell? _ _ (hHeld.2.1))).trans (hHeld.2.1)
  have HS2_ := (hb.cell (World.block_lt_of_cell? _ _ (hHeld.2.2))).trans (hHeld.2.2)
  refine ⟨_, rfl, ?_⟩
  have n0_ := Aside0.mk (IsS80.below (by repeat (first | (with_reducible first | exact HI0.out | apply IsS80.alloc | apply IsS80.drewN | apply IsS80.drew | apply IsS80.set_1 | apply IsS80.set_2) | exact HI0.out)) hb)
  have n1_ := Aside0.mk (KeepBut.trans kl (KeepBut.of_below hb g none) (.inl rfl))
  have n2_ := Aside0.mk (below_step (blg (IsS80.ge HI0.out)) hb)
  clear HI0
  clear HK
  clear HB
  have HI0 := n0_
  have HK := n1_
  have HB := n2_
  clear n0_ n1_ n2_
  (try clear hb)
  (try clear hb2)
  (try clear hk)
  (try clear hi)
  refine hK.out _ _ ⟨HS0_, HS1_, HS2_⟩ (fun hHeld => ?_)
  clear hK K
  refine norm_ (a' := ?_) ?_ ?_
  rotate_left
  ·show Act.put _ (some 23) _ = _
   simp only [Act.put, List.setIfInBounds_toArray, List.set_cons_zero, List.set_cons_succ, i64_w, i32_w]
   rfl
  refine pure_ (i := 10) (N := some 13) (v := ?_) (a' := ?_) #[true, true, true, true, true, true, true, true, true, true, true, false, false, false, false, false, false] rfl rfl (any_of HT_.out (by kernel_rfl)) (fun _ _ _ h => h) (Or.inl ⟨by rfl, ?_⟩) ?_ ?_
  rotate_left
  ·intro w'
   go_simp
   with_reducible rfl
  rotate_left
  ·simp only [Act.put, List.setIfInBounds_toArray, List.set_cons_zero, List.set_cons_succ, i64_w, i32_w]
   rfl
  refine pure_ (i := 11) (N := some 24) (v := ?_) (a' := ?_) #[true, true, true, true, true, true, true, true, true, true, true, true, false, false, false, false, false] rfl rfl (any_of HT_.out (by kernel_rfl)) (fun _ _ _ h => h) (Or.inl ⟨by rfl, ?_⟩) ?_ ?_
  rotate_left
  ·intro w'
   go_simp
   with_reducible rfl
  rotate_left
  ·simp only [Act.put, List.setIfInBounds_toArray, List.set_cons_zero, List.set_cons_succ, i64_w, i32_w]
   rfl
  refine pure_ (i := 12) (N := some 25) (v := ?_) (a' := ?_) #[true, true, true, true, true, true, true, true, true, true, true, true, true, false, false, false, false] rfl rfl (any_of HT_.out (by kernel_rfl)) (fun _ _ _ h => h) (Or.inl ⟨by rfl, ?_⟩) ?_ ?_
  rotate_left
  ·intro w'
   go_simp
   with_reducible rfl
  rotate_left
  ·simp only [Act.put, List.setIfInBounds_toArray, List.set_cons_zero, List.set_cons_succ, i64_w, i32_w]
   rfl
  refine pure_ (i := 13) (N := some 26) (v := ?_) (a' := ?_) #[true, true, true, true, true, true, true, true, true, true, true, true, true, true, false, false, false] rfl rfl (any_of HT_.out (by kernel_rfl)) (fun _ _ _ h => h) (Or.inl ⟨by rfl, ?_⟩) ?_ ?_
  rotate_left
  ·intro w'
   go_simp
   with_reducible rfl
  rotate_left
  ·simp only [Act.put, List.setIfInBounds_toArray, List.set_cons_zero, List.set_cons_succ, i64_w, i32_w]
   rfl
  refine pure_ (i := 14) (N := some 5) (v := ?_) (a' := ?_) #[true, true, true, true, true, true, true, true, true, true, true, true, true, true, true, false, false] rfl rfl (any_of HT_.out (by kernel_rfl)) (fun _ _ _ h => h) (Or.inl ⟨by rfl, ?_⟩) ?_ ?_
  rotate_left
  ·intro w'
   go_simp
   with_reducible rfl
  rotate_left
  ·simp only [Act.put, List.setIfInBounds_toArray, List.set_cons_zero, List.set_cons_succ, i64_w, i32_w]
   rfl
  refine pure_ (i := 15) (N := some 6) (v := ?_) (a' := ?_) #[true, true, true, true, true, true, true, true, true, true, true, true, true, true, true, true, false] rfl rfl (any_of HT_.out (by kernel_rfl)) (fun _ _ _ h => h) (Or.inl ⟨by rfl, ?_⟩) ?_ ?_
  rotate_left
  ·intro w'
   go_simp
   with_reducible rfl
  rotate_left
  ·simp only [Act.put, List.setIfInBounds_toArray, List.set_cons_zero, List.set_cons_succ, i64_w, i32_w]
   rfl
  refine pure_ (i := 16) (N := some 7) (v := ?_) (a' := ?_) #[true, true, true, true, true, true, true, true, true, true, true, true, true, true, true, true, true] rfl rfl (any_of HT_.out (by kernel_rfl)) (fun _ _ _ h => h) (Or.inl ⟨by rfl, ?_⟩) ?_ ?_
  rotate_left
  ·intro w'
   go_simp
   with_reducible rfl
  rotate_left
  ·simp only [Act.put, List.setIfInBounds_toArray, List.set_cons_zero, List.set_cons_succ, i64_w, i32_w]
   rfl
  refine done_ (done_of HT_.out (by kernel_rfl)) ?_
  obtain ⟨ASz9_0, cSz9_0, HGz9, hgz9, HSz9_0, HQz9_0⟩ := HI0.out
  have hcz9_0 := cellS80_0 HGz9
  have hcz9_1 := cellS80_1 HGz9
  have hcz9_2 := cellS80_2 HGz9
  have hfz9_1 := blk_frozen HGz9 1
  have hfz9_2 := blk_frozen HGz9 2
  clear HGz9 hgz9
  try go_wp2
  go_ret
  exact ⟨er, by repeat (first | (with_reducible first | exact HI0.out | apply IsS80.alloc | apply IsS80.drewN | apply IsS80.drew | apply IsS80.set_1 | apply IsS80.set_2) | exact HI0.out), by repeat (first | (with_reducible first | exact HB.out | apply below_alloc | apply pw_below_drewN | apply below_drew1 | refine below_set ?_ (IsS80.ge HI0.out)) | exact HB.out), kl⟩
 ·rw [if_neg c3] at H
  have c3b0 : (s0_2 == 0) = false := beq_eq_false_iff_ne.mpr c3
  have c3b1 : (s0_2 != 0) = true := bne_iff_ne.mpr c3
  simp only [Option.some.injEq, Prod.mk.injEq] at H
  obtain ⟨rfl, rfl, rfl⟩ := H
  obtain ⟨ASz10_0, cSz10_0, HGz10, hgz10, HSz10_0, HQz10_0⟩ := HI0.out
  have hcz10_0 := cellS80_0 HGz10
  have hcz10_1 := cellS80_1 HGz10
  have hcz10_2 := cellS80_2 HGz10
  have hfz10_1 := blk_frozen HGz10 1
  have hfz10_2 := blk_frozen HGz10 2
  clear HGz10 hgz10
  go_enter Tryd.func69, Tryd.ntmps69
  go_wp2
  go_ret
  exact ⟨er, by repeat (first | (with_reducible first | exact HI0.out | apply IsS80.alloc | apply IsS80.drewN | apply IsS80.drew | apply IsS80.set_1 | apply IsS80.set_2) | exact HI0.out), by repeat (first | (with_reducible first | exact HB.out | apply below_alloc | apply pw_below_drewN | apply below_drew1 | refine below_set ?_ (IsS80.ge HI0.out)) | exact HB.out), kl⟩

end Go.Proofs.YtklnkkejkeelaaaDoor.X
