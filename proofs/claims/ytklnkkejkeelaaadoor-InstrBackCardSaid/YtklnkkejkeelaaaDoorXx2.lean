-- Printed by xprint, a tool of this work; Lean checks it.
import Derived.Test.YtklnkkejkeelaaaDoorXx0
namespace Go.Proofs.YtklnkkejkeelaaaDoor.X
open Go.RowKit Go.Proofs.YtklnkkejkeelaaaDoorW.PrintWords Go.Proofs.YtklnkkejkeelaaaDoorW.PrintLast Go.Proofs.YtklnkkejkeelaaaDoorW.PrintMore
attribute [local go_sem] max2_int min2_int max_two min_two max_three min_three max_four min_four   -- for this text's walks alone
set_option linter.unusedVariables false
set_option linter.unusedSimpArgs false

/-! ### instr_Kind: function 28 -/
theorem instr_Kind.idx (k : Nat) (hk : k < 21) (W : World) : (Instr.index 88 (.agg spansC.toArray) (.int .i64 (k : Int))).run Tryd.prog W = .ok (.agg #[.int .i64 (spansL.getD k (0, 0, 0)).1, .int .i64 (spansL.getD k (0, 0, 0)).2.1, .int .i64 (spansL.getD k (0, 0, 0)).2.2]) W := by
  rcases (by omega : k = 0 ∨ k = 1 ∨ k = 2 ∨ k = 3 ∨ k = 4 ∨ k = 5 ∨ k = 6 ∨ k = 7 ∨ k = 8 ∨ k = 9 ∨ k = 10 ∨ k = 11 ∨ k = 12 ∨ k = 13 ∨ k = 14 ∨ k = 15 ∨ k = 16 ∨ k = 17 ∨ k = 18 ∨ k = 19 ∨ k = 20) with rfl | rfl | rfl | rfl | rfl | rfl | rfl | rfl | rfl | rfl | rfl | rfl | rfl | rfl | rfl | rfl | rfl | rfl | rfl | rfl | rfl <;> kernel_rfl
/-- The first span that a code lies in tells its kind. -/
def instr_Kind.from : List (Int × Int × Int) → Int → Int
  | [], _ => 0
  | p :: l, x => if p.1 ≤ x ∧ x ≤ p.2.1 then p.2.2 else instr_Kind.from l x
def instr_Kind.f (a0 : Int) : Option Int := some (instr_Kind.from spansL a0)
theorem instr_Kind.step (k : Nat) (hk : k < 21) (x : Int) : instr_Kind.from (spansL.drop k) x = if (spansL.getD k (0, 0, 0)).1 ≤ x ∧ x ≤ (spansL.getD k (0, 0, 0)).2.1 then (spansL.getD k (0, 0, 0)).2.2 else instr_Kind.from (spansL.drop (k + 1)) x := by
  have hl : k < spansL.length := hk
  rw [List.drop_eq_getElem_cons hl]
  simp only [instr_Kind.from, List.getD_eq_getElem?_getD, List.getElem?_eq_getElem hl, Option.getD_some]
set_option maxHeartbeats 1000000 in
set_option maxRecDepth 100000 in
theorem instr_Kind.calls (a0 : Int) (r : Int) (w : World) (hG : Glob w) (h : instr_Kind.f a0 = some r) :
    Calls Tryd.prog 28 #[.int .i64 a0] w fun e w' => e = .returned (.int .i64 r) ∧ Below w.heap.size w w' := by
  have hr : instr_Kind.from spansL a0 = r := Option.some.inj h
  clear h
  obtain ⟨t0, fr0, hS⟩ := hG
  have hu1 := Tryd.underlying87
  have hix := instr_Kind.idx
  go_enter Tryd.func28, Tryd.ntmps28
  go_wp2_with (first | (refine wpList_load_row rfl 88 (.global 0) rfl 0 rfl t0 _ fr0 _ hS Tryd.underlying88 rfl (by kernel_rfl) ?_))
  go_loopw [6] (fun v wr => ∃ k : Nat, k ≤ 21 ∧ v = .int .i64 k ∧ Aside0 (instr_Kind.from (spansL.drop k) a0 = r) ∧ Below w.heap.size w wr) (fun v _ => 21 - (intOf v).toNat)
  case atStart => exact ⟨0, by omega, rfl, Aside0.mk hr, Below.refl _ _⟩
  case round =>
    obtain ⟨k, hk, rfl, HR, hb⟩ := hrel
    by_cases hlt : k < 21
    · have HS := Aside0.mk (instr_Kind.step k hlt a0)
      have hi := hix k hlt
      clear hix hr
      generalize hp : spansL.getD k (0, 0, 0) = p at *
      obtain ⟨x, y, z⟩ := p
      have HP := Aside0.mk hp
      clear hp
      by_cases h1 : x ≤ a0
      · by_cases h2 : a0 ≤ y
        · have hz : z = r := by
            have h3 := HR.out
            rw [HS.out, if_pos ⟨h1, h2⟩] at h3
            exact h3
          go_wp2
          go_ret
          exact ⟨by first | rfl | exact ret_int hz, below_alloc hb _⟩
        · have hn : Aside0 (instr_Kind.from (spansL.drop (k + 1)) a0 = r) := Aside0.mk (by
            have h3 := HR.out
            rw [HS.out, if_neg (fun h => h2 h.2)] at h3
            exact h3)
          go_wp2
          go_roundw
          case rel => exact ⟨k + 1, by omega, by go_num, hn, below_alloc hb _⟩
          case measure => simp [intOf]; omega
      · have hn : Aside0 (instr_Kind.from (spansL.drop (k + 1)) a0 = r) := Aside0.mk (by
          have h3 := HR.out
          rw [HS.out, if_neg (fun h => h1 h.1)] at h3
          exact h3)
        go_wp2
        go_roundw
        case rel => exact ⟨k + 1, by omega, by go_num, hn, below_alloc hb _⟩
        case measure => simp [intOf]; omega
    · have : k = 21 := by omega
      subst this
      clear hix hr
      go_wp2
      go_ret
      exact ⟨ret_int HR.out, hb⟩

end Go.Proofs.YtklnkkejkeelaaaDoor.X
