-- Printed by xprint, a tool of this work; Lean checks it.
import Derived.Test.YtklnkkejkeelaaaDoorXx0
namespace Go.Proofs.YtklnkkejkeelaaaDoor.X
open Go.RowKit Go.Proofs.YtklnkkejkeelaaaDoorW.PrintWords Go.Proofs.YtklnkkejkeelaaaDoorW.PrintLast Go.Proofs.YtklnkkejkeelaaaDoorW.PrintMore
attribute [local go_sem] max2_int min2_int max_two min_two max_three min_three max_four min_four   -- for this text's walks alone
set_option linter.unusedVariables false
set_option linter.unusedSimpArgs false

/-! ### instr_Access: function 31 -/
/-- What a code reads or writes. -/
def instr_Access.of (x : Int) : Int × Int × Bool × Bool := if x < 40 ∨ 63 ≤ x then (0, 0, false, false) else rowsL.getD (x - 40).toNat (0, 0, false, false)
def instr_Access.f (a0 : Int) : Option (Int × Int × Bool × Bool) := some (instr_Access.of a0)
theorem instr_Access.out (x : Int) (w : World) (h : x < 40 ∨ 63 ≤ x) :
    Calls Tryd.prog 31 #[.int .i64 x] w fun e w' => e = .returned (.tuple #[.int .u8 0, .int .i64 0, .bool false, .bool false]) ∧ Below w.heap.size w w' := by
  go_enter Tryd.func31, Tryd.ntmps31
  by_cases h1 : x < 40
  · go_wp2
    exact bodyPost_ret (v := .tuple #[.int .u8 0, .int .i64 0, .bool false, .bool false]) (by simp [results, Tryd.results31, go_sem]) rfl ⟨rfl, Below.refl _ _⟩
  · have h2 : 63 ≤ x := by omega
    go_wp2
    exact bodyPost_ret (v := .tuple #[.int .u8 0, .int .i64 0, .bool false, .bool false]) (by simp [results, Tryd.results31, go_sem]) rfl ⟨rfl, Below.refl _ _⟩
set_option maxRecDepth 100000 in
theorem instr_Access.at0 (w : World) (hG : GlobR w) :
    Calls Tryd.prog 31 #[.int .i64 40] w fun e w' => e = .returned (.tuple #[.int .u8 127, .int .i64 4, .bool false, .bool false]) ∧ Below w.heap.size w w' := by
  have hl := Held.lt hG
  have h0 := Held.cell hG 0 (.int .u8 127) rfl
  have h1 := Held.cell hG 1 (.int .i64 4) rfl
  have h2 := Held.cell hG 2 (.bool false) rfl
  have h3 := Held.cell hG 3 (.bool false) rfl
  have hu1 := Tryd.underlying95
  clear hG
  go_enter Tryd.func31, Tryd.ntmps31
  go_wp2
  go_quiet (fail)
  go_wp2
  exact bodyPost_ret (v := .tuple #[.int .u8 127, .int .i64 4, .bool false, .bool false]) (by simp [results, Tryd.results31, go_sem]) rfl ⟨rfl, pw_below_drewN (below_alloc (Below.refl _ _) _) _⟩
set_option maxRecDepth 100000 in
theorem instr_Access.at1 (w : World) (hG : GlobR w) :
    Calls Tryd.prog 31 #[.int .i64 41] w fun e w' => e = .returned (.tuple #[.int .u8 126, .int .i64 8, .bool false, .bool false]) ∧ Below w.heap.size w w' := by
  have hl := Held.lt hG
  have h0 := Held.cell hG 4 (.int .u8 126) rfl
  have h1 := Held.cell hG 5 (.int .i64 8) rfl
  have h2 := Held.cell hG 6 (.bool false) rfl
  have h3 := Held.cell hG 7 (.bool false) rfl
  have hu1 := Tryd.underlying95
  clear hG
  go_enter Tryd.func31, Tryd.ntmps31
  go_wp2
  go_quiet (fail)
  go_wp2
  exact bodyPost_ret (v := .tuple #[.int .u8 126, .int .i64 8, .bool false, .bool false]) (by simp [results, Tryd.results31, go_sem]) rfl ⟨rfl, pw_below_drewN (below_alloc (Below.refl _ _) _) _⟩
set_option maxRecDepth 100000 in
theorem instr_Access.at2 (w : World) (hG : GlobR w) :
    Calls Tryd.prog 31 #[.int .i64 42] w fun e w' => e = .returned (.tuple #[.int .u8 0, .int .i64 0, .bool false, .bool false]) ∧ Below w.heap.size w w' := by
  have hl := Held.lt hG
  have h0 := Held.cell hG 8 (.int .u8 0) rfl
  have h1 := Held.cell hG 9 (.int .i64 0) rfl
  have h2 := Held.cell hG 10 (.bool false) rfl
  have h3 := Held.cell hG 11 (.bool false) rfl
  have hu1 := Tryd.underlying95
  clear hG
  go_enter Tryd.func31, Tryd.ntmps31
  go_wp2
  go_quiet (fail)
  go_wp2
  exact bodyPost_ret (v := .tuple #[.int .u8 0, .int .i64 0, .bool false, .bool false]) (by simp [results, Tryd.results31, go_sem]) rfl ⟨rfl, pw_below_drewN (below_alloc (Below.refl _ _) _) _⟩
set_option maxRecDepth 100000 in
theorem instr_Access.at3 (w : World) (hG : GlobR w) :
    Calls Tryd.prog 31 #[.int .i64 43] w fun e w' => e = .returned (.tuple #[.int .u8 0, .int .i64 0, .bool false, .bool false]) ∧ Below w.heap.size w w' := by
  have hl := Held.lt hG
  have h0 := Held.cell hG 12 (.int .u8 0) rfl
  have h1 := Held.cell hG 13 (.int .i64 0) rfl
  have h2 := Held.cell hG 14 (.bool false) rfl
  have h3 := Held.cell hG 15 (.bool false) rfl
  have hu1 := Tryd.underlying95
  clear hG
  go_enter Tryd.func31, Tryd.ntmps31
  go_wp2
  go_quiet (fail)
  go_wp2
  exact bodyPost_ret (v := .tuple #[.int .u8 0, .int .i64 0, .bool false, .bool false]) (by simp [results, Tryd.results31, go_sem]) rfl ⟨rfl, pw_below_drewN (below_alloc (Below.refl _ _) _) _⟩
set_option maxRecDepth 100000 in
theorem instr_Access.at4 (w : World) (hG : GlobR w) :
    Calls Tryd.prog 31 #[.int .i64 44] w fun e w' => e = .returned (.tuple #[.int .u8 127, .int .i64 1, .bool true, .bool false]) ∧ Below w.heap.size w w' := by
  have hl := Held.lt hG
  have h0 := Held.cell hG 16 (.int .u8 127) rfl
  have h1 := Held.cell hG 17 (.int .i64 1) rfl
  have h2 := Held.cell hG 18 (.bool true) rfl
  have h3 := Held.cell hG 19 (.bool false) rfl
  have hu1 := Tryd.underlying95
  clear hG
  go_enter Tryd.func31, Tryd.ntmps31
  go_wp2
  go_quiet (fail)
  go_wp2
  exact bodyPost_ret (v := .tuple #[.int .u8 127, .int .i64 1, .bool true, .bool false]) (by simp [results, Tryd.results31, go_sem]) rfl ⟨rfl, pw_below_drewN (below_alloc (Below.refl _ _) _) _⟩
set_option maxRecDepth 100000 in
theorem instr_Access.at5 (w : World) (hG : GlobR w) :
    Calls Tryd.prog 31 #[.int .i64 45] w fun e w' => e = .returned (.tuple #[.int .u8 127, .int .i64 1, .bool false, .bool false]) ∧ Below w.heap.size w w' := by
  have hl := Held.lt hG
  have h0 := Held.cell hG 20 (.int .u8 127) rfl
  have h1 := Held.cell hG 21 (.int .i64 1) rfl
  have h2 := Held.cell hG 22 (.bool false) rfl
  have h3 := Held.cell hG 23 (.bool false) rfl
  have hu1 := Tryd.underlying95
  clear hG
  go_enter Tryd.func31, Tryd.ntmps31
  go_wp2
  go_quiet (fail)
  go_wp2
  exact bodyPost_ret (v := .tuple #[.int .u8 127, .int .i64 1, .bool false, .bool false]) (by simp [results, Tryd.results31, go_sem]) rfl ⟨rfl, pw_below_drewN (below_alloc (Below.refl _ _) _) _⟩
set_option maxRecDepth 100000 in
theorem instr_Access.at6 (w : World) (hG : GlobR w) :
    Calls Tryd.prog 31 #[.int .i64 46] w fun e w' => e = .returned (.tuple #[.int .u8 127, .int .i64 2, .bool true, .bool false]) ∧ Below w.heap.size w w' := by
  have hl := Held.lt hG
  have h0 := Held.cell hG 24 (.int .u8 127) rfl
  have h1 := Held.cell hG 25 (.int .i64 2) rfl
  have h2 := Held.cell hG 26 (.bool true) rfl
  have h3 := Held.cell hG 27 (.bool false) rfl
  have hu1 := Tryd.underlying95
  clear hG
  go_enter Tryd.func31, Tryd.ntmps31
  go_wp2
  go_quiet (fail)
  go_wp2
  exact bodyPost_ret (v := .tuple #[.int .u8 127, .int .i64 2, .bool true, .bool false]) (by simp [results, Tryd.results31, go_sem]) rfl ⟨rfl, pw_below_drewN (below_alloc (Below.refl _ _) _) _⟩
set_option maxRecDepth 100000 in
theorem instr_Access.at7 (w : World) (hG : GlobR w) :
    Calls Tryd.prog 31 #[.int .i64 47] w fun e w' => e = .returned (.tuple #[.int .u8 127, .int .i64 2, .bool false, .bool false]) ∧ Below w.heap.size w w' := by
  have hl := Held.lt hG
  have h0 := Held.cell hG 28 (.int .u8 127) rfl
  have h1 := Held.cell hG 29 (.int .i64 2) rfl
  have h2 := Held.cell hG 30 (.bool false) rfl
  have h3 := Held.cell hG 31 (.bool false) rfl
  have hu1 := Tryd.underlying95
  clear hG
  go_enter Tryd.func31, Tryd.ntmps31
  go_wp2
  go_quiet (fail)
  go_wp2
  exact bodyPost_ret (v := .tuple #[.int .u8 127, .int .i64 2, .bool false, .bool false]) (by simp [results, Tryd.results31, go_sem]) rfl ⟨rfl, pw_below_drewN (below_alloc (Below.refl _ _) _) _⟩
set_option maxRecDepth 100000 in
theorem instr_Access.at8 (w : World) (hG : GlobR w) :
    Calls Tryd.prog 31 #[.int .i64 48] w fun e w' => e = .returned (.tuple #[.int .u8 126, .int .i64 1, .bool true, .bool false]) ∧ Below w.heap.size w w' := by
  have hl := Held.lt hG
  have h0 := Held.cell hG 32 (.int .u8 126) rfl
  have h1 := Held.cell hG 33 (.int .i64 1) rfl
  have h2 := Held.cell hG 34 (.bool true) rfl
  have h3 := Held.cell hG 35 (.bool false) rfl
  have hu1 := Tryd.underlying95
  clear hG
  go_enter Tryd.func31, Tryd.ntmps31
  go_wp2
  go_quiet (fail)
  go_wp2
  exact bodyPost_ret (v := .tuple #[.int .u8 126, .int .i64 1, .bool true, .bool false]) (by simp [results, Tryd.results31, go_sem]) rfl ⟨rfl, pw_below_drewN (below_alloc (Below.refl _ _) _) _⟩
set_option maxRecDepth 100000 in
theorem instr_Access.at9 (w : World) (hG : GlobR w) :
    Calls Tryd.prog 31 #[.int .i64 49] w fun e w' => e = .returned (.tuple #[.int .u8 126, .int .i64 1, .bool false, .bool false]) ∧ Below w.heap.size w w' := by
  have hl := Held.lt hG
  have h0 := Held.cell hG 36 (.int .u8 126) rfl
  have h1 := Held.cell hG 37 (.int .i64 1) rfl
  have h2 := Held.cell hG 38 (.bool false) rfl
  have h3 := Held.cell hG 39 (.bool false) rfl
  have hu1 := Tryd.underlying95
  clear hG
  go_enter Tryd.func31, Tryd.ntmps31
  go_wp2
  go_quiet (fail)
  go_wp2
  exact bodyPost_ret (v := .tuple #[.int .u8 126, .int .i64 1, .bool false, .bool false]) (by simp [results, Tryd.results31, go_sem]) rfl ⟨rfl, pw_below_drewN (below_alloc (Below.refl _ _) _) _⟩
set_option maxRecDepth 100000 in
theorem instr_Access.at10 (w : World) (hG : GlobR w) :
    Calls Tryd.prog 31 #[.int .i64 50] w fun e w' => e = .returned (.tuple #[.int .u8 126, .int .i64 2, .bool true, .bool false]) ∧ Below w.heap.size w w' := by
  have hl := Held.lt hG
  have h0 := Held.cell hG 40 (.int .u8 126) rfl
  have h1 := Held.cell hG 41 (.int .i64 2) rfl
  have h2 := Held.cell hG 42 (.bool true) rfl
  have h3 := Held.cell hG 43 (.bool false) rfl
  have hu1 := Tryd.underlying95
  clear hG
  go_enter Tryd.func31, Tryd.ntmps31
  go_wp2
  go_quiet (fail)
  go_wp2
  exact bodyPost_ret (v := .tuple #[.int .u8 126, .int .i64 2, .bool true, .bool false]) (by simp [results, Tryd.results31, go_sem]) rfl ⟨rfl, pw_below_drewN (below_alloc (Below.refl _ _) _) _⟩
set_option maxRecDepth 100000 in
theorem instr_Access.at11 (w : World) (hG : GlobR w) :
    Calls Tryd.prog 31 #[.int .i64 51] w fun e w' => e = .returned (.tuple #[.int .u8 126, .int .i64 2, .bool false, .bool false]) ∧ Below w.heap.size w w' := by
  have hl := Held.lt hG
  have h0 := Held.cell hG 44 (.int .u8 126) rfl
  have h1 := Held.cell hG 45 (.int .i64 2) rfl
  have h2 := Held.cell hG 46 (.bool false) rfl
  have h3 := Held.cell hG 47 (.bool false) rfl
  have hu1 := Tryd.underlying95
  clear hG
  go_enter Tryd.func31, Tryd.ntmps31
  go_wp2
  go_quiet (fail)
  go_wp2
  exact bodyPost_ret (v := .tuple #[.int .u8 126, .int .i64 2, .bool false, .bool false]) (by simp [results, Tryd.results31, go_sem]) rfl ⟨rfl, pw_below_drewN (below_alloc (Below.refl _ _) _) _⟩
set_option maxRecDepth 100000 in
theorem instr_Access.at12 (w : World) (hG : GlobR w) :
    Calls Tryd.prog 31 #[.int .i64 52] w fun e w' => e = .returned (.tuple #[.int .u8 126, .int .i64 4, .bool true, .bool false]) ∧ Below w.heap.size w w' := by
  have hl := Held.lt hG
  have h0 := Held.cell hG 48 (.int .u8 126) rfl
  have h1 := Held.cell hG 49 (.int .i64 4) rfl
  have h2 := Held.cell hG 50 (.bool true) rfl
  have h3 := Held.cell hG 51 (.bool false) rfl
  have hu1 := Tryd.underlying95
  clear hG
  go_enter Tryd.func31, Tryd.ntmps31
  go_wp2
  go_quiet (fail)
  go_wp2
  exact bodyPost_ret (v := .tuple #[.int .u8 126, .int .i64 4, .bool true, .bool false]) (by simp [results, Tryd.results31, go_sem]) rfl ⟨rfl, pw_below_drewN (below_alloc (Below.refl _ _) _) _⟩
set_option maxRecDepth 100000 in
theorem instr_Access.at13 (w : World) (hG : GlobR w) :
    Calls Tryd.prog 31 #[.int .i64 53] w fun e w' => e = .returned (.tuple #[.int .u8 126, .int .i64 4, .bool false, .bool false]) ∧ Below w.heap.size w w' := by
  have hl := Held.lt hG
  have h0 := Held.cell hG 52 (.int .u8 126) rfl
  have h1 := Held.cell hG 53 (.int .i64 4) rfl
  have h2 := Held.cell hG 54 (.bool false) rfl
  have h3 := Held.cell hG 55 (.bool false) rfl
  have hu1 := Tryd.underlying95
  clear hG
  go_enter Tryd.func31, Tryd.ntmps31
  go_wp2
  go_quiet (fail)
  go_wp2
  exact bodyPost_ret (v := .tuple #[.int .u8 126, .int .i64 4, .bool false, .bool false]) (by simp [results, Tryd.results31, go_sem]) rfl ⟨rfl, pw_below_drewN (below_alloc (Below.refl _ _) _) _⟩
set_option maxRecDepth 100000 in
theorem instr_Access.at14 (w : World) (hG : GlobR w) :
    Calls Tryd.prog 31 #[.int .i64 54] w fun e w' => e = .returned (.tuple #[.int .u8 127, .int .i64 4, .bool false, .bool true]) ∧ Below w.heap.size w w' := by
  have hl := Held.lt hG
  have h0 := Held.cell hG 56 (.int .u8 127) rfl
  have h1 := Held.cell hG 57 (.int .i64 4) rfl
  have h2 := Held.cell hG 58 (.bool false) rfl
  have h3 := Held.cell hG 59 (.bool true) rfl
  have hu1 := Tryd.underlying95
  clear hG
  go_enter Tryd.func31, Tryd.ntmps31
  go_wp2
  go_quiet (fail)
  go_wp2
  exact bodyPost_ret (v := .tuple #[.int .u8 127, .int .i64 4, .bool false, .bool true]) (by simp [results, Tryd.results31, go_sem]) rfl ⟨rfl, pw_below_drewN (below_alloc (Below.refl _ _) _) _⟩
set_option maxRecDepth 100000 in
theorem instr_Access.at15 (w : World) (hG : GlobR w) :
    Calls Tryd.prog 31 #[.int .i64 55] w fun e w' => e = .returned (.tuple #[.int .u8 126, .int .i64 8, .bool false, .bool true]) ∧ Below w.heap.size w w' := by
  have hl := Held.lt hG
  have h0 := Held.cell hG 60 (.int .u8 126) rfl
  have h1 := Held.cell hG 61 (.int .i64 8) rfl
  have h2 := Held.cell hG 62 (.bool false) rfl
  have h3 := Held.cell hG 63 (.bool true) rfl
  have hu1 := Tryd.underlying95
  clear hG
  go_enter Tryd.func31, Tryd.ntmps31
  go_wp2
  go_quiet (fail)
  go_wp2
  exact bodyPost_ret (v := .tuple #[.int .u8 126, .int .i64 8, .bool false, .bool true]) (by simp [results, Tryd.results31, go_sem]) rfl ⟨rfl, pw_below_drewN (below_alloc (Below.refl _ _) _) _⟩
set_option maxRecDepth 100000 in
theorem instr_Access.at16 (w : World) (hG : GlobR w) :
    Calls Tryd.prog 31 #[.int .i64 56] w fun e w' => e = .returned (.tuple #[.int .u8 0, .int .i64 0, .bool false, .bool false]) ∧ Below w.heap.size w w' := by
  have hl := Held.lt hG
  have h0 := Held.cell hG 64 (.int .u8 0) rfl
  have h1 := Held.cell hG 65 (.int .i64 0) rfl
  have h2 := Held.cell hG 66 (.bool false) rfl
  have h3 := Held.cell hG 67 (.bool false) rfl
  have hu1 := Tryd.underlying95
  clear hG
  go_enter Tryd.func31, Tryd.ntmps31
  go_wp2
  go_quiet (fail)
  go_wp2
  exact bodyPost_ret (v := .tuple #[.int .u8 0, .int .i64 0, .bool false, .bool false]) (by simp [results, Tryd.results31, go_sem]) rfl ⟨rfl, pw_below_drewN (below_alloc (Below.refl _ _) _) _⟩
set_option maxRecDepth 100000 in
theorem instr_Access.at17 (w : World) (hG : GlobR w) :
    Calls Tryd.prog 31 #[.int .i64 57] w fun e w' => e = .returned (.tuple #[.int .u8 0, .int .i64 0, .bool false, .bool false]) ∧ Below w.heap.size w w' := by
  have hl := Held.lt hG
  have h0 := Held.cell hG 68 (.int .u8 0) rfl
  have h1 := Held.cell hG 69 (.int .i64 0) rfl
  have h2 := Held.cell hG 70 (.bool false) rfl
  have h3 := Held.cell hG 71 (.bool false) rfl
  have hu1 := Tryd.underlying95
  clear hG
  go_enter Tryd.func31, Tryd.ntmps31
  go_wp2
  go_quiet (fail)
  go_wp2
  exact bodyPost_ret (v := .tuple #[.int .u8 0, .int .i64 0, .bool false, .bool false]) (by simp [results, Tryd.results31, go_sem]) rfl ⟨rfl, pw_below_drewN (below_alloc (Below.refl _ _) _) _⟩
set_option maxRecDepth 100000 in
theorem instr_Access.at18 (w : World) (hG : GlobR w) :
    Calls Tryd.prog 31 #[.int .i64 58] w fun e w' => e = .returned (.tuple #[.int .u8 127, .int .i64 1, .bool false, .bool true]) ∧ Below w.heap.size w w' := by
  have hl := Held.lt hG
  have h0 := Held.cell hG 72 (.int .u8 127) rfl
  have h1 := Held.cell hG 73 (.int .i64 1) rfl
  have h2 := Held.cell hG 74 (.bool false) rfl
  have h3 := Held.cell hG 75 (.bool true) rfl
  have hu1 := Tryd.underlying95
  clear hG
  go_enter Tryd.func31, Tryd.ntmps31
  go_wp2
  go_quiet (fail)
  go_wp2
  exact bodyPost_ret (v := .tuple #[.int .u8 127, .int .i64 1, .bool false, .bool true]) (by simp [results, Tryd.results31, go_sem]) rfl ⟨rfl, pw_below_drewN (below_alloc (Below.refl _ _) _) _⟩
set_option maxRecDepth 100000 in
theorem instr_Access.at19 (w : World) (hG : GlobR w) :
    Calls Tryd.prog 31 #[.int .i64 59] w fun e w' => e = .returned (.tuple #[.int .u8 127, .int .i64 2, .bool false, .bool true]) ∧ Below w.heap.size w w' := by
  have hl := Held.lt hG
  have h0 := Held.cell hG 76 (.int .u8 127) rfl
  have h1 := Held.cell hG 77 (.int .i64 2) rfl
  have h2 := Held.cell hG 78 (.bool false) rfl
  have h3 := Held.cell hG 79 (.bool true) rfl
  have hu1 := Tryd.underlying95
  clear hG
  go_enter Tryd.func31, Tryd.ntmps31
  go_wp2
  go_quiet (fail)
  go_wp2
  exact bodyPost_ret (v := .tuple #[.int .u8 127, .int .i64 2, .bool false, .bool true]) (by simp [results, Tryd.results31, go_sem]) rfl ⟨rfl, pw_below_drewN (below_alloc (Below.refl _ _) _) _⟩
set_option maxRecDepth 100000 in
theorem instr_Access.at20 (w : World) (hG : GlobR w) :
    Calls Tryd.prog 31 #[.int .i64 60] w fun e w' => e = .returned (.tuple #[.int .u8 126, .int .i64 1, .bool false, .bool true]) ∧ Below w.heap.size w w' := by
  have hl := Held.lt hG
  have h0 := Held.cell hG 80 (.int .u8 126) rfl
  have h1 := Held.cell hG 81 (.int .i64 1) rfl
  have h2 := Held.cell hG 82 (.bool false) rfl
  have h3 := Held.cell hG 83 (.bool true) rfl
  have hu1 := Tryd.underlying95
  clear hG
  go_enter Tryd.func31, Tryd.ntmps31
  go_wp2
  go_quiet (fail)
  go_wp2
  exact bodyPost_ret (v := .tuple #[.int .u8 126, .int .i64 1, .bool false, .bool true]) (by simp [results, Tryd.results31, go_sem]) rfl ⟨rfl, pw_below_drewN (below_alloc (Below.refl _ _) _) _⟩
set_option maxRecDepth 100000 in
theorem instr_Access.at21 (w : World) (hG : GlobR w) :
    Calls Tryd.prog 31 #[.int .i64 61] w fun e w' => e = .returned (.tuple #[.int .u8 126, .int .i64 2, .bool false, .bool true]) ∧ Below w.heap.size w w' := by
  have hl := Held.lt hG
  have h0 := Held.cell hG 84 (.int .u8 126) rfl
  have h1 := Held.cell hG 85 (.int .i64 2) rfl
  have h2 := Held.cell hG 86 (.bool false) rfl
  have h3 := Held.cell hG 87 (.bool true) rfl
  have hu1 := Tryd.underlying95
  clear hG
  go_enter Tryd.func31, Tryd.ntmps31
  go_wp2
  go_quiet (fail)
  go_wp2
  exact bodyPost_ret (v := .tuple #[.int .u8 126, .int .i64 2, .bool false, .bool true]) (by simp [results, Tryd.results31, go_sem]) rfl ⟨rfl, pw_below_drewN (below_alloc (Below.refl _ _) _) _⟩
set_option maxRecDepth 100000 in
theorem instr_Access.at22 (w : World) (hG : GlobR w) :
    Calls Tryd.prog 31 #[.int .i64 62] w fun e w' => e = .returned (.tuple #[.int .u8 126, .int .i64 4, .bool false, .bool true]) ∧ Below w.heap.size w w' := by
  have hl := Held.lt hG
  have h0 := Held.cell hG 88 (.int .u8 126) rfl
  have h1 := Held.cell hG 89 (.int .i64 4) rfl
  have h2 := Held.cell hG 90 (.bool false) rfl
  have h3 := Held.cell hG 91 (.bool true) rfl
  have hu1 := Tryd.underlying95
  clear hG
  go_enter Tryd.func31, Tryd.ntmps31
  go_wp2
  go_quiet (fail)
  go_wp2
  exact bodyPost_ret (v := .tuple #[.int .u8 126, .int .i64 4, .bool false, .bool true]) (by simp [results, Tryd.results31, go_sem]) rfl ⟨rfl, pw_below_drewN (below_alloc (Below.refl _ _) _) _⟩
theorem instr_Access.calls (a0 : Int) (r1 : Int) (r2 : Int) (r3 : Bool) (r4 : Bool) (w : World) (hGR : GlobR w) (h : instr_Access.f a0 = some (r1, r2, r3, r4)) :
    Calls Tryd.prog 31 #[.int .i64 a0] w fun e w' => e = .returned (.tuple #[.int .u8 r1, .int .i64 r2, .bool r3, .bool r4]) ∧ Below w.heap.size w w' := by
  have hr : instr_Access.of a0 = (r1, r2, r3, r4) := Option.some.inj h
  by_cases ho : a0 < 40 ∨ 63 ≤ a0
  · rw [instr_Access.of, if_pos ho] at hr
    simp only [Prod.mk.injEq] at hr
    obtain ⟨rfl, rfl, rfl, rfl⟩ := hr
    exact instr_Access.out a0 w ho
  · rw [instr_Access.of, if_neg ho] at hr
    rcases (by omega : a0 = 40 ∨ a0 = 41 ∨ a0 = 42 ∨ a0 = 43 ∨ a0 = 44 ∨ a0 = 45 ∨ a0 = 46 ∨ a0 = 47 ∨ a0 = 48 ∨ a0 = 49 ∨ a0 = 50 ∨ a0 = 51 ∨ a0 = 52 ∨ a0 = 53 ∨ a0 = 54 ∨ a0 = 55 ∨ a0 = 56 ∨ a0 = 57 ∨ a0 = 58 ∨ a0 = 59 ∨ a0 = 60 ∨ a0 = 61 ∨ a0 = 62) with rfl | rfl | rfl | rfl | rfl | rfl | rfl | rfl | rfl | rfl | rfl | rfl | rfl | rfl | rfl | rfl | rfl | rfl | rfl | rfl | rfl | rfl | rfl
    · obtain ⟨rfl, rfl, rfl, rfl⟩ : 127 = r1 ∧ 4 = r2 ∧ false = r3 ∧ false = r4 := by simpa [rowsL] using hr
      exact instr_Access.at0 w hGR
    · obtain ⟨rfl, rfl, rfl, rfl⟩ : 126 = r1 ∧ 8 = r2 ∧ false = r3 ∧ false = r4 := by simpa [rowsL] using hr
      exact instr_Access.at1 w hGR
    · obtain ⟨rfl, rfl, rfl, rfl⟩ : 0 = r1 ∧ 0 = r2 ∧ false = r3 ∧ false = r4 := by simpa [rowsL] using hr
      exact instr_Access.at2 w hGR
    · obtain ⟨rfl, rfl, rfl, rfl⟩ : 0 = r1 ∧ 0 = r2 ∧ false = r3 ∧ false = r4 := by simpa [rowsL] using hr
      exact instr_Access.at3 w hGR
    · obtain ⟨rfl, rfl, rfl, rfl⟩ : 127 = r1 ∧ 1 = r2 ∧ true = r3 ∧ false = r4 := by simpa [rowsL] using hr
      exact instr_Access.at4 w hGR
    · obtain ⟨rfl, rfl, rfl, rfl⟩ : 127 = r1 ∧ 1 = r2 ∧ false = r3 ∧ false = r4 := by simpa [rowsL] using hr
      exact instr_Access.at5 w hGR
    · obtain ⟨rfl, rfl, rfl, rfl⟩ : 127 = r1 ∧ 2 = r2 ∧ true = r3 ∧ false = r4 := by simpa [rowsL] using hr
      exact instr_Access.at6 w hGR
    · obtain ⟨rfl, rfl, rfl, rfl⟩ : 127 = r1 ∧ 2 = r2 ∧ false = r3 ∧ false = r4 := by simpa [rowsL] using hr
      exact instr_Access.at7 w hGR
    · obtain ⟨rfl, rfl, rfl, rfl⟩ : 126 = r1 ∧ 1 = r2 ∧ true = r3 ∧ false = r4 := by simpa [rowsL] using hr
      exact instr_Access.at8 w hGR
    · obtain ⟨rfl, rfl, rfl, rfl⟩ : 126 = r1 ∧ 1 = r2 ∧ false = r3 ∧ false = r4 := by simpa [rowsL] using hr
      exact instr_Access.at9 w hGR
    · obtain ⟨rfl, rfl, rfl, rfl⟩ : 126 = r1 ∧ 2 = r2 ∧ true = r3 ∧ false = r4 := by simpa [rowsL] using hr
      exact instr_Access.at10 w hGR
    · obtain ⟨rfl, rfl, rfl, rfl⟩ : 126 = r1 ∧ 2 = r2 ∧ false = r3 ∧ false = r4 := by simpa [rowsL] using hr
      exact instr_Access.at11 w hGR
    · obtain ⟨rfl, rfl, rfl, rfl⟩ : 126 = r1 ∧ 4 = r2 ∧ true = r3 ∧ false = r4 := by simpa [rowsL] using hr
      exact instr_Access.at12 w hGR
    · obtain ⟨rfl, rfl, rfl, rfl⟩ : 126 = r1 ∧ 4 = r2 ∧ false = r3 ∧ false = r4 := by simpa [rowsL] using hr
      exact instr_Access.at13 w hGR
    · obtain ⟨rfl, rfl, rfl, rfl⟩ : 127 = r1 ∧ 4 = r2 ∧ false = r3 ∧ true = r4 := by simpa [rowsL] using hr
      exact instr_Access.at14 w hGR
    · obtain ⟨rfl, rfl, rfl, rfl⟩ : 126 = r1 ∧ 8 = r2 ∧ false = r3 ∧ true = r4 := by simpa [rowsL] using hr
      exact instr_Access.at15 w hGR
    · obtain ⟨rfl, rfl, rfl, rfl⟩ : 0 = r1 ∧ 0 = r2 ∧ false = r3 ∧ false = r4 := by simpa [rowsL] using hr
      exact instr_Access.at16 w hGR
    · obtain ⟨rfl, rfl, rfl, rfl⟩ : 0 = r1 ∧ 0 = r2 ∧ false = r3 ∧ false = r4 := by simpa [rowsL] using hr
      exact instr_Access.at17 w hGR
    · obtain ⟨rfl, rfl, rfl, rfl⟩ : 127 = r1 ∧ 1 = r2 ∧ false = r3 ∧ true = r4 := by simpa [rowsL] using hr
      exact instr_Access.at18 w hGR
    · obtain ⟨rfl, rfl, rfl, rfl⟩ : 127 = r1 ∧ 2 = r2 ∧ false = r3 ∧ true = r4 := by simpa [rowsL] using hr
      exact instr_Access.at19 w hGR
    · obtain ⟨rfl, rfl, rfl, rfl⟩ : 126 = r1 ∧ 1 = r2 ∧ false = r3 ∧ true = r4 := by simpa [rowsL] using hr
      exact instr_Access.at20 w hGR
    · obtain ⟨rfl, rfl, rfl, rfl⟩ : 126 = r1 ∧ 2 = r2 ∧ false = r3 ∧ true = r4 := by simpa [rowsL] using hr
      exact instr_Access.at21 w hGR
    · obtain ⟨rfl, rfl, rfl, rfl⟩ : 126 = r1 ∧ 4 = r2 ∧ false = r3 ∧ true = r4 := by simpa [rowsL] using hr
      exact instr_Access.at22 w hGR

end Go.Proofs.YtklnkkejkeelaaaDoor.X
