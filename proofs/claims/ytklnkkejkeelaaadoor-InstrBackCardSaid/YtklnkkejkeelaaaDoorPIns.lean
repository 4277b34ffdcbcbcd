/- PLAIN LAWS of instr, one: kinds, sameness, what may be, and what is laid. No condition; no program's step in it. -/
import Derived.Test.YtklnkkejkeelaaaDoorPReadS
import Derived.Test.YtklnkkejkeelaaaDoorXx4
import Derived.Test.YtklnkkejkeelaaaDoorXx3
set_option linter.unusedVariables false
set_option linter.unusedSimpArgs false
namespace Go.Proofs.YtklnkkejkeelaaaDoor.X
open Go.RowKit Go.Proofs.YtklnkkejkeelaaaDoorW.PrintWords Go.Proofs.YtklnkkejkeelaaaDoorW.PrintLast Go.Proofs.YtklnkkejkeelaaaDoorW.PrintMore

/-! ### kinds -/
/-- An operator's kind. -/
def kd (x : Int) : Int := instr_Kind.from spansL x
theorem kd_out (x : Int) (h : x < 0 ∨ 173 < x) : kd x = 0 := by
  unfold kd
  simp only [instr_Kind.from, spansL]
  repeat rw [if_neg (by omega)]
theorem kd_in (x : Int) : kd x = 0 ∨ kd x = 1 ∨ kd x = 2 ∨ kd x = 3 ∨ kd x = 4 ∨ kd x = 5 ∨ kd x = 6 ∨ kd x = 7 ∨ kd x = 8 ∨ kd x = 9 := by
  by_cases h : x < 0 ∨ 173 < x
  · exact .inl (kd_out x h)
  · have hp : (List.range 256).all (fun n => (fun c => decide (kd c = 0 ∨ kd c = 1 ∨ kd c = 2 ∨ kd c = 3 ∨ kd c = 4 ∨ kd c = 5 ∨ kd c = 6 ∨ kd c = 7 ∨ kd c = 8 ∨ kd c = 9)) (n : Int)) = true := by kernel_rfl
    have := all256 (p := fun c => decide (kd c = 0 ∨ kd c = 1 ∨ kd c = 2 ∨ kd c = 3 ∨ kd c = 4 ∨ kd c = 5 ∨ kd c = 6 ∨ kd c = 7 ∨ kd c = 8 ∨ kd c = 9)) hp (c := x) (by omega) (by omega)
    simpa using this
theorem kd_byte {x : Int} (h : kd x ≠ 0) : 0 ≤ x ∧ x < 256 := by
  by_cases h1 : x < 0 ∨ 173 < x
  · exact absurd (kd_out x h1) h
  · omega

/-! ### sameness -/
theorem equal_loop (l m : List Int) (h : l.length = m.length) (hl : (l.length : Int) ≤ 9223372036854775807) (d : Nat) : ∀ (k i : Nat), i + d = l.length → d < k → slices_Equal_int_int.l0 k l m (l.length : Int) (i : Int) = some (decide (l.drop i = m.drop i)) := by
  induction d with
  | zero =>
    intro k i hi hk
    obtain ⟨k, rfl⟩ : ∃ j, k = j + 1 := ⟨k - 1, by omega⟩
    rw [slices_Equal_int_int.l0, if_neg (by omega), List.drop_eq_nil_of_le (by omega), List.drop_eq_nil_of_le (by omega)]
    rfl
  | succ d ih =>
    intro k i hi hk
    obtain ⟨k, rfl⟩ : ∃ j, k = j + 1 := ⟨k - 1, by omega⟩
    have h1 : i < l.length := by omega
    have h2 : i < m.length := by omega
    rw [slices_Equal_int_int.l0, if_pos (by omega), if_pos (by omega), if_pos (by omega), if_pos (by omega), rd_nat h1, rd_nat h2, List.drop_eq_getElem_cons h1, List.drop_eq_getElem_cons h2]
    by_cases h3 : l[i] = m[i]
    · rw [if_pos h3, w64 (by omega) (by omega), show (i : Int) + 1 = ((i + 1 : Nat) : Int) by omega, ih k (i + 1) (by omega) (by omega), h3]
      exact congrArg some (decide_eq_decide.2 ⟨fun h => by rw [h], fun h => (List.cons.inj h).2⟩)
    · rw [if_neg h3, decide_eq_false (fun h => h3 (List.cons.inj h).1)]
theorem equal_eq (k : Nat) (l m : List Int) (hl : l.length < k) (hk : k ≤ 9223372036854775807) : slices_Equal_int_int.f k l m = some (decide (l = m)) := by
  unfold slices_Equal_int_int.f
  by_cases h : l.length = m.length
  · have e := equal_loop l m h (by omega) l.length k 0 (by omega) (by omega)
    rw [if_pos (by omega)]
    exact e
  · rw [if_neg (by omega), decide_eq_false (fun e => h (by rw [e]))]
theorem same_eq (k : Nat) (a b c d : Int) (l : List Int) (a' b' c' d' : Int) (m : List Int) (hl : l.length < k) (hk : k ≤ 9223372036854775807) : instr_Same.f k a b c d l a' b' c' d' m = some (decide (a = a' ∧ b = b' ∧ c = c' ∧ d = d' ∧ l = m)) := by
  unfold instr_Same.f
  rw [equal_eq k l m hl hk]
  by_cases h1 : a = a'
  · rw [if_pos h1]
    by_cases h2 : b = b'
    · rw [if_pos h2]
      by_cases h3 : c = c'
      · rw [if_pos h3]
        by_cases h4 : d = d'
        · rw [if_pos h4]
          simp [h1, h2, h3, h4]
        · rw [if_neg h4, decide_eq_false (fun h => h4 h.2.2.2.1)]
      · rw [if_neg h3, decide_eq_false (fun h => h3 h.2.2.1)]
    · rw [if_neg h2, decide_eq_false (fun h => h2 h.2.1)]
  · rw [if_neg h1, decide_eq_false (fun h => h1 h.1)]

/-! ### what may be -/
/-- A number of 32 digits. -/
def Num (x : Int) : Prop := 0 ≤ x ∧ x ≤ 4294967295
instance (x : Int) : Decidable (Num x) := inferInstanceAs (Decidable (_ ∧ _))
theorem number_eq (x : Int) : instr_number.f x = some (decide (Num x)) := by
  unfold instr_number.f
  by_cases h : x ≥ 0
  · rw [if_pos h]
    exact congrArg some (decide_eq_decide.2 ⟨fun h2 => ⟨h, h2⟩, fun h2 => h2.2⟩)
  · rw [if_neg h, decide_eq_false (fun e : Num x => h e.1)]
theorem index_loop (l : List Int) (hl : (l.length : Int) ≤ 9223372036854775807) (d : Nat) : ∀ (k i : Nat), i + d = l.length → d < k → ∃ r, slices_IndexFunc_int_int__instr_Sane_1.l0 k l (l.length : Int) (i : Int) = some r ∧ (r ≥ 0 ↔ ¬ ∀ x ∈ l.drop i, Num x) := by
  induction d with
  | zero =>
    intro k i hi hk
    obtain ⟨k, rfl⟩ : ∃ j, k = j + 1 := ⟨k - 1, by omega⟩
    rw [slices_IndexFunc_int_int__instr_Sane_1.l0, if_neg (by omega), List.drop_eq_nil_of_le (by omega)]
    exact ⟨-1, rfl, by simp⟩
  | succ d ih =>
    intro k i hi hk
    obtain ⟨k, rfl⟩ : ∃ j, k = j + 1 := ⟨k - 1, by omega⟩
    have h1 : i < l.length := by omega
    rw [slices_IndexFunc_int_int__instr_Sane_1.l0, if_pos (by omega), if_pos (by omega), if_pos (by omega), rd_nat h1, List.drop_eq_getElem_cons h1]
    unfold instr_Sane_1.f
    rw [number_eq, Option.bind_some, Option.bind_some]
    by_cases h2 : Num l[i]
    · rw [decide_eq_true h2, if_neg (by decide), w64 (by omega) (by omega), show (i : Int) + 1 = ((i + 1 : Nat) : Int) by omega]
      obtain ⟨r, e, hr⟩ := ih k (i + 1) (by omega) (by omega)
      exact ⟨r, e, by rw [hr, List.forall_mem_cons]; simp only [h2, true_and]⟩
    · rw [decide_eq_false h2, if_pos (by decide)]
      exact ⟨_, rfl, by rw [List.forall_mem_cons]; exact ⟨fun _ h => h2 h.1, fun _ => by omega⟩⟩
theorem contains_eq (k : Nat) (l : List Int) (hl : l.length < k) (hk : k ≤ 9223372036854775807) : slices_ContainsFunc_int_int__instr_Sane_1.f k l = some (!decide (∀ x ∈ l, Num x)) := by
  unfold slices_ContainsFunc_int_int__instr_Sane_1.f slices_IndexFunc_int_int__instr_Sane_1.f
  obtain ⟨r, e, hr⟩ := index_loop l (by omega) l.length k 0 (by omega) (by omega)
  have e' : slices_IndexFunc_int_int__instr_Sane_1.l0 k l (l.length : Int) 0 = some r := e
  rw [e', Option.bind_some]
  simp only [List.drop_zero] at hr
  by_cases h : ∀ x ∈ l, Num x
  · rw [decide_eq_true h, decide_eq_false (fun h2 => (hr.1 h2) h)]
    rfl
  · rw [decide_eq_false h, decide_eq_true (hr.2 h)]
    rfl
/-- An instruction: its operator, two numbers, a constant, labels. -/
structure Ins where
  op : Int
  a : Int
  b : Int
  c : Int
  ls : List Int
/-- What an instruction may be. -/
def San (i : Ins) : Prop := kd i.op ≠ 0 ∧ Num i.a ∧ Num i.b ∧ (kd i.op ≠ 4 → i.ls = []) ∧
  (kd i.op = 1 ∨ kd i.op = 7 → i.a = 0 ∧ i.b = 0 ∧ i.c = 0) ∧ (kd i.op = 2 → i.b = 0 ∧ i.c = 0 ∧ (i.a = 0 ∨ i.a = 127 ∨ i.a = 126)) ∧ (kd i.op = 3 ∨ kd i.op = 5 → i.b = 0 ∧ i.c = 0) ∧
  (kd i.op = 4 → i.b = 0 ∧ i.c = 0 ∧ i.ls.length ≤ 64 ∧ ∀ x ∈ i.ls, Num x) ∧ (kd i.op = 6 → i.c = 0) ∧ (kd i.op = 8 → i.a = 0 ∧ i.b = 0 ∧ i.c ≤ 4294967295) ∧ (kd i.op = 9 → i.a = 0 ∧ i.b = 0)
theorem sane_ex (k : Nat) (i : Ins) (hk : 100 ≤ k) (hk' : k ≤ 9223372036854775807) : ∃ s, instr_Sane.f k i.op i.a i.b i.c i.ls = some s ∧ (s = true ↔ San i) := by
  obtain ⟨op, a, b, c, ls⟩ := i
  obtain ⟨k, rfl⟩ : ∃ j, k = j + 3 := ⟨k - 3, by omega⟩
  unfold instr_Sane.f instr_Kind.f San
  rw [Option.bind_some]
  have hs0 : ∀ a b c d a' b' c' d' : Int, instr_Same.f k a b c d [] a' b' c' d' [] = some (decide (a = a' ∧ b = b' ∧ c = c' ∧ d = d')) := fun a b c d a' b' c' d' => by
    rw [same_eq k _ _ _ _ [] _ _ _ _ _ (by simp; omega) (by omega)]
    exact congrArg some (decide_eq_decide.2 (by simp))
  have hs1 : ∀ a b c d a' b' c' d' : Int, instr_Same.f (k + 1) a b c d [] a' b' c' d' [] = some (decide (a = a' ∧ b = b' ∧ c = c' ∧ d = d')) := fun a b c d a' b' c' d' => by
    rw [same_eq (k + 1) _ _ _ _ [] _ _ _ _ _ (by simp) (by omega)]
    exact congrArg some (decide_eq_decide.2 (by simp))
  simp only [number_eq, Option.bind_some, instr_Sane.j0, instr_Sane.j1, instr_Sane.j2, hs0, hs1, true_and]
  have e1 := kd_in op
  unfold kd at *
  generalize instr_Kind.from spansL op = K at *
  by_cases h1 : Num a
  case neg => exact ⟨false, by simp [h1], by simp [h1]⟩
  by_cases h2 : Num b
  case neg => exact ⟨false, by simp [h2], by simp [h2]⟩
  by_cases h4 : K = 4
  · subst h4
    by_cases h6 : b = 0 ∧ c = 0
    case neg => exact ⟨false, by simp [h1, h2]; intros; simp_all, by simp; intros; simp_all⟩
    obtain ⟨rfl, rfl⟩ := h6
    by_cases h5 : ls.length ≤ 64
    · have e := contains_eq k ls (by omega) (by omega)
      refine ⟨decide (∀ x ∈ ls, Num x), ?_, ?_⟩
      · simp [h1, h2, e, show (ls.length : Int) ≤ 64 by omega]
      · simp [h1, h2, h5]
    · exact ⟨false, by simp [h1, h2, show ¬ (ls.length : Int) ≤ 64 by omega], by simp [h5]⟩
  · rw [if_neg h4]
    by_cases h5 : ls = []
    · subst h5
      rw [if_neg (by simp)]
      rcases e1 with rfl | rfl | rfl | rfl | rfl | rfl | rfl | rfl | rfl | rfl
      · exact ⟨false, by simp [h1, h2], by simp⟩
      · exact ⟨decide (a = 0 ∧ b = 0 ∧ c = 0), by simp [h1, h2], by simp [h1, h2]⟩
      · by_cases h6 : b = 0 ∧ c = 0
        · obtain ⟨rfl, rfl⟩ := h6
          refine ⟨decide (a = 0 ∨ a = 127 ∨ a = 126), ?_, by simp [h1, h2]⟩
          simp [h1, h2]
          by_cases h7 : a = 0
          · simp [h7]
          · by_cases h8 : a = 127
            · simp [h8]
            · simp [h7, h8]
              rfl
        · exact ⟨false, by simp [h1, h2]; intros; simp_all, by simp; intros; simp_all⟩
      · exact ⟨decide (b = 0 ∧ c = 0), by simp [h1, h2], by simp [h1, h2]⟩
      · exact absurd rfl h4
      · exact ⟨decide (b = 0 ∧ c = 0), by simp [h1, h2], by simp [h1, h2]⟩
      · exact ⟨c == 0, by simp [h1, h2], by simp [h1, h2]⟩
      · exact ⟨decide (a = 0 ∧ b = 0 ∧ c = 0), by simp [h1, h2], by simp [h1, h2]⟩
      · by_cases h6 : a = 0 ∧ b = 0
        · obtain ⟨rfl, rfl⟩ := h6
          exact ⟨decide (c ≤ 4294967295), by simp [h1], by simp [h1]⟩
        · exact ⟨false, by simp [h1, h2]; intros; simp_all, by simp; intros; simp_all⟩
      · exact ⟨decide (a = 0 ∧ b = 0), by simp [h1, h2], by simp [h1, h2]⟩
    · rw [if_pos (by have := List.length_pos_iff.2 h5; omega)]
      exact ⟨false, by simp, by simp [h4, h5]⟩
theorem sane_yes {k : Nat} {i : Ins} (hk : 100 ≤ k) (hk' : k ≤ 9223372036854775807) (h : San i) : instr_Sane.f k i.op i.a i.b i.c i.ls = some true := by
  obtain ⟨s, e, hs⟩ := sane_ex k i hk hk'
  rw [e, hs.2 h]
theorem sane_no {k : Nat} {i : Ins} (hk : 100 ≤ k) (hk' : k ≤ 9223372036854775807) (h : ¬ San i) : instr_Sane.f k i.op i.a i.b i.c i.ls = some false := by
  obtain ⟨s, e, hs⟩ := sane_ex k i hk hk'
  cases s with
  | true => exact absurd (hs.1 rfl) h
  | false => exact e
end Go.Proofs.YtklnkkejkeelaaaDoor.X
