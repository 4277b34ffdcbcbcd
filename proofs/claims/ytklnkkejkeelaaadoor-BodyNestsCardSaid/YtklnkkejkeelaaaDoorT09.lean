/- Blocks in blocks; as many ends as what they end. Plain Lean. -/
import Derived.Test.YtklnkkejkeelaaaDoorT07
set_option linter.unnecessarySimpa false
set_option linter.unusedSimpArgs false
set_option linter.unusedVariables false
set_option autoImplicit false
set_option linter.unusedSimpArgs false
set_option linter.unusedVariables false
namespace Go.Proofs.YtklnkkejkeelaaaDoor.E
open Go.Ev
/-- How many places ahead of k are so. -/
def cnt (p : Nat → Bool) : Nat → Nat
  | 0 => 0
  | k + 1 => if p k = true then cnt p k + 1 else cnt p k
theorem cnt_le (p : Nat → Bool) : ∀ k, cnt p k ≤ k
  | 0 => Nat.le_refl _
  | k + 1 => by have := cnt_le p k; unfold cnt; split <;> omega
def endB (l : List TInstr) (k : Nat) : Bool := decide (opAt l k = 11)
def openB (l : List TInstr) (k : Nat) : Bool := opensB (opAt l k)
theorem cnt_st (l : List TInstr) : ∀ (k : Nat) (st : List Nest), walkSt l k = some st → cnt (endB l) k + st.length = cnt (openB l) k
  | 0, st, h => by
    simp only [walkSt, walkG, Option.map_some, Option.some.injEq] at h
    subst h; rfl
  | k + 1, st1, h => by
    cases hw : walkG (fun _ _ _ _ => ()) () l k with
    | none =>
      exfalso
      unfold walkSt at h
      simp only [walkG, hw, Option.map_none] at h
      cases h
    | some x =>
      obtain ⟨st, u⟩ := x
      have hst : walkSt l k = some st := by unfold walkSt; rw [hw]; rfl
      have hs := walkSt_succ hst
      rw [h] at hs
      have ih := cnt_st l k st hst
      cases hf : stepF l st k (opAt l k) with
      | none => rw [hf] at hs; cases hs
      | some y =>
        obtain ⟨st', d, e⟩ := y
        rw [hf] at hs
        obtain rfl := Option.some.inj hs
        unfold cnt endB openB
        have e5 : opensB 5 = false := rfl
        have e11 : opensB 11 = false := rfl
        rcases stepF_cases hf with ⟨q, q1, _⟩ | ⟨q, q5, q11, q1, _⟩ | ⟨t, q, q1, _, _⟩ | ⟨t, r, q, q1, _, _, q2, _⟩
        · have n11 : ¬ opAt l k = 11 := fun e => by rw [e] at q; cases q
          simp only [q, n11, if_true, decide_false, Bool.false_eq_true, if_false, q1, List.length_cons]
          unfold endB openB at ih
          omega
        · simp only [q, q11, decide_false, Bool.false_eq_true, if_false, q1]
          unfold endB openB at ih
          omega
        · simp only [q, e11, decide_true, Bool.false_eq_true, if_false, if_true]
          unfold endB openB at ih
          rw [q1] at ih
          simp only [List.length_cons] at ih
          omega
        · have n11 : ¬ (5 : Int) = 11 := by decide
          simp only [q, e5, n11, decide_false, Bool.false_eq_true, if_false, q2, List.length_cons]
          unfold endB openB at ih
          rw [q1] at ih
          simp only [List.length_cons] at ih
          omega
theorem cnt_eq {l : List TInstr} (h : walkOk l = true) : cnt (endB l) l.length = cnt (openB l) l.length := by
  obtain ⟨st, hst⟩ := walkSt_ok h (k := l.length) (Nat.le_refl _)
  have h1 := cnt_st l _ _ hst
  have h2 := hst
  unfold walkSt at h2
  obtain ⟨⟨a, b⟩, h3, h4⟩ := Option.map_eq_some_iff.1 h2
  simp only at h4
  subst h4
  rw [walkOk_of h3] at h
  have : a = [] := by cases a with
    | nil => rfl
    | cons => cases h
  subst this
  simpa using h1
theorem openB_iff (l : List TInstr) (k : Nat) : openB l k = true ↔ 2 ≤ opAt l k ∧ opAt l k ≤ 4 := by
  simp only [openB, opensB, Bool.and_eq_true, decide_eq_true_eq]
/-- Where the parts of what opens at k are. -/
theorem parts {l : List TInstr} (h : walkOk l = true) {k : Nat} (hk : k < l.length) (ho : openB l k = true) :
    ∃ (e : Nat) (o : Int), (matchesF l).getD k n0 = (o, (e : Int)) ∧ k < e ∧ e < l.length ∧ opAt l e = 11 ∧ (o = -1 ∨ ∃ m : Nat, o = m ∧ k < m ∧ m < e ∧ opAt l k = 4) := by
  obtain ⟨base, hb⟩ := walkSt_ok h (k := k) (by omega)
  obtain ⟨e, o, h1, h2, h3, h4, h5, h6, h7⟩ := (all_shut h hk ho hb).ex
  refine ⟨e, o, h5, h1, h2, h3, h6.1.imp id ?_⟩
  rintro ⟨m, m1, m2, m3, m4, m5, _⟩
  exact ⟨m, m1, m2, m3, m5⟩
/-- What opens within another ends within it. -/
theorem nested {l : List TInstr} (h : walkOk l = true) {j k : Nat} (hj : j < k) (hk : k < l.length) (oj : openB l j = true) (ok : openB l k = true) (hek : (k : Int) < ((matchesF l).getD j n0).2) :
    ((matchesF l).getD k n0).2 < ((matchesF l).getD j n0).2 := by
  obtain ⟨bj, hbj⟩ := walkSt_ok h (k := j) (by omega)
  obtain ⟨bk, hbk⟩ := walkSt_ok h (k := k) (by omega)
  obtain ⟨e, o, h1, h2, h3, h4, h5, h6, h7⟩ := (all_shut h (by omega) oj hbj).ex
  obtain ⟨e', o', g1, g2, g3, g4, g5, g6, g7⟩ := (all_shut h hk ok hbk).ex
  rw [h5] at hek ⊢
  rw [g5]
  simp only at hek ⊢
  have hke : k < e := by omega
  obtain ⟨inner, x, hx⟩ := h7 k hj (by omega)
  obtain rfl := Option.some.inj (hbk.symm.trans hx)
  by_cases q : e ≤ e'
  · exfalso
    obtain ⟨inner', y, hy⟩ := g7 e (by omega) q
    rw [h4] at hy
    have := congrArg List.length (Option.some.inj hy)
    simp at this
    omega
  · omega
end Go.Proofs.YtklnkkejkeelaaaDoor.E
