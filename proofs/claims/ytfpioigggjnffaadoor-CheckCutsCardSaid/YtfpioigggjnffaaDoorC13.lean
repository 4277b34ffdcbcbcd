/- C13, C14. -/
import Derived.Test.YtfpioigggjnffaaDoorQ8
import Derived.Test.YtfpioigggjnffaaDoorQ17
set_option linter.unnecessarySimpa false
set_option linter.unusedSimpArgs false
set_option linter.unusedVariables false
/- Chapter 10, plain: a body cut off has the path cut off. -/
set_option autoImplicit false
namespace Go.Proofs.YtfpioigggjnffaaDoor.E
open Go.Ev
variable {sane : TInstr → Bool} {acc : Int → Int × Int × Bool} {shape : Int → Option (List Int × Int)} {env : TEnv}

theorem pathS_take {s : Stk} {l : List TInstr} {p : List Stk} (e : pathS sane acc shape env s l = .ok p) (k : Nat) : pathS sane acc shape env s (l.take k) = .ok (p.take (k + 1)) := by
  induction l generalizing s p k with
  | nil => cases e; simp [pathS]
  | cons i l ih =>
    obtain ⟨s', q, hs, hq, rfl⟩ := pathS_cons e
    cases k with
    | zero => simp [pathS]
    | succ k =>
      simp only [List.take_succ_cons, pathS, hs]
      rw [ih hq k]
/-- CheckCuts, plain: the last stack of what is cut off, and one step more. -/
theorem cut_last {s : Stk} {l : List TInstr} {p : List Stk} (e : pathS sane acc shape env s l = .ok p) {k : Nat} (hk : k ≤ l.length) :
    (p.take (k + 1)).length = k + 1 ∧ (p.take (k + 1))[k]? = p[k]? ∧ ∀ i, l[k]? = some i → ∃ a b, p[k]? = some a ∧ p[k + 1]? = some b ∧ stepS sane acc shape env a i = .ok b := by
  have hl := pathS_len e
  refine ⟨by rw [List.length_take, hl]; omega, by rw [List.getElem?_take]; simp, (pathS_at e).2 k⟩
end Go.Proofs.YtfpioigggjnffaaDoor.E

/- Chapter 10, plain: what is cut off where nothing is open is nested as it should. -/
set_option autoImplicit false
namespace Go.Proofs.YtfpioigggjnffaaDoor.E
open Go.Ev

theorem opAt_take {l : List TInstr} {k j : Nat} (hj : j < k) : opAt (l.take k) j = opAt l j := by
  unfold opAt
  rw [List.getD_eq_getElem?_getD, List.getD_eq_getElem?_getD, List.getElem?_take, if_pos hj]
theorem stepF_take {l : List TInstr} {k j : Nat} {st : List Nest} {op : Int} (hst : ∀ p ∈ st, nestIn j p) (hj : j ≤ k) : stepF (l.take k) st j op = stepF l st j op := by
  unfold stepF
  cases st with
  | nil => rfl
  | cons t r =>
    have ht := hst t (List.mem_cons_self ..)
    have hif : ifAt (l.take k) t.1 = ifAt l t.1 := by
      have h1 := ht.1
      have h2 := ht.2.1
      have hh : opAt (l.take k) t.1.toNat = opAt l t.1.toNat := opAt_take (by omega)
      unfold opAt at hh
      unfold ifAt
      rw [List.getD_eq_getElem?_getD, List.getD_eq_getElem?_getD, List.getElem?_take, if_pos (by omega)]
    simp only [hif]
theorem walkSt_take {l : List TInstr} {k : Nat} : ∀ {j : Nat} {st : List Nest}, j ≤ k → walkSt l j = some st → walkSt (l.take k) j = some st
  | 0, st, _, h => by simpa [walkSt, walkG] using h
  | j + 1, st, hj, h => by
    obtain ⟨st0, h0⟩ := walkSt_back h
    have ih := walkSt_take (k := k) (j := j) (by omega) h0
    rw [walkSt_succ ih, stepF_take (walkSt_in h0) (by omega), opAt_take (show j < k by omega), ← walkSt_succ h0]
    exact h
theorem walkOk_take {l : List TInstr} {k : Nat} (hk : k ≤ l.length) (h : walkSt l k = some []) : walkOk (l.take k) = true := by
  unfold walkOk
  rw [List.length_take, Nat.min_eq_left hk, walkSt_take (Nat.le_refl _) h]; rfl
end Go.Proofs.YtfpioigggjnffaaDoor.E
