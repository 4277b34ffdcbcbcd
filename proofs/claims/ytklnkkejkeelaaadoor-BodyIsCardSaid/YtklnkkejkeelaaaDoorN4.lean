/- The document's matches: as the walk's. Plain Lean. -/
import Derived.Test.YtklnkkejkeelaaaDoorN3
set_option linter.unnecessarySimpa false
set_option linter.unusedSimpArgs false
set_option linter.unusedVariables false
set_option autoImplicit false
set_option linter.unusedSimpArgs false
set_option linter.unusedVariables false
namespace Go.Proofs.YtklnkkejkeelaaaDoor.E
open Go.Ev
/-- One more that opens: where its parts are, and what is one's. -/
def rmPut (k : Nat) (r : Int × Int) (M : List Nest) : List Nest := if 0 ≤ r.2 then (M.set k (r.2, r.1)).set r.2.toNat (-1, r.1) else M.set k (r.2, r.1)
def rmUse (r : Int × Int) (U : List Bool) : List Bool := if 0 ≤ r.2 then (U.set r.1.toNat true).set r.2.toNat true else U.set r.1.toNat true
def rmGo (l : List TInstr) : Nat → Nat → List Nest → List Bool → Option (List Nest × List Bool)
  | 0, _, M, U => some (M, U)
  | j + 1, k, M, U => if opensB (opAt l k) then (if (endF l k).1 < 0 then none else rmGo l j (k + 1) (rmPut k (endF l k) M) (rmUse (endF l k) U)) else rmGo l j (k + 1) M U
def notUsed (l : List TInstr) (U : List Bool) (k : Nat) : Bool := (decide (opAt l k = 5) || decide (opAt l k = 11)) && !(U.getD k false)
def rMatches (l : List TInstr) : Option (List Nest) := match rmGo l l.length 0 (List.replicate l.length (-1, -1)) (List.replicate l.length false) with
  | none => none
  | some (M, U) => match first (notUsed l U) 0 l.length with
    | none => some M
    | some _ => none
theorem rmPut_len (k : Nat) (r : Int × Int) (M : List Nest) : (rmPut k r M).length = M.length := by unfold rmPut; split <;> simp
theorem rmUse_len (r : Int × Int) (U : List Bool) : (rmUse r U).length = U.length := by unfold rmUse; split <;> simp
theorem getD_set_ne {α : Type} {L : List α} {i k : Nat} {x d : α} (h : i ≠ k) : (L.set k x).getD i d = L.getD i d := by
  simp only [List.getD_eq_getElem?_getD, List.getElem?_set_ne (Ne.symm h)]
theorem getD_set_self {α : Type} {L : List α} {k : Nat} {x d : α} (h : k < L.length) : (L.set k x).getD k d = x := by
  simp [List.getD_eq_getElem?_getD, h]
theorem rmUse_get {r : Int × Int} {U : List Bool} {m : Nat} (h : (rmUse r U).getD m false = true) : U.getD m false = true ∨ (0 ≤ r.1 ∧ r.1 = m) ∨ r.1.toNat = m ∨ r.2 = m := by
  unfold rmUse at h
  split at h
  · by_cases h1 : m = r.2.toNat
    · right; right; right; omega
    · rw [getD_set_ne h1] at h
      by_cases h2 : m = r.1.toNat
      · right; right; left; exact h2.symm
      · rw [getD_set_ne h2] at h; exact .inl h
  · by_cases h2 : m = r.1.toNat
    · right; right; left; exact h2.symm
    · rw [getD_set_ne h2] at h; exact .inl h
theorem rmGo_inv (l : List TInstr) : ∀ (j k : Nat) (M : List Nest) (U : List Bool) (M' : List Nest) (U' : List Bool), k + j = l.length → M.length = l.length → U.length = l.length →
    (∀ m, U.getD m false = true → ∃ i, i < l.length ∧ opensB (opAt l i) = true ∧ ((endF l i).1 = m ∨ (endF l i).2 = m)) → (∀ i, i < k → opensB (opAt l i) = true → 0 ≤ (endF l i).1) → rmGo l j k M U = some (M', U') →
    M'.length = l.length ∧ U'.length = l.length ∧ (∀ m, U'.getD m false = true → ∃ i, i < l.length ∧ opensB (opAt l i) = true ∧ ((endF l i).1 = m ∨ (endF l i).2 = m)) ∧ (∀ i, i < l.length → opensB (opAt l i) = true → 0 ≤ (endF l i).1)
  | 0, k, M, U, M', U', hk, hM, hU, h1, h2, h => by
    simp only [rmGo, Option.some.injEq, Prod.mk.injEq] at h
    obtain ⟨rfl, rfl⟩ := h
    exact ⟨hM, hU, h1, fun i hi ho => h2 i (by omega) ho⟩
  | j + 1, k, M, U, M', U', hk, hM, hU, h1, h2, h => by
    rw [rmGo] at h
    by_cases ho : opensB (opAt l k) = true
    · rw [if_pos ho] at h
      by_cases he : (endF l k).1 < 0
      · rw [if_pos he] at h; cases h
      · rw [if_neg he] at h
        refine rmGo_inv l j (k + 1) _ _ M' U' (by omega) (by rw [rmPut_len]; exact hM) (by rw [rmUse_len]; exact hU) (fun m hm => ?_) (fun i hi hoi => ?_) h
        · rcases rmUse_get hm with q | q | q | q
          · exact h1 m q
          · exact ⟨k, by omega, ho, .inl q.2⟩
          · exact ⟨k, by omega, ho, .inl (by omega)⟩
          · exact ⟨k, by omega, ho, .inr q⟩
        · by_cases e : i = k
          · subst e; omega
          · exact h2 i (by omega) hoi
    · rw [if_neg ho] at h
      refine rmGo_inv l j (k + 1) M U M' U' (by omega) hM hU h1 (fun i hi hoi => ?_) h
      by_cases e : i = k
      · subst e; exact absurd hoi ho
      · exact h2 i (by omega) hoi
theorem rMatches_conv {l : List TInstr} {M : List Nest} (h : rMatches l = some M) : walkOk l = true := by
  unfold rMatches at h
  split at h
  · cases h
  · rename_i M' U' hg
    split at h
    · rename_i hf
      obtain ⟨h1, h2, h3, h4⟩ := rmGo_inv l l.length 0 _ _ M' U' (by omega) (by simp) (by simp) (fun m hm => by
        simp only [List.getD_eq_getElem?_getD, List.getElem?_replicate] at hm
        split at hm <;> cases hm) (fun i hi => by omega) hg
      refine walkOk_by h4 (fun m hm h5 => ?_)
      have := first_none.1 hf m (by omega) (by omega)
      unfold notUsed at this
      have hu : U'.getD m false = true := by
        cases hq : U'.getD m false with
        | true => rfl
        | false => rw [hq] at this; rcases h5 with h5 | h5 <;> simp [h5] at this
      exact h3 m hu
    · cases h
section
variable {l : List TInstr} (h : walkOk l = true)
include h
/-- What M holds when the places ahead of k are told. -/
def mid (l : List TInstr) (k i : Nat) : Prop := (i < k ∧ opensB (opAt l i) = true) ∨ ∃ j, j < k ∧ opensB (opAt l j) = true ∧ (endF l j).2 = i
theorem rmGo_ok : ∀ (j k : Nat) (M : List Nest) (U : List Bool), k + j = l.length → M.length = l.length → U.length = l.length →
    (∀ i, i < l.length → (mid l k i → M.getD i n0 = (matchesF l).getD i n0) ∧ (¬ mid l k i → M.getD i n0 = (-1, -1))) →
    (∀ i, i < k → opensB (opAt l i) = true → ∀ m : Nat, ((endF l i).1 = m ∨ (endF l i).2 = m) → U.getD m false = true) →
    ∃ U', rmGo l j k M U = some (matchesF l, U') ∧ ∀ i, i < l.length → opensB (opAt l i) = true → ∀ m : Nat, ((endF l i).1 = m ∨ (endF l i).2 = m) → U'.getD m false = true
  | 0, k, M, U, hk, hM, hU, h1, h2 => by
    have e : M = matchesF l := by
      have hml := matchesF_len l h
      apply List.ext_getElem (by omega)
      intro i a b
      have hi : i < l.length := by omega
      have hg : M.getD i n0 = (matchesF l).getD i n0 := by
        by_cases hm : mid l k i
        · exact (h1 i hi).1 hm
        · rw [(h1 i hi).2 hm]
          refine (match_rest h ?_ (fun j hj ho e => hm (.inr ⟨j, by omega, ho, e⟩))).symm
          cases hq : opensB (opAt l i) with
          | false => rfl
          | true => exact absurd (.inl ⟨by omega, hq⟩) hm
      simpa [List.getD_eq_getElem?_getD, a, b] using hg
    rw [rmGo, e]
    exact ⟨U, rfl, fun i hi ho m hm => h2 i (by omega) ho m hm⟩
  | j + 1, k, M, U, hk, hM, hU, h1, h2 => by
    rw [rmGo]
    by_cases ho : opensB (opAt l k) = true
    · rw [if_pos ho]
      obtain ⟨e, o, g1, g2, g3, g4, g5⟩ := end_is h (show k < l.length by omega) ho
      have hf := endAt_facts g3 g4
      rw [if_neg (by rw [g1]; show ¬ (e : Int) < 0; omega)]
      -- the else's place
      have hom : o = -1 ∨ ∃ m : Nat, o = m ∧ k < m ∧ m < l.length ∧ opAt l m = 5 := by
        obtain ⟨_, _, _, _, _, _, q⟩ := hf
        exact q.imp id (fun ⟨m, a1, a2, a3, a4, _⟩ => ⟨m, a1, a2, by omega, a4⟩)
      clear hf
      refine rmGo_ok j (k + 1) _ _ (by omega) (by rw [rmPut_len]; exact hM) (by rw [rmUse_len]; exact hU) (fun i hi => ?_) (fun i hi hoi m hm => ?_)
      · rw [g1]
        unfold rmPut
        simp only
        rcases hom with rfl | ⟨m, rfl, m1, m2, m3⟩
        · rw [if_neg (by decide)]
          by_cases e1 : i = k
          · subst e1
            rw [getD_set_self (by omega), g5]
            exact ⟨fun _ => rfl, fun hn => absurd (.inl ⟨by omega, ho⟩) hn⟩
          · rw [getD_set_ne e1]
            have : mid l (k + 1) i ↔ mid l k i := by
              unfold mid
              constructor
              · rintro (⟨a, b⟩ | ⟨jj, a, b, c⟩)
                · exact .inl ⟨by omega, b⟩
                · by_cases ej : jj = k
                  · subst ej; rw [g1] at c; simp only at c; omega
                  · exact .inr ⟨jj, by omega, b, c⟩
              · rintro (⟨a, b⟩ | ⟨jj, a, b, c⟩)
                · exact .inl ⟨by omega, b⟩
                · exact .inr ⟨jj, by omega, b, c⟩
            rw [this]
            exact h1 i hi
        · rw [if_pos (by omega), Int.toNat_natCast]
          by_cases e2 : i = m
          · subst e2
            rw [getD_set_self (by simp; omega), match_else h (show k < l.length by omega) ho g1]
            exact ⟨fun _ => rfl, fun hn => absurd (.inr ⟨k, by omega, ho, by rw [g1]⟩) hn⟩
          · rw [getD_set_ne e2]
            by_cases e1 : i = k
            · subst e1
              rw [getD_set_self (by omega), g5]
              exact ⟨fun _ => rfl, fun hn => absurd (.inl ⟨by omega, ho⟩) hn⟩
            · rw [getD_set_ne e1]
              have : mid l (k + 1) i ↔ mid l k i := by
                unfold mid
                constructor
                · rintro (⟨a, b⟩ | ⟨jj, a, b, c⟩)
                  · exact .inl ⟨by omega, b⟩
                  · by_cases ej : jj = k
                    · subst ej; rw [g1] at c; simp only at c; omega
                    · exact .inr ⟨jj, by omega, b, c⟩
                · rintro (⟨a, b⟩ | ⟨jj, a, b, c⟩)
                  · exact .inl ⟨by omega, b⟩
                  · exact .inr ⟨jj, by omega, b, c⟩
              rw [this]
              exact h1 i hi
      · rw [g1]
        unfold rmUse
        simp only [Int.toNat_natCast]
        by_cases ei : i = k
        · subst ei
          rw [g1] at hm
          simp only at hm
          rcases hom with rfl | ⟨m', rfl, m1, m2, m3⟩
          · rw [if_neg (by decide)]
            obtain rfl : e = m := by omega
            exact getD_set_self (by omega)
          · rw [if_pos (by omega), Int.toNat_natCast]
            by_cases e2 : m = m'
            · subst e2; exact getD_set_self (by simp; omega)
            · rw [getD_set_ne e2]
              obtain rfl : e = m := by omega
              exact getD_set_self (by omega)
        · have := h2 i (by omega) hoi m hm
          split
          · by_cases e2 : m = o.toNat
            · subst e2; rename_i q
              rcases hom with rfl | ⟨m', rfl, m1, m2, m3⟩
              · omega
              · rw [Int.toNat_natCast]; exact getD_set_self (by simp; omega)
            · rw [getD_set_ne e2]
              by_cases e3 : m = e
              · subst e3; exact getD_set_self (by omega)
              · rw [getD_set_ne e3]; exact this
          · by_cases e3 : m = e
            · subst e3; exact getD_set_self (by omega)
            · rw [getD_set_ne e3]; exact this
    · rw [if_neg ho]
      refine rmGo_ok j (k + 1) M U (by omega) hM hU (fun i hi => ?_) (fun i hi hoi m hm => ?_)
      · have : mid l (k + 1) i ↔ mid l k i := by
          unfold mid
          constructor
          · rintro (⟨a, b⟩ | ⟨jj, a, b, c⟩)
            · by_cases e : i = k
              · subst e; exact absurd b ho
              · exact .inl ⟨by omega, b⟩
            · by_cases ej : jj = k
              · subst ej; exact absurd b ho
              · exact .inr ⟨jj, by omega, b, c⟩
          · rintro (⟨a, b⟩ | ⟨jj, a, b, c⟩)
            · exact .inl ⟨by omega, b⟩
            · exact .inr ⟨jj, by omega, b, c⟩
        rw [this]
        exact h1 i hi
      · by_cases e : i = k
        · subst e; exact absurd hoi ho
        · exact h2 i (by omega) hoi m hm
theorem rMatches_ok : rMatches l = some (matchesF l) := by
  obtain ⟨U', h1, h2⟩ := rmGo_ok h l.length 0 (List.replicate l.length (-1, -1)) (List.replicate l.length false) (by omega) (by simp) (by simp) (fun i hi => ⟨fun q => by
    rcases q with ⟨a, _⟩ | ⟨j, a, _⟩ <;> omega, fun _ => by simp [List.getD_eq_getElem?_getD, hi]⟩) (fun i hi => by omega)
  unfold rMatches
  rw [h1]
  simp only
  have : first (notUsed l U') 0 l.length = none := first_none.2 fun m _ hm => by
    unfold notUsed
    by_cases h5 : opAt l m = 5 ∨ opAt l m = 11
    · obtain ⟨j, a, b, c⟩ := used_all h (show m < l.length by omega) h5
      rw [h2 j a b m c]
      simp
    · simp only [not_or] at h5
      simp [h5.1, h5.2]
  rw [this]
end
theorem rMatches_is (l : List TInstr) : rMatches l = if walkOk l = true then some (matchesF l) else none := by
  by_cases h : walkOk l = true
  · rw [if_pos h, rMatches_ok h]
  · rw [if_neg h]
    cases hm : rMatches l with
    | none => rfl
    | some M => exact absurd (rMatches_conv hm) h
end Go.Proofs.YtklnkkejkeelaaaDoor.E
