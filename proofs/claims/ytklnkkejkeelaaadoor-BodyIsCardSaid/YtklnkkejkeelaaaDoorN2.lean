/- The document's ends against the walk. Plain Lean. -/
import Derived.Test.YtklnkkejkeelaaaDoorN1
import Derived.Test.YtklnkkejkeelaaaDoorT07
set_option linter.unnecessarySimpa false
set_option linter.unusedSimpArgs false
set_option linter.unusedVariables false
set_option autoImplicit false
set_option linter.unusedSimpArgs false
set_option linter.unusedVariables false
namespace Go.Proofs.YtklnkkejkeelaaaDoor.E
open Go.Ev
theorem walkSt_up {l : List TInstr} {k : Nat} {st st' : List Nest} (h : walkSt l k = some st) (h' : walkSt l (k + 1) = some st') :
    (opensB (opAt l k) = true ∧ st' = ((k : Int), -1) :: st) ∨ (opensB (opAt l k) = false ∧ opAt l k ≠ 5 ∧ opAt l k ≠ 11 ∧ st' = st) ∨
    (∃ t, opAt l k = 11 ∧ st = t :: st') ∨ (∃ t r, opAt l k = 5 ∧ st = t :: r ∧ t.2 = -1 ∧ opAt l t.1.toNat = 4 ∧ st' = (t.1, (k : Int)) :: r) := by
  obtain ⟨d, e, hs⟩ := walkSt_step h h'
  rcases stepF_cases hs with ⟨q1, q2, _⟩ | ⟨q1, q2, q3, q4, _⟩ | ⟨t, q1, q2, _⟩ | ⟨t, r, q1, q2, q3, q4, q5, _⟩
  · exact .inl ⟨q1, q2⟩
  · exact .inr (.inl ⟨q1, q2, q3, q4⟩)
  · exact .inr (.inr (.inl ⟨t, q1, q2⟩))
  · exact .inr (.inr (.inr ⟨t, r, q1, q2, q3, by unfold ifAt at q4; exact of_decide_eq_true q4, q5⟩))
theorem walkSt_zero (l : List TInstr) : walkSt l 0 = some [] := rfl
theorem opens5' : opensB 5 = false := rfl
theorem opens11' : opensB 11 = false := rfl
/-- The scan from what opens at j is where the walk is. -/
theorem scan_walk {l : List TInstr} {j : Nat} {base : List Nest} (hb : walkSt l j = some base) (ho : opensB (opAt l j) = true) : ∀ m, j + 1 ≤ m → m ≤ l.length → (∀ i, j < i → i ≤ m → inBlk l j base i) →
    ∀ inner o, walkSt l m = some (inner ++ ((j : Int), o) :: base) → endF l j = endGo (opAt l) j (l.length - m) m inner.length o := by
  intro m
  induction m with
  | zero => intro h; omega
  | succ m ih =>
    intro h1 h2 hin inner' o' hst'
    by_cases e : m = j
    · subst e
      have hst1 : walkSt l (m + 1) = some (((m : Int), -1) :: base) := by
        rw [walkSt_succ hb, stepF_open ho]; rfl
      rw [hst1] at hst'
      have hst' := Option.some.inj hst'
      have hl := congrArg List.length hst'
      simp only [List.length_append, List.length_cons] at hl
      have : inner' = [] := List.length_eq_zero_iff.1 (by omega)
      subst this
      simp only [List.nil_append, List.cons.injEq, Prod.mk.injEq] at hst'
      rw [← hst'.1.2]
      rfl
    · obtain ⟨inner, o, hst⟩ := hin m (by omega) (by omega)
      have ih := ih (by omega) (by omega) (fun i a b => hin i a (by omega)) inner o hst
      obtain ⟨jj, hjj⟩ : ∃ jj, l.length - m = jj + 1 := ⟨l.length - m - 1, by omega⟩
      have hjj' : l.length - (m + 1) = jj := by omega
      rw [ih, hjj, hjj']
      rcases walkSt_up hst hst' with ⟨q1, q2⟩ | ⟨q1, q2, q3, q4⟩ | ⟨t, q1, q2⟩ | ⟨t, r, q1, q2, q3, q4, q5⟩
      · rw [endGo_open q1]
        have q2 : inner' ++ ((j : Int), o') :: base = (((m : Int), -1) :: inner) ++ ((j : Int), o) :: base := q2
        obtain ⟨e1, e2⟩ := List.append_inj q2 (by have := congrArg List.length q2; simp only [List.length_append, List.length_cons] at this ⊢; omega)
        simp only [List.cons.injEq, Prod.mk.injEq, true_and, and_true] at e2
        rw [e1, e2, List.length_cons]
        rfl
      · rw [endGo_plain q1 q2 q3]
        obtain ⟨e1, e2⟩ := List.append_inj q4 (by have := congrArg List.length q4; simp only [List.length_append, List.length_cons] at this ⊢; omega)
        simp only [List.cons.injEq, Prod.mk.injEq, true_and, and_true] at e2
        rw [e1, e2]
      · cases inner with
        | nil =>
          exfalso
          have := congrArg List.length q2
          simp only [List.nil_append, List.length_append, List.length_cons] at this
          omega
        | cons t0 inner =>
          have q2 : t0 :: (inner ++ ((j : Int), o) :: base) = t :: (inner' ++ ((j : Int), o') :: base) := q2
          simp only [List.cons.injEq] at q2
          obtain ⟨e1, e2⟩ := List.append_inj q2.2 (by have := congrArg List.length q2.2; simp only [List.length_append, List.length_cons] at this ⊢; omega)
          simp only [List.cons.injEq, Prod.mk.injEq, true_and, and_true] at e2
          rw [endGo_end2 q1 (by simp only [List.length_cons]; omega), e1, e2, List.length_cons]
          congr 1
          omega
      · cases inner with
        | nil =>
          simp only [List.nil_append, List.cons.injEq] at q2
          obtain ⟨rfl, rfl⟩ := q2
          simp only at q3 q4 q5
          rw [Int.toNat_natCast] at q4
          have hl := congrArg List.length q5
          simp only [List.length_append, List.length_cons] at hl
          have : inner' = [] := List.length_eq_zero_iff.1 (by omega)
          subst this
          simp only [List.nil_append, List.cons.injEq, Prod.mk.injEq, true_and, and_true] at q5
          rw [q5]
          exact endGo_else q1 rfl (by omega) q4
        | cons t0 inner =>
          have q2 : t0 :: (inner ++ ((j : Int), o) :: base) = t :: r := q2
          simp only [List.cons.injEq] at q2
          obtain ⟨rfl, rfl⟩ := q2
          have q5 : inner' ++ ((j : Int), o') :: base = ((t0.1, (m : Int)) :: inner) ++ ((j : Int), o) :: base := q5
          obtain ⟨e1, e2⟩ := List.append_inj q5 (by have := congrArg List.length q5; simp only [List.length_append, List.length_cons] at this ⊢; omega)
          simp only [List.cons.injEq, Prod.mk.injEq, true_and, and_true] at e2
          rw [endGo_else2 q1 (by simp only [List.length_cons]; omega), e1, e2]
          rfl
/-- The block of place j ends at e, with the else o. -/
def EndAt (l : List TInstr) (j : Nat) (o : Int) (e : Nat) : Prop := opAt l e = 11 ∧ ∃ base, walkSt l e = some (((j : Int), o) :: base)
theorem walkG_any {σ : Type} (tell : Nat → Int → Nest → σ → σ) (s0 : σ) {l : List TInstr} {k : Nat} {st : List Nest} (h : walkSt l k = some st) : ∃ s, walkG tell s0 l k = some (st, s) := by
  have := walkG_st tell s0 l k
  rw [h] at this
  cases hw : walkG tell s0 l k with
  | none => rw [hw] at this; cases this
  | some p =>
    rw [hw] at this
    obtain ⟨a, b⟩ := p
    simp only [Option.map_some, Option.some.injEq] at this
    subst this
    exact ⟨b, rfl⟩
/-- What opened is open still, or has ended. -/
theorem open_or {l : List TInstr} {j k : Nat} (hjk : j < k) (hk : k ≤ l.length) {st : List Nest} (hst : walkSt l k = some st) (ho : opensB (opAt l j) = true) {base : List Nest} (hb : walkSt l j = some base) :
    ((∃ inner o, st = inner ++ ((j : Int), o) :: base) ∧ ∀ m, j < m → m ≤ k → inBlk l j base m) ∨ ((∀ p ∈ st, p.1 ≠ j) ∧ ∃ (e : Nat) (o : Int), j < e ∧ e < k ∧ opAt l e = 11 ∧ walkSt l e = some (((j : Int), o) :: base) ∧ elseIs l j base e o ∧ ∀ m, j < m → m ≤ e → inBlk l j base m) := by
  obtain ⟨M, hM⟩ := walkG_any (tellM l) (List.replicate l.length (-1, -1)) hst
  rcases (winv l k hk st M hM).all j hjk ho base hb with ⟨inner, o, h1, h2, h3⟩ | ⟨h1, h2⟩
  · exact .inl ⟨⟨inner, o, h1⟩, h3⟩
  · obtain ⟨e, o, g1, g2, g3, g4, g5, g6, g7⟩ := h2.ex
    exact .inr ⟨h1, e, o, g1, g2, g3, g4, g6, g7⟩
/-- Where a block ends, the document finds its end. -/
theorem end_of {l : List TInstr} {j e : Nat} {o : Int} {base : List Nest} (hb : walkSt l j = some base) (ho : opensB (opAt l j) = true) (h1 : j < e) (h2 : e < l.length) (h3 : opAt l e = 11) (h4 : walkSt l e = some (((j : Int), o) :: base)) (h5 : ∀ m, j < m → m ≤ e → inBlk l j base m) : endF l j = ((e : Int), o) := by
  rw [scan_walk hb ho e h1 (by omega) h5 [] o h4]
  obtain ⟨jj, hjj⟩ : ∃ jj, l.length - e = jj + 1 := ⟨l.length - e - 1, by omega⟩
  rw [hjj]
  exact endGo_end h3 rfl
/-- What the scan tells. -/
theorem endGo_range (f : Nat → Int) (a : Nat) : ∀ (j k : Nat) (deep other : Int), (other = -1 ∨ ∃ m : Nat, other = m ∧ a < m ∧ m < k ∧ f m = 5) → a < k → (endGo f a j k deep other = (-1, -1)) ∨
    ∃ (e : Nat) (o : Int), endGo f a j k deep other = ((e : Int), o) ∧ k ≤ e ∧ e < k + j ∧ f e = 11 ∧ (o = -1 ∨ ∃ m : Nat, o = m ∧ a < m ∧ m < e ∧ f m = 5)
  | 0, k, deep, other, ho, ha => .inl rfl
  | j + 1, k, deep, other, ho, ha => by
    have up : (other = -1 ∨ ∃ m : Nat, other = m ∧ a < m ∧ m < k + 1 ∧ f m = 5) := ho.imp id (fun ⟨m, h1, h2, h3, h4⟩ => ⟨m, h1, h2, by omega, h4⟩)
    have next : ∀ d o' : Int, (o' = -1 ∨ ∃ m : Nat, o' = m ∧ a < m ∧ m < k + 1 ∧ f m = 5) → endGo f a (j + 1) k deep other = endGo f a j (k + 1) d o' → (endGo f a (j + 1) k deep other = (-1, -1)) ∨ ∃ (e : Nat) (o : Int), endGo f a (j + 1) k deep other = ((e : Int), o) ∧ k ≤ e ∧ e < k + (j + 1) ∧ f e = 11 ∧ (o = -1 ∨ ∃ m : Nat, o = m ∧ a < m ∧ m < e ∧ f m = 5) := fun d o' h1 h2 => by
      rw [h2]
      rcases endGo_range f a j (k + 1) d o' h1 (by omega) with h | ⟨e, o, g1, g2, g3, g4⟩
      · exact .inl h
      · exact .inr ⟨e, o, g1, by omega, by omega, g4⟩
    by_cases c0 : opensB (f k) = true
    · exact next _ _ up (endGo_open c0)
    · have c0' : opensB (f k) = false := by simpa using c0
      by_cases c5 : f k = 5
      · by_cases d0 : deep = 0
        · by_cases q : 0 ≤ other ∨ f a ≠ 4
          · exact .inl (endGo_twice c5 d0 q)
          · exact next _ _ (.inr ⟨k, rfl, ha, by omega, c5⟩) (endGo_else c5 d0 (fun h => q (.inl h)) (Decidable.not_not.1 fun h => q (.inr h)))
        · exact next _ _ up (endGo_else2 c5 d0)
      · by_cases c11 : f k = 11
        · by_cases d0 : deep = 0
          · exact .inr ⟨k, other, endGo_end c11 d0, Nat.le_refl _, by omega, c11, ho⟩
          · exact next _ _ up (endGo_end2 c11 d0)
        · exact next _ _ up (endGo_plain c0' c5 c11)
theorem endF_range (l : List TInstr) {a : Nat} (ha : a < l.length) : endF l a = (-1, -1) ∨ ∃ (e : Nat) (o : Int), endF l a = ((e : Int), o) ∧ a < e ∧ e < l.length ∧ opAt l e = 11 ∧ (o = -1 ∨ ∃ m : Nat, o = m ∧ a < m ∧ m < e ∧ opAt l m = 5) := by
  rcases endGo_range (opAt l) a (l.length - (a + 1)) (a + 1) 0 (-1) (.inl rfl) (by omega) with h | ⟨e, o, h1, h2, h3, h4⟩
  · exact .inl h
  · exact .inr ⟨e, o, h1, by omega, by omega, h4⟩
theorem walkSt_before {l : List TInstr} : ∀ (d k : Nat) (st' : List Nest), walkSt l (k + d) = some st' → ∃ st'', walkSt l k = some st'' := by
  intro d
  induction d with
  | zero => intro k st' h; exact ⟨st', h⟩
  | succ d ihd =>
    intro k st' h
    obtain ⟨s, hs⟩ := walkSt_back (k := k + d) h
    exact ihd k s hs
/-- If each block's end is found, and each end and else is one's, all nests. -/
theorem walkOk_by {l : List TInstr} (he : ∀ j, j < l.length → opensB (opAt l j) = true → 0 ≤ (endF l j).1)
    (hu : ∀ m, m < l.length → (opAt l m = 5 ∨ opAt l m = 11) → ∃ j, j < l.length ∧ opensB (opAt l j) = true ∧ ((endF l j).1 = m ∨ (endF l j).2 = m)) : walkOk l = true := by
  have hall : ∀ m, m ≤ l.length → ∃ st, walkSt l m = some st := by
    intro m
    induction m with
    | zero => intro _; exact ⟨[], rfl⟩
    | succ m ih =>
      intro hm
      obtain ⟨st, hst⟩ := ih (by omega)
      have none_at : (opAt l m = 5 ∨ opAt l m = 11) → st ≠ [] := by
        rintro h5 rfl
        obtain ⟨j, hj, ho, hjm⟩ := hu m (by omega) h5
        -- the block of j: it lies ahead
        rcases endF_range l hj with h | ⟨e, o, g1, g2, g3, g4, g5⟩
        · have := he j hj ho
          rw [h] at this
          simp at this
        · rw [g1] at hjm
          simp only at hjm
          have hjm2 : j < m := by
            rcases hjm with h | h
            · omega
            · rcases g5 with h' | ⟨m', h1, h2, h3, h4⟩
              · omega
              · omega
          obtain ⟨base, hb⟩ : ∃ base, walkSt l j = some base := by
            exact walkSt_before (m - j) j [] (by rw [show j + (m - j) = m by omega]; exact hst)
          rcases open_or hjm2 (by omega) hst ho hb with ⟨⟨inner, o', h⟩, _⟩ | ⟨_, e', o', q1, q2, q3, q4, q5, q6⟩
          · cases inner <;> simp at h
          · have := end_of hb ho q1 (by omega) q3 q4 q6
            rw [this] at g1
            simp only [Prod.mk.injEq] at g1
            rcases hjm with h | h
            · omega
            · rcases g5 with h' | ⟨m', h1, h2, h3, h4⟩
              · omega
              · omega
      rw [walkSt_succ hst]
      by_cases c0 : opensB (opAt l m) = true
      · exact ⟨_, by rw [stepF_open c0]; rfl⟩
      · have c0' : opensB (opAt l m) = false := by simpa using c0
        by_cases c5 : opAt l m = 5
        · cases st with
          | nil => exact absurd rfl (none_at (.inl c5))
          | cons t r =>
            by_cases ht : t.2 = -1 ∧ ifAt l t.1 = true
            · exact ⟨_, by rw [c5, stepF_else t ht]; rfl⟩
            · exfalso
              obtain ⟨a, b⟩ := t
              have hin := walkSt_in hst (a, b) (by simp)
              unfold nestIn at hin
              have hin : 0 ≤ a ∧ a < (m : Int) ∧ (b = -1 ∨ (0 ≤ b ∧ b < (m : Int) ∧ a ≠ b)) := hin
              obtain ⟨j, rfl⟩ : ∃ j : Nat, a = j := ⟨a.toNat, by omega⟩
              obtain ⟨M, hM⟩ := walkG_any (tellM l) (List.replicate l.length (-1, -1)) hst
              have ho := ((winv l m (by omega) _ M hM).op ((j : Int), b) (by simp)).1
              simp only [Int.toNat_natCast] at ho
              obtain ⟨base, hb⟩ : ∃ base, walkSt l j = some base := by
                exact walkSt_before (m - j) j _ (by rw [show j + (m - j) = m by omega]; exact hst)
              rcases open_or (show j < m by omega) (by omega) hst ho hb with ⟨⟨inner, o', h⟩, h7⟩ | ⟨h, _⟩
              · have hinner : inner = [] := by
                  cases inner with
                  | nil => rfl
                  | cons p inner =>
                    exfalso
                    simp only [List.cons_append, List.cons.injEq] at h
                    have hs := walkSt_sorted hst
                    rw [h.2, ← List.cons_append] at hs
                    have := List.pairwise_cons.1 hs
                    have := this.1 ((j : Int), o') (by show _ ∈ inner ++ _; simp)
                    simp at this
                subst hinner
                simp only [List.nil_append, List.cons.injEq, Prod.mk.injEq, true_and] at h
                obtain ⟨rfl, rfl⟩ := h
                have hsc := scan_walk hb ho m (by omega) (by omega) h7 [] b hst
                obtain ⟨jj, hjj⟩ : ∃ jj, l.length - m = jj + 1 := ⟨l.length - m - 1, by omega⟩
                have hif : ifAt l (j : Int) = decide (opAt l j = 4) := by unfold ifAt; rw [Int.toNat_natCast]
                have hz : endGo (opAt l) j (jj + 1) m ((([] : List Nest).length : Nat) : Int) b = (-1, -1) := endGo_twice c5 rfl (by
                  by_cases q : b = -1
                  · right
                    intro h4
                    exact ht ⟨q, by rw [hif]; simpa using h4⟩
                  · left; omega)
                rw [hjj, hz] at hsc
                have := he j (by omega) ho
                rw [hsc] at this
                simp at this
              · exact absurd rfl (h ((j : Int), b) (by simp))
        · by_cases c11 : opAt l m = 11
          · cases st with
            | nil => exact absurd rfl (none_at (.inr c11))
            | cons t r => exact ⟨_, by rw [c11, stepF_pop]; rfl⟩
          · exact ⟨_, by rw [stepF_plain c0' c5 c11]; rfl⟩
  obtain ⟨st, hst⟩ := hall l.length (Nat.le_refl _)
  have hst2 := hst
  unfold walkOk
  rw [hst]
  cases st with
  | nil => rfl
  | cons t r =>
    exfalso
    obtain ⟨a, b⟩ := t
    have hin := walkSt_in hst (a, b) (by simp)
    unfold nestIn at hin
    have hin : 0 ≤ a ∧ a < (l.length : Int) ∧ (b = -1 ∨ (0 ≤ b ∧ b < (l.length : Int) ∧ a ≠ b)) := hin
    obtain ⟨j, rfl⟩ : ∃ j : Nat, a = j := ⟨a.toNat, by omega⟩
    obtain ⟨M, hM⟩ := walkG_any (tellM l) (List.replicate l.length (-1, -1)) hst
    have ho := ((winv l l.length (Nat.le_refl _) _ M hM).op ((j : Int), b) (by simp)).1
    simp only [Int.toNat_natCast] at ho
    obtain ⟨base, hb⟩ := hall j (by omega)
    rcases open_or (show j < l.length by omega) (Nat.le_refl _) hst ho hb with ⟨⟨inner, o', h⟩, h7⟩ | ⟨h, _⟩
    · rw [h] at hst
      have hsc := scan_walk hb ho l.length (by omega) (Nat.le_refl _) h7 inner o' hst
      rw [Nat.sub_self] at hsc
      have := he j (by omega) ho
      rw [hsc] at this
      simp [endGo] at this
    · exact absurd rfl (h ((j : Int), b) (by simp))
end Go.Proofs.YtklnkkejkeelaaaDoor.E
