/- A06, P06. -/
import Derived.Test.YtklnkkejkeelaaaDoorF6
import Derived.Test.YtklnkkejkeelaaaDoorF9
set_option linter.unnecessarySimpa false
set_option linter.unusedSimpArgs false
set_option linter.unusedVariables false
/- The reading of chapter 06's awake. -/
set_option autoImplicit false
set_option maxRecDepth 100000
set_option maxHeartbeats 4000000
set_option linter.unusedSimpArgs false
set_option linter.unusedVariables false
set_option pp.maxSteps 20000
namespace Go.Proofs.YtklnkkejkeelaaaDoor.E
open Go.Ev
def ex06 : List TInstr := [⟨2, 0, 0, 0, []⟩, ⟨12, 0, 0, 0, []⟩, ⟨11, 0, 0, 0, []⟩]
theorem awake06_ev (fu n : Nat) (h : 21 < fu) : evF (G fu) (n+10) 15 [] [] = some (.d (.bool true), []) := by
  have t1 := target_ev fu (n+3) ex06 1 0 (by omega) h (by show 3 < fu; omega) (by decide)
  have t2 := target_ev fu (n+3) ex06 1 1 (by omega) h (by show 3 < fu; omega) (by decide)
  have t3 := target_ev fu (n+3) ex06 1 2 (by omega) h (by show 3 < fu; omega) (by decide)
  have s := bodySane_ev fu n ex06 h (by show 3 < fu; omega) (by decide) (fun i hi => by
    have : i.labels = [] := by
      simp only [ex06, List.mem_cons, List.not_mem_nil, or_false] at hi
      rcases hi with rfl | rfl | rfl <;> rfl
    rw [this]; exact ⟨by simp; omega, by simp⟩)
  rw [show targetF ex06 1 0 = (2, true) from rfl] at t1
  rw [show targetF ex06 1 1 = (3, true) from rfl] at t2
  rw [show targetF ex06 1 2 = (0, false) from rfl] at t3
  rw [show bodySane ex06 = true from rfl] at s
  simp only [ex06, List.map, TInstr.d] at t1 t2 t3 s
  rw [evF.eq_2, evX.eq_def, Gext, exts_no _ (f := 15) (by decide), GP, Tryd.func15]; simp only [Tryd.f15, evB]
  simp only [go_sem, Nat.reduceAdd, Nat.reduceMul, Nat.reduceSub, Nat.reduceLT, Nat.reduceLeDiff, Nat.reduceEqDiff, Nat.reduceBEq, Nat.reduceBeqDiff, Int.reduceEq, Int.reduceLT, Int.reduceLE, Int.reduceToNat, Int.reduceNeg, Int.reduceAdd, Int.reduceSub, Int.reduceMul, reduceIte, reduceCtorEq, Nat.reducePow, Nat.reduceDiv, Nat.reduceMod, Int.reduceBEq, t1, t2, t3, s]
end Go.Proofs.YtklnkkejkeelaaaDoor.E

/- Bodies in others: what the walk tells of a part of a list. Plain Lean. -/
set_option autoImplicit false
set_option linter.unusedSimpArgs false
set_option linter.unusedVariables false
namespace Go.Proofs.YtklnkkejkeelaaaDoor.E
open Go.Ev
/-- A nest, so much farther. -/
def sh (n : Nat) (p : Nest) : Nest := (p.1 + n, if p.2 = -1 then -1 else p.2 + n)
section
variable {p m q : List TInstr} {base : List Nest}
theorem getD_mid {k : Nat} (h : k < m.length) : (p ++ m ++ q).getD (p.length + k) in0 = m.getD k in0 := by
  simp only [List.getD_eq_getElem?_getD]
  rw [List.append_assoc, List.getElem?_append_right (by omega), List.getElem?_append_left (by omega)]
  congr 2
  omega
theorem ifAt_mid {a : Int} (h0 : 0 ≤ a) (h : a < m.length) : ifAt (p ++ m ++ q) (a + p.length) = ifAt m a := by
  unfold ifAt
  rw [show (a + p.length).toNat = p.length + a.toNat by omega, getD_mid (by omega)]
theorem step_mid {st st' : List Nest} {k : Nat} {op d : Int} {e : Nest} (hk : k < m.length) (hs : ∀ x ∈ st, nestIn k x) (h : stepF m st k op = some (st', d, e)) :
    ∃ e', stepF (p ++ m ++ q) (st.map (sh p.length) ++ base) (p.length + k) op = some (st'.map (sh p.length) ++ base, d + base.length, e') := by
  unfold stepF at h ⊢
  by_cases ho : opensB op = true
  · simp only [ho, if_true, Option.some.injEq, Prod.mk.injEq] at h ⊢
    obtain ⟨rfl, rfl, _⟩ := h
    refine ⟨(0, 0), ?_, by simp, rfl⟩
    simp only [List.map_cons, List.cons_append, sh, if_true]
    congr 1
    simp; omega
  · simp only [ho, if_false, Bool.false_eq_true] at h ⊢
    by_cases h5 : op ≠ 5 ∧ op ≠ 11
    · rw [if_pos h5] at h ⊢
      simp only [Option.some.injEq, Prod.mk.injEq] at h ⊢
      obtain ⟨rfl, rfl, _⟩ := h
      exact ⟨(0, 0), rfl, by simp, rfl⟩
    · rw [if_neg h5] at h ⊢
      cases st with
      | nil => cases h
      | cons t r =>
        simp only [List.map_cons, List.cons_append] at h ⊢
        by_cases h11 : op = 11
        · rw [if_pos h11] at h ⊢
          simp only [Option.some.injEq, Prod.mk.injEq] at h ⊢
          obtain ⟨rfl, rfl, _⟩ := h
          exact ⟨sh p.length t, by simp⟩
        · rw [if_neg h11] at h ⊢
          have ht := hs t (by simp)
          unfold nestIn at ht
          by_cases hh : t.2 = -1 ∧ ifAt m t.1 = true
          · rw [if_pos hh] at h
            simp only [Option.some.injEq, Prod.mk.injEq] at h
            obtain ⟨rfl, rfl, _⟩ := h
            have : (sh p.length t).2 = -1 ∧ ifAt (p ++ m ++ q) (sh p.length t).1 = true := ⟨by simp [sh, hh.1], by simp only [sh]; rw [ifAt_mid ht.1 (by omega)]; exact hh.2⟩
            rw [if_pos this]
            refine ⟨sh p.length t, ?_⟩
            simp only [Option.some.injEq, Prod.mk.injEq]
            refine ⟨?_, by simp, trivial⟩
            simp only [List.map_cons, List.cons_append]
            congr 1
            simp only [sh]
            rw [if_neg (by omega)]
            congr 1
            omega
          · rw [if_neg hh] at h; cases h
variable {σ : Type} {f : Int → σ → σ} {s0 s1 : σ}
/-- The walk of a part is the walk of the whole, there. -/
theorem walk_mid (h0 : walkG (fun _ d _ s => f d s) s0 (p ++ m ++ q) p.length = some (base, s1)) : ∀ (j : Nat), j ≤ m.length → ∀ st s, walkG (fun _ d _ s => f (d + base.length) s) s1 m j = some (st, s) →
    walkG (fun _ d _ s => f d s) s0 (p ++ m ++ q) (p.length + j) = some (st.map (sh p.length) ++ base, s)
  | 0, hj, st, s, h => by
    simp only [walkG, Option.some.injEq, Prod.mk.injEq] at h
    obtain ⟨rfl, rfl⟩ := h
    simpa using h0
  | j + 1, hj, st, s, h => by
    simp only [walkG] at h
    split at h
    · cases h
    · rename_i st0 s2 hw
      split at h
      · cases h
      · rename_i st1 d e h1
        simp only [Option.some.injEq, Prod.mk.injEq] at h
        obtain ⟨rfl, rfl⟩ := h
        have ih := walk_mid h0 j (by omega) st0 s2 hw
        obtain ⟨e', q1⟩ := step_mid (p := p) (q := q) (base := base) (show j < m.length by omega) (walkG_in hw).1 h1
        rw [show p.length + (j + 1) = (p.length + j) + 1 from rfl]
        simp only [walkG, ih]
        rw [getD_mid (by omega), q1]
end
theorem walkD_pre {m : List TInstr} {n : Int} {s1 : List Int} : ∀ j, walkG (fun _ d _ s => s ++ [d + n]) s1 m j = (walkG tellD [] m j).map (fun x => (x.1, s1 ++ x.2.map (· + n)))
  | 0 => by simp [walkG]
  | j + 1 => by
    simp only [walkG, walkD_pre (m := m) (n := n) (s1 := s1) j]
    cases walkG tellD [] m j with
    | none => rfl
    | some x =>
      obtain ⟨st, s⟩ := x
      simp only [Option.map_some]
      cases stepF m st j (m.getD j in0).op with
      | none => rfl
      | some y => simp [tellD]
theorem tellD_eq : tellD = (fun _ d _ s => (fun (d : Int) s => s ++ [d]) d s) := rfl
theorem tellS_eq : tellS = (fun _ d _ s => (fun (d : Int) s => max s d) d s) := rfl
theorem walkS_nonneg {l : List TInstr} {s0 : Int} : ∀ {k : Nat} {st : List Nest} {s : Int}, walkG tellS s0 l k = some (st, s) → s0 ≤ s
  | 0, st, s, h => by
    simp only [walkG, Option.some.injEq, Prod.mk.injEq] at h
    omega
  | k + 1, st, s, h => by
    simp only [walkG] at h
    split at h
    · cases h
    · rename_i st0 s2 hw
      split at h
      · cases h
      · rename_i st1 d e h1
        simp only [Option.some.injEq, Prod.mk.injEq] at h
        obtain ⟨rfl, rfl⟩ := h
        have := walkS_nonneg hw
        unfold tellS
        omega
theorem walkS_pre {m : List TInstr} {s1 : Int} (h1 : 0 ≤ s1) : ∀ j, walkG tellS s1 m j = (walkG tellS 0 m j).map (fun x => (x.1, max s1 x.2))
  | 0 => by simp [walkG]; omega
  | j + 1 => by
    simp only [walkG, walkS_pre h1 j]
    cases walkG tellS 0 m j with
    | none => rfl
    | some x =>
      obtain ⟨st, s⟩ := x
      simp only [Option.map_some]
      cases stepF m st j (m.getD j in0).op with
      | none => rfl
      | some y =>
        simp only [tellS, Option.map_some]
        congr 2
        omega
theorem walk_some {σ : Type} (tell : Nat → Int → Nest → σ → σ) (s0 : σ) {l : List TInstr} (h : walkOk l = true) : ∃ s, walkG tell s0 l l.length = some ([], s) := by
  cases hw : walkG tell s0 l l.length with
  | none => rw [walkOk_none hw] at h; cases h
  | some x =>
    obtain ⟨st, s⟩ := x
    rw [walkOk_of hw] at h
    cases st with
    | nil => exact ⟨s, rfl⟩
    | cons _ _ => cases h
theorem depthsF_of {l : List TInstr} {s : List Int} (h : walkG tellD [] l l.length = some ([], s)) : depthsF l = s := by simp [depthsF, h]
theorem walkOk_some {σ : Type} {tell : Nat → Int → Nest → σ → σ} {s0 s : σ} {l : List TInstr} (h : walkG tell s0 l l.length = some ([], s)) : walkOk l = true := walkOk_of h

/-- Two bodies, one behind the other. -/
theorem walk_two {σ : Type} {f : Int → σ → σ} {s0 s1 s2 : σ} {l m : List TInstr} (h1 : walkG (fun _ d _ s => f d s) s0 l l.length = some ([], s1)) (h2 : walkG (fun _ d _ s => f d s) s1 m m.length = some ([], s2)) :
    walkG (fun _ d _ s => f d s) s0 (l ++ m) (l ++ m).length = some ([], s2) := by
  have a := walk_mid (p := []) (m := l) (q := m) (base := []) (f := f) (s0 := s0) (s1 := s0) rfl l.length (Nat.le_refl _) [] s1 (by simpa using h1)
  simp only [List.nil_append, List.length_nil, Nat.zero_add, List.map_nil] at a
  have b := walk_mid (p := l) (m := m) (q := []) (base := []) (f := f) (s0 := s0) (s1 := s1) (by simpa using a) m.length (Nat.le_refl _) [] s2 (by simpa using h2)
  simpa using b
theorem rows_depths {l m : List TInstr} (hl : walkOk l = true) (hm : walkOk m = true) : walkOk (l ++ m) = true ∧ depthsF (l ++ m) = depthsF l ++ depthsF m := by
  obtain ⟨s1, h1⟩ := walk_some tellD [] hl
  obtain ⟨s2, h2⟩ := walk_some tellD [] hm
  have h3 : walkG (fun _ d _ s => (fun (d : Int) s => s ++ [d]) d s) s1 m m.length = some ([], s1 ++ s2) := by
    have := walkD_pre (m := m) (n := 0) (s1 := s1) m.length
    simp only [Int.add_zero] at this
    rw [this, h2]
    simp
  have h4 := walk_two (f := fun (d : Int) s => s ++ [d]) (s0 := []) h1 h3
  exact ⟨walkOk_some h4, by rw [depthsF_of h4, depthsF_of h1, depthsF_of h2]⟩
theorem rows_deep {l m : List TInstr} (hl : walkOk l = true) (hm : walkOk m = true) : deepF (l ++ m) = max (deepF l) (deepF m) := by
  obtain ⟨s1, h1⟩ := walk_some tellS 0 hl
  obtain ⟨s2, h2⟩ := walk_some tellS 0 hm
  have h3 : walkG (fun _ d _ s => (fun (d : Int) s => max s d) d s) s1 m m.length = some ([], max s1 s2) := by
    have := walkS_pre (m := m) (s1 := s1) (walkS_nonneg h1) m.length
    rw [h2] at this
    exact this
  have h4 := walk_two (f := fun (d : Int) s => max s d) (s0 := 0) h1 h3
  have h4' : walkG tellS 0 (l ++ m) (l ++ m).length = some ([], max s1 s2) := h4
  simp only [deepF, h1, h2, h4']
theorem rows_sane {l m : List TInstr} (hl : walkOk l = true) (hm : walkOk m = true) (h1 : l.length ≤ 60) (h2 : m.length ≤ 60) : bodySane (l ++ m) = (bodySane l && bodySane m) := by
  obtain ⟨h3, _⟩ := rows_depths hl hm
  simp only [bodySane, hl, hm, h3, rows_deep hl hm, List.all_append, List.length_append]
  have a : decide (((l.length + m.length : Nat) : Int) ≤ 4096) = true := by simp; omega
  have b : decide ((l.length : Int) ≤ 4096) = true := by simp; omega
  have c : decide ((m.length : Int) ≤ 4096) = true := by simp; omega
  rw [a, b, c]
  have d : decide (max (deepF l) (deepF m) ≤ 32) = (decide (deepF l ≤ 32) && decide (deepF m ≤ 32)) := by
    rw [← Bool.decide_and, decide_eq_decide]
    omega
  rw [d]
  cases decide (deepF l ≤ 32) <;> cases decide (deepF m ≤ 32) <;> cases l.all saneF <;> cases m.all saneF <;> rfl
end Go.Proofs.YtklnkkejkeelaaaDoor.E
