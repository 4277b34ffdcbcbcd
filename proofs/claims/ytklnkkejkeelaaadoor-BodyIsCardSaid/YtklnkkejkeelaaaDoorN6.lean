/- The reading of the document's around, Depths, Target (avocetref06). -/
import Derived.Test.YtklnkkejkeelaaaDoorN5
set_option linter.unnecessarySimpa false
set_option linter.unusedSimpArgs false
set_option linter.unusedVariables false
set_option autoImplicit false
set_option maxRecDepth 100000
set_option maxHeartbeats 8000000
set_option linter.unusedSimpArgs false
set_option linter.unusedVariables false
set_option pp.maxSteps 20000
namespace Go.Proofs.YtklnkkejkeelaaaDoor.E
open Go.Ev
/-- What the place a stands in, of the places ahead of j, the last one first. -/
def arIn (l : List TInstr) (M : List Nest) (a : Int) (j : Nat) : Bool := opensB (opAt l j) && decide (a < (M.getD j n0).2) && !decide ((M.getD j n0).1 = a)
def arGo (l : List TInstr) (M : List Nest) (a : Int) : Nat → List Int
  | 0 => []
  | j + 1 => if arIn l M a j then (j : Int) :: arGo l M a j else arGo l M a j
theorem arGo_len (l : List TInstr) (M : List Nest) (a : Int) : ∀ j, (arGo l M a j).length ≤ j
  | 0 => Nat.le_refl _
  | j + 1 => by
    have := arGo_len l M a j
    rw [arGo]; split
    · simp; omega
    · omega
theorem ar_encl {l : List TInstr} (h : walkOk l = true) {k : Nat} (hk : k < l.length) {st : List Nest} (hst : walkSt l k = some st) : arGo l (matchesF l) (k : Int) k = (encl l k st).map (·.1) := by
  have go : ∀ j, j ≤ k → arGo l (matchesF l) (k : Int) j = ((encl l k st).filter (fun p => decide (p.1 < (j : Int)))).map (·.1) := by
    intro j
    induction j with
    | zero =>
      intro _
      have : (encl l k st).filter (fun p => decide (p.1 < ((0 : Nat) : Int))) = [] := by
        rw [List.filter_eq_nil_iff]
        intro p hp
        have := walkSt_in hst p (encl_sub hp)
        unfold nestIn at this
        simp; omega
      rw [this]
      rfl
    | succ j ih =>
      intro hj
      have ih := ih (by omega)
      rw [arGo]
      rcases filter_succ (j := j) (encl_sorted hst) with ⟨p, hp, hpj, e⟩ | ⟨hno, e⟩
      · have hpo := walkSt_opens h (by omega) hst p (encl_sub hp)
        rw [hpj, Int.toNat_natCast] at hpo
        have hc := (encl_mem h (by omega) hk hpo hst).2 ⟨p, hp, hpj⟩
        have : arIn l (matchesF l) (k : Int) j = true := by
          unfold arIn
          rw [hpo]
          simp only [Bool.true_and, Bool.and_eq_true, decide_eq_true_eq, Bool.not_eq_true', decide_eq_false_iff_not]
          omega
        rw [this, if_pos rfl, e, ih, List.map_cons, hpj]
      · have : arIn l (matchesF l) (k : Int) j = false := by
          unfold arIn
          by_cases ho : opensB (opAt l j) = true
          · have hc : ((matchesF l).getD j n0).2 ≤ (k : Int) ∨ ((matchesF l).getD j n0).1 = (k : Int) := by
              rcases Classical.em (((matchesF l).getD j n0).2 ≤ (k : Int) ∨ ((matchesF l).getD j n0).1 = (k : Int)) with q | q
              · exact q
              · obtain ⟨p, hp, hpj⟩ := (encl_mem h (by omega) hk ho hst).1 q
                exact absurd hpj (hno p hp)
            rcases hc with hc | hc
            · have : decide ((k : Int) < ((matchesF l).getD j n0).2) = false := decide_eq_false (by omega)
              rw [this, Bool.and_false, Bool.false_and]
            · rw [decide_eq_true hc, Bool.not_true, Bool.and_false]
          · rw [Bool.eq_false_iff.2 ho]; rfl
        rw [this, if_neg (by decide), e, ih]
  rw [go k (Nat.le_refl _)]
  congr 1
  rw [List.filter_eq_self]
  intro p hp
  have := walkSt_in hst p (encl_sub hp)
  unfold nestIn at this
  simp; omega
theorem szj (v : Int) : sizedAll 1 [D.int .i64 v] = true := rfl
inductive ArH (o : List Int) : V → Map Go.Ev.Obj → Prop
  | nil : o = [] → ArH o .nilsl []
  | row (ys : List D) (m : Nat) (c : Bool) : ys = o.map (D.int .i64) → m = o.length → ArH o (.row 2688 0 0 m) [(2688, .row 1 ys 0 false c)]
structure ArS where
  j : Nat
  o : List Int
theorem around_ev (fu n : Nat) (l : List TInstr) (M : List Nest) (a : Nat) (ha : a ≤ l.length) (hM : M.length = l.length) (hf : l.length < fu) (hs : l.length < 100000) :
    evF (G fu) (n+2) 82 [.d (.list (l.map TInstr.d)), .d (.list (M.map nestD)), .d (.int .i64 a)] [] = some (.row 0 0 0 (arGo l M a a).length, [.row 1 ((arGo l M a a).map (D.int .i64)) 0 false false]) := by
  have W0 := wrap_i64 (show -9223372036854775808 ≤ (a : Int) - 1 by omega) (by omega)
  rw [evF.eq_2, evX.eq_def, Gext, exts_no _ (f := 82) (by decide), GP, Tryd.func82]; simp only [Tryd.f82, evB]
  simp only [go_sem, Nat.reduceAdd, Nat.reduceMul, Nat.reduceSub, Nat.reduceLT, Nat.reduceLeDiff, Nat.reduceEqDiff, Nat.reduceBEq, Nat.reduceBeqDiff, Int.reduceEq, Int.reduceLT, Int.reduceLE, Int.reduceToNat, Int.reduceNeg, Int.reduceAdd, Int.reduceSub, Int.reduceMul, reduceIte, reduceCtorEq, Nat.reducePow, Nat.reduceDiv, Nat.reduceMod, Int.reduceBEq, W0]
  generalize hr : loopN _ _ _ _ _ = r
  obtain ⟨y, s1, rfl, hy, rfl, v, H, hH, rfl⟩ : ∃ y s1, r = some (y, s1) ∧ leaves y ∧ (y = .exit 0 ∧ ∃ v H, ArH (arGo l M a a) v H ∧ s1 = ⟨[(7, v)], H⟩) := by
    rw [← hr]
    clear hr r
    refine loop_rel (σ := ArS) (fun e s => e.j ≤ a ∧ e.o ++ arGo l M a e.j = arGo l M a a ∧ ∃ v H, ArH e.o v H ∧ s = ⟨[(0, .d (.list (l.map TInstr.d))), (1, .d (.list (M.map nestD))), (2, .d (.int .i64 a)), (7, v), (8, .d (.int .i64 ((e.j : Int) - 1)))], H⟩)
      (fun e y s1 => y = .exit 0 ∧ ∃ v H, ArH (arGo l M a a) v H ∧ s1 = ⟨[(7, v)], H⟩) (fun e => e.j) ?_ fu ⟨a, []⟩ _ (by show a < fu; omega) ⟨Nat.le_refl _, rfl, _, _, .nil rfl, rfl⟩
    rintro ⟨j, o⟩ s ⟨h1, h2, v, H, hH, rfl⟩
    simp only at h1 h2 hH
    cases j with
    | zero =>
      have e1 : ((0 : Nat) : Int) - 1 = -1 := rfl
      rw [arGo, List.append_nil] at h2
      subst h2
      cases hH with
      | nil h3 =>
        simp only [go_sem, Nat.reduceAdd, Nat.reduceMul, Nat.reduceSub, Nat.reduceLT, Nat.reduceLeDiff, Nat.reduceEqDiff, Nat.reduceBEq, Nat.reduceBeqDiff, Int.reduceEq, Int.reduceLT, Int.reduceLE, Int.reduceToNat, Int.reduceNeg, Int.reduceAdd, Int.reduceSub, Int.reduceMul, reduceIte, reduceCtorEq, Nat.reducePow, Nat.reduceDiv, Nat.reduceMod, Int.reduceBEq, e1]
        exact ⟨_, _, rfl, rfl, _, _, .nil h3, rfl⟩
      | row ys m c h3 h4 =>
        simp only [go_sem, Nat.reduceAdd, Nat.reduceMul, Nat.reduceSub, Nat.reduceLT, Nat.reduceLeDiff, Nat.reduceEqDiff, Nat.reduceBEq, Nat.reduceBeqDiff, Int.reduceEq, Int.reduceLT, Int.reduceLE, Int.reduceToNat, Int.reduceNeg, Int.reduceAdd, Int.reduceSub, Int.reduceMul, reduceIte, reduceCtorEq, Nat.reducePow, Nat.reduceDiv, Nat.reduceMod, Int.reduceBEq, e1]
        exact ⟨_, _, rfl, rfl, _, _, .row _ _ _ h3 h4, rfl⟩
    | succ j =>
      have hjl : j < l.length := by omega
      have e1 : ((j + 1 : Nat) : Int) - 1 = j := by omega
      have j0 : (0 : Int) ≤ j := by omega
      have hg : (l.map TInstr.d)[j]? = some (l.getD j in0).d := getD_map hjl
      have hm : (M.map nestD)[j]? = some (nestD (M.getD j n0)) := getD_map (d := n0) (by omega)
      have q := rOpens_ev fu n (l.getD j in0)
      have ho : (l.getD j in0).op = opAt l j := rfl
      have Wj := wrap_i64 (show -9223372036854775808 ≤ (j : Int) - 1 by omega) (by omega)
      have hol : o.length + (j + 1) ≤ 300000 := by
        have := congrArg List.length h2
        rw [List.length_append] at this
        have := arGo_len l M a a
        omega
      have go : ∀ (o' : List Int) (v' : V) (H' : Map Go.Ev.Obj) (he : o' ++ arGo l M a j = arGo l M a a) (hH' : ArH o' v' H'), ∃ x s1, some (Ex.normal, (⟨[(0, .d (.list (l.map TInstr.d))), (1, .d (.list (M.map nestD))), (2, .d (.int .i64 a)), (7, v'), (8, .d (.int .i64 ((j : Int) - 1)))], H'⟩ : St)) = some (x, s1) ∧ match x with
          | .normal => ∃ e' : ArS, (e'.j ≤ a ∧ e'.o ++ arGo l M a e'.j = arGo l M a a ∧ ∃ v H, ArH e'.o v H ∧ s1 = ⟨[(0, .d (.list (l.map TInstr.d))), (1, .d (.list (M.map nestD))), (2, .d (.int .i64 a)), (7, v), (8, .d (.int .i64 ((e'.j : Int) - 1)))], H⟩) ∧ e'.j < j + 1 ∧ ∀ (y : Ex) (s : St), (y = .exit 0 ∧ ∃ v H, ArH (arGo l M a a) v H ∧ s = ⟨[(7, v)], H⟩) → (y = .exit 0 ∧ ∃ v H, ArH (arGo l M a a) v H ∧ s = ⟨[(7, v)], H⟩)
          | x => x = .exit 0 ∧ ∃ v H, ArH (arGo l M a a) v H ∧ s1 = ⟨[(7, v)], H⟩ :=
        fun o' v' H' he hH' => ⟨.normal, _, rfl, ⟨j, o'⟩, ⟨by show j ≤ a; omega, he, v', H', hH', rfl⟩, by show j < j + 1; omega, fun y s h => h⟩
      have hA : arGo l M a (j + 1) = if arIn l M a j then (j : Int) :: arGo l M a j else arGo l M a j := rfl
      rw [hA] at h2
      unfold arIn at h2
      simp only [TInstr.d, nestD] at q hg hm
      rw [ho] at q hg
      rw [e1]
      have ht : (o.map (D.int .i64)).take o.length = o.map (D.int .i64) := List.take_of_length_le (by simp)
      have hl2 : o.length + 1 ≤ 1099511627776 := by omega
      have jI : (j : Int) < l.length := by omega
      have jM : (j : Int) < M.length := by omega
      generalize opAt l j = op at *
      generalize M.getD j n0 = p at *
      obtain ⟨p1, p2⟩ := p
      simp only at h2 hm
      cases hb : opensB op with
      | false =>
        rw [hb] at q h2
        simp only [Bool.false_and, Bool.false_eq_true, if_false] at h2
        cases hH with
        | nil h3 => simp only [go_sem, Nat.reduceAdd, Nat.reduceMul, Nat.reduceSub, Nat.reduceLT, Nat.reduceLeDiff, Nat.reduceEqDiff, Nat.reduceBEq, Nat.reduceBeqDiff, Int.reduceEq, Int.reduceLT, Int.reduceLE, Int.reduceToNat, Int.reduceNeg, Int.reduceAdd, Int.reduceSub, Int.reduceMul, reduceIte, reduceCtorEq, Nat.reducePow, Nat.reduceDiv, Nat.reduceMod, Int.reduceBEq, j0, jI, jM, idx, hg, hm, q, Wj, List.length_map]; exact go _ _ _ h2 (.nil h3)
        | row ys m c h3 h4 => simp only [go_sem, Nat.reduceAdd, Nat.reduceMul, Nat.reduceSub, Nat.reduceLT, Nat.reduceLeDiff, Nat.reduceEqDiff, Nat.reduceBEq, Nat.reduceBeqDiff, Int.reduceEq, Int.reduceLT, Int.reduceLE, Int.reduceToNat, Int.reduceNeg, Int.reduceAdd, Int.reduceSub, Int.reduceMul, reduceIte, reduceCtorEq, Nat.reducePow, Nat.reduceDiv, Nat.reduceMod, Int.reduceBEq, j0, jI, jM, idx, hg, hm, q, Wj, List.length_map]; exact go _ _ _ h2 (.row _ _ _ h3 h4)
      | true =>
        rw [hb] at q h2
        by_cases c1 : (a : Int) < p2
        · by_cases c2 : p1 = a
          · simp only [c2, decide_true, Bool.not_true, Bool.and_false, Bool.false_eq_true, if_false] at h2
            cases hH with
            | nil h3 => simp only [go_sem, Nat.reduceAdd, Nat.reduceMul, Nat.reduceSub, Nat.reduceLT, Nat.reduceLeDiff, Nat.reduceEqDiff, Nat.reduceBEq, Nat.reduceBeqDiff, Int.reduceEq, Int.reduceLT, Int.reduceLE, Int.reduceToNat, Int.reduceNeg, Int.reduceAdd, Int.reduceSub, Int.reduceMul, reduceIte, reduceCtorEq, Nat.reducePow, Nat.reduceDiv, Nat.reduceMod, Int.reduceBEq, j0, jI, jM, idx, hg, hm, q, Wj, c1, c2, List.length_map]; exact go _ _ _ h2 (.nil h3)
            | row ys m c h3 h4 => simp only [go_sem, Nat.reduceAdd, Nat.reduceMul, Nat.reduceSub, Nat.reduceLT, Nat.reduceLeDiff, Nat.reduceEqDiff, Nat.reduceBEq, Nat.reduceBeqDiff, Int.reduceEq, Int.reduceLT, Int.reduceLE, Int.reduceToNat, Int.reduceNeg, Int.reduceAdd, Int.reduceSub, Int.reduceMul, reduceIte, reduceCtorEq, Nat.reducePow, Nat.reduceDiv, Nat.reduceMod, Int.reduceBEq, j0, jI, jM, idx, hg, hm, q, Wj, c1, c2, List.length_map]; exact go _ _ _ h2 (.row _ _ _ h3 h4)
          · simp only [c1, c2, decide_true, decide_false, Bool.not_false, Bool.and_true, if_true] at h2
            have h2' : (o ++ [(j : Int)]) ++ arGo l M a j = arGo l M a a := by rw [← h2]; simp
            cases hH with
            | nil h3 =>
              subst h3
              simp only [go_sem, Nat.reduceAdd, Nat.reduceMul, Nat.reduceSub, Nat.reduceLT, Nat.reduceLeDiff, Nat.reduceEqDiff, Nat.reduceBEq, Nat.reduceBeqDiff, Int.reduceEq, Int.reduceLT, Int.reduceLE, Int.reduceToNat, Int.reduceNeg, Int.reduceAdd, Int.reduceSub, Int.reduceMul, reduceIte, reduceCtorEq, Nat.reducePow, Nat.reduceDiv, Nat.reduceMod, Int.reduceBEq, j0, jI, jM, idx, hg, hm, q, Wj, c1, c2, szj, List.length_map]
              exact go _ _ _ h2' (.row _ _ _ rfl rfl)
            | row ys m c h3 h4 =>
              subst h3 h4
              simp only [go_sem, Nat.reduceAdd, Nat.reduceMul, Nat.reduceSub, Nat.reduceLT, Nat.reduceLeDiff, Nat.reduceEqDiff, Nat.reduceBEq, Nat.reduceBeqDiff, Int.reduceEq, Int.reduceLT, Int.reduceLE, Int.reduceToNat, Int.reduceNeg, Int.reduceAdd, Int.reduceSub, Int.reduceMul, reduceIte, reduceCtorEq, Nat.reducePow, Nat.reduceDiv, Nat.reduceMod, Int.reduceBEq, j0, jI, jM, idx, hg, hm, q, Wj, c1, c2, szj, ht, hl2, List.length_map]
              exact go _ _ _ h2' (.row _ _ _ (by simp) (by simp))
        · simp only [c1, decide_false, Bool.and_false, Bool.false_and, Bool.false_eq_true, if_false] at h2
          cases hH with
          | nil h3 => simp only [go_sem, Nat.reduceAdd, Nat.reduceMul, Nat.reduceSub, Nat.reduceLT, Nat.reduceLeDiff, Nat.reduceEqDiff, Nat.reduceBEq, Nat.reduceBeqDiff, Int.reduceEq, Int.reduceLT, Int.reduceLE, Int.reduceToNat, Int.reduceNeg, Int.reduceAdd, Int.reduceSub, Int.reduceMul, reduceIte, reduceCtorEq, Nat.reducePow, Nat.reduceDiv, Nat.reduceMod, Int.reduceBEq, j0, jI, jM, idx, hg, hm, q, Wj, c1, List.length_map]; exact go _ _ _ h2 (.nil h3)
          | row ys m c h3 h4 => simp only [go_sem, Nat.reduceAdd, Nat.reduceMul, Nat.reduceSub, Nat.reduceLT, Nat.reduceLeDiff, Nat.reduceEqDiff, Nat.reduceBEq, Nat.reduceBeqDiff, Int.reduceEq, Int.reduceLT, Int.reduceLE, Int.reduceToNat, Int.reduceNeg, Int.reduceAdd, Int.reduceSub, Int.reduceMul, reduceIte, reduceCtorEq, Nat.reducePow, Nat.reduceDiv, Nat.reduceMod, Int.reduceBEq, j0, jI, jM, idx, hg, hm, q, Wj, c1, List.length_map]; exact go _ _ _ h2 (.row _ _ _ h3 h4)
  cases hH with
  | nil h3 => simp only [go_sem, Nat.reduceAdd, Nat.reduceMul, Nat.reduceSub, Nat.reduceLT, Nat.reduceLeDiff, Nat.reduceEqDiff, Nat.reduceBEq, Nat.reduceBeqDiff, Int.reduceEq, Int.reduceLT, Int.reduceLE, Int.reduceToNat, Int.reduceNeg, Int.reduceAdd, Int.reduceSub, Int.reduceMul, reduceIte, reduceCtorEq, Nat.reducePow, Nat.reduceDiv, Nat.reduceMod, Int.reduceBEq, h3, List.map_nil, List.length_nil]
  | row ys m c h3 h4 =>
    subst h3 h4
    simp only [go_sem, Nat.reduceAdd, Nat.reduceMul, Nat.reduceSub, Nat.reduceLT, Nat.reduceLeDiff, Nat.reduceEqDiff, Nat.reduceBEq, Nat.reduceBeqDiff, Int.reduceEq, Int.reduceLT, Int.reduceLE, Int.reduceToNat, Int.reduceNeg, Int.reduceAdd, Int.reduceSub, Int.reduceMul, reduceIte, reduceCtorEq, Nat.reducePow, Nat.reduceDiv, Nat.reduceMod, Int.reduceBEq]
end Go.Proofs.YtklnkkejkeelaaaDoor.E
