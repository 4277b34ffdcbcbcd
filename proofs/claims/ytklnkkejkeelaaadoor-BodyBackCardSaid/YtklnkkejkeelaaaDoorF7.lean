/- The reading of body.Target. -/
import Derived.Test.YtklnkkejkeelaaaDoorF6
set_option linter.unnecessarySimpa false
set_option linter.unusedSimpArgs false
set_option linter.unusedVariables false
set_option autoImplicit false
set_option maxRecDepth 100000
set_option maxHeartbeats 4000000
set_option linter.unusedSimpArgs false
set_option linter.unusedVariables false
set_option pp.maxSteps 20000
namespace Go.Proofs.YtklnkkejkeelaaaDoor.E
open Go.Ev
def n0 : Nest := (-1, -1)
/-- Where a branch goes on, from the place k down. -/
def tgtGo (l : List TInstr) (M : List Nest) (at_ : Int) : Nat → Int → Int × Bool
  | 0, left => if 0 < left then (0, false) else (l.length, true)
  | k + 1, left =>
    if opensB (l.getD k in0).op = false ∨ (M.getD k n0).2 ≤ at_ ∨ (M.getD k n0).1 = at_ then tgtGo l M at_ k left
    else if 0 < left then tgtGo l M at_ k (left - 1)
    else if (l.getD k in0).op = 3 then (k, true) else ((M.getD k n0).2, true)
def targetF (l : List TInstr) (at_ label : Int) : Int × Bool :=
  if walkOk l = false ∨ at_ < 0 ∨ (l.length : Int) ≤ at_ ∨ label < 0 then (0, false) else tgtGo l (matchesF l) at_ at_.toNat label
theorem target_ev (fu n : Nat) (l : List TInstr) (at_ label : Int) (hb : label ≤ 9223372036854775807) (h : 21 < fu) (hl : l.length < fu) (hs : l.length < 100000) : evF (G fu) (n+6) 20 [.d (.list (l.map TInstr.d)), .d (.int .i64 at_), .d (.int .i64 label)] [] =
    some (.tup [.d (.int .i64 (targetF l at_ label).1), .d (.bool (targetF l at_ label).2)], []) := by
  rw [evF.eq_2, evX.eq_def, Gext, exts_no _ (f := 20) (by decide), GP, Tryd.func20]; simp only [Tryd.f20, evB]
  unfold targetF
  cases hk : walkOk l with
  | false => simp only [go_sem, Nat.reduceAdd, Nat.reduceMul, Nat.reduceSub, Nat.reduceLT, Nat.reduceLeDiff, Nat.reduceEqDiff, Nat.reduceBEq, Nat.reduceBeqDiff, Int.reduceEq, Int.reduceLT, Int.reduceLE, Int.reduceToNat, Int.reduceNeg, Int.reduceAdd, Int.reduceSub, Int.reduceMul, reduceIte, reduceCtorEq, Nat.reducePow, Nat.reduceDiv, Nat.reduceMod, Int.reduceBEq, and_self, and_true, true_and, and_false, false_and, or_true, true_or, or_false, false_or, Int.natCast_nonneg, Int.toNat_natCast, not_true_eq_false, not_false_eq_true, List.size_toArray, Array.size_empty, List.getElem?_nil, List.length_map, matches_ev fu n l h hl hs, hk]
  | true =>
    by_cases h1 : at_ < 0
    · simp only [go_sem, Nat.reduceAdd, Nat.reduceMul, Nat.reduceSub, Nat.reduceLT, Nat.reduceLeDiff, Nat.reduceEqDiff, Nat.reduceBEq, Nat.reduceBeqDiff, Int.reduceEq, Int.reduceLT, Int.reduceLE, Int.reduceToNat, Int.reduceNeg, Int.reduceAdd, Int.reduceSub, Int.reduceMul, reduceIte, reduceCtorEq, Nat.reducePow, Nat.reduceDiv, Nat.reduceMod, Int.reduceBEq, and_self, and_true, true_and, and_false, false_and, or_true, true_or, or_false, false_or, Int.natCast_nonneg, Int.toNat_natCast, not_true_eq_false, not_false_eq_true, List.size_toArray, Array.size_empty, List.getElem?_nil, List.length_map, matches_ev fu n l h hl hs, hk, h1]
    · by_cases h2 : (l.length : Int) ≤ at_
      · simp only [go_sem, Nat.reduceAdd, Nat.reduceMul, Nat.reduceSub, Nat.reduceLT, Nat.reduceLeDiff, Nat.reduceEqDiff, Nat.reduceBEq, Nat.reduceBeqDiff, Int.reduceEq, Int.reduceLT, Int.reduceLE, Int.reduceToNat, Int.reduceNeg, Int.reduceAdd, Int.reduceSub, Int.reduceMul, reduceIte, reduceCtorEq, Nat.reducePow, Nat.reduceDiv, Nat.reduceMod, Int.reduceBEq, and_self, and_true, true_and, and_false, false_and, or_true, true_or, or_false, false_or, Int.natCast_nonneg, Int.toNat_natCast, not_true_eq_false, not_false_eq_true, List.size_toArray, Array.size_empty, List.getElem?_nil, List.length_map, matches_ev fu n l h hl hs, hk, h1, h2]
      · by_cases h3 : label < 0
        · simp only [go_sem, Nat.reduceAdd, Nat.reduceMul, Nat.reduceSub, Nat.reduceLT, Nat.reduceLeDiff, Nat.reduceEqDiff, Nat.reduceBEq, Nat.reduceBeqDiff, Int.reduceEq, Int.reduceLT, Int.reduceLE, Int.reduceToNat, Int.reduceNeg, Int.reduceAdd, Int.reduceSub, Int.reduceMul, reduceIte, reduceCtorEq, Nat.reducePow, Nat.reduceDiv, Nat.reduceMod, Int.reduceBEq, and_self, and_true, true_and, and_false, false_and, or_true, true_or, or_false, false_or, Int.natCast_nonneg, Int.toNat_natCast, not_true_eq_false, not_false_eq_true, List.size_toArray, Array.size_empty, List.getElem?_nil, List.length_map, matches_ev fu n l h hl hs, hk, h1, h2, h3]
        · have hM := matchesF_len l hk
          simp only [go_sem, Nat.reduceAdd, Nat.reduceMul, Nat.reduceSub, Nat.reduceLT, Nat.reduceLeDiff, Nat.reduceEqDiff, Nat.reduceBEq, Nat.reduceBeqDiff, Int.reduceEq, Int.reduceLT, Int.reduceLE, Int.reduceToNat, Int.reduceNeg, Int.reduceAdd, Int.reduceSub, Int.reduceMul, reduceIte, reduceCtorEq, Nat.reducePow, Nat.reduceDiv, Nat.reduceMod, Int.reduceBEq, and_self, and_true, true_and, and_false, false_and, or_true, true_or, or_false, false_or, Int.natCast_nonneg, Int.toNat_natCast, not_true_eq_false, not_false_eq_true, List.size_toArray, Array.size_empty, List.getElem?_nil, List.length_map, matches_ev fu n l h hl hs, hk, h1, h2, h3, hM, wrap_i64 (show -9223372036854775808 ≤ at_ - 1 by omega) (by omega)]
          generalize hr : loopN _ _ _ _ _ = r
          obtain ⟨x, s1, rfl, hx, hJ⟩ : ∃ x s1, r = some (x, s1) ∧ leaves x ∧ ((∃ left : Int, x = .exit 0 ∧ 0 ≤ left ∧ tgtGo l (matchesF l) at_ at_.toNat label = (if 0 < left then ((0 : Int), false) else ((l.length : Int), true)) ∧ s1 = ⟨[(0, .d (.list (l.map TInstr.d))), (10, .d (.int .i64 left))], []⟩) ∨
              (x = .ret ∧ s1 = ⟨[(6, .d (.int .i64 (tgtGo l (matchesF l) at_ at_.toNat label).1)), (7, .d (.bool (tgtGo l (matchesF l) at_ at_.toNat label).2))], []⟩)) := by
            rw [← hr]
            refine loop_inv (J := fun x s1 => ((∃ left : Int, x = .exit 0 ∧ 0 ≤ left ∧ tgtGo l (matchesF l) at_ at_.toNat label = (if 0 < left then ((0 : Int), false) else ((l.length : Int), true)) ∧ s1 = ⟨[(0, .d (.list (l.map TInstr.d))), (10, .d (.int .i64 left))], []⟩) ∨
              (x = .ret ∧ s1 = ⟨[(6, .d (.int .i64 (tgtGo l (matchesF l) at_ at_.toNat label).1)), (7, .d (.bool (tgtGo l (matchesF l) at_ at_.toNat label).2))], []⟩)))
              at_.toNat (fun i z => ∃ left : Int, 0 ≤ left ∧ left ≤ 9223372036854775807 ∧ tgtGo l (matchesF l) at_ at_.toNat label = tgtGo l (matchesF l) at_ (at_.toNat - i) left ∧ z = ⟨[(0, .d (.list (l.map TInstr.d))), (1, .d (.int .i64 at_)), (8, .row 960 0 0 l.length), (10, .d (.int .i64 left)), (11, .d (.int .i64 (at_ - 1 - i)))], [(960, .row 2 ((matchesF l).map nestD) 0 false false)]⟩) ?_ ?_ fu _ (by omega) ⟨label, by omega, by omega, by simp, by simp⟩
            · rintro i z hi ⟨left, hl0, hl1, ht, rfl⟩
              obtain ⟨k, hk1⟩ : ∃ k : Nat, at_ - 1 - i = k := ⟨(at_ - 1 - i).toNat, by omega⟩
              have hk2 : at_.toNat - i = k + 1 := by omega
              have hkl : k < l.length := by omega
              have hx : ((matchesF l).map nestD)[k]? = some (.agg [.int .i64 ((matchesF l).getD k n0).1, .int .i64 ((matchesF l).getD k n0).2]) := getD_map (f := nestD) (by omega)
              have W := wrap_i64 (show -9223372036854775808 ≤ (k : Int) - 1 by omega) (by omega)
              have W2 := wrap_i64 (show -9223372036854775808 ≤ left - 1 by omega) (by omega)
              have hge : (0 : Int) ≤ k := by omega
              have hlt : (k : Int) < l.length := by omega
              have hnext : at_ - 1 - ((i + 1 : Nat) : Int) = (k : Int) - 1 := by omega
              have hkn : at_.toNat - (i + 1) = k := by omega
              rw [hk2] at ht
              rw [tgtGo] at ht
              rw [hk1]
              have go : ∀ left', tgtGo l (matchesF l) at_ at_.toNat label = tgtGo l (matchesF l) at_ k left' → 0 ≤ left' → left' ≤ 9223372036854775807 → ∃ left : Int, 0 ≤ left ∧ left ≤ 9223372036854775807 ∧ tgtGo l (matchesF l) at_ at_.toNat label = tgtGo l (matchesF l) at_ (at_.toNat - (i + 1)) left ∧
                  (⟨[(0, .d (.list (l.map TInstr.d))), (1, .d (.int .i64 at_)), (8, .row 960 0 0 l.length), (10, .d (.int .i64 left')), (11, .d (.int .i64 ((k : Int) - 1)))], [(960, .row 2 ((matchesF l).map nestD) 0 false false)]⟩ : St) = ⟨[(0, .d (.list (l.map TInstr.d))), (1, .d (.int .i64 at_)), (8, .row 960 0 0 l.length), (10, .d (.int .i64 left)), (11, .d (.int .i64 (at_ - 1 - ((i + 1 : Nat) : Int))))], [(960, .row 2 ((matchesF l).map nestD) 0 false false)]⟩ := fun left' q1 q2 q3 => ⟨left', q2, q3, by rw [hkn]; exact q1, by rw [hnext]⟩
              have base : ∀ {φ : Option (Ex × St) → Prop}, True := fun {_} => trivial
              rcases Bool.eq_false_or_eq_true (opensB (l.getD k in0).op) with ho | ho
              · by_cases q1 : ((matchesF l).getD k n0).2 ≤ at_
                · rw [if_pos (.inr (.inl q1))] at ht
                  simp only [go_sem, Nat.reduceAdd, Nat.reduceMul, Nat.reduceSub, Nat.reduceLT, Nat.reduceLeDiff, Nat.reduceEqDiff, Nat.reduceBEq, Nat.reduceBeqDiff, Int.reduceEq, Int.reduceLT, Int.reduceLE, Int.reduceToNat, Int.reduceNeg, Int.reduceAdd, Int.reduceSub, Int.reduceMul, reduceIte, reduceCtorEq, Nat.reducePow, Nat.reduceDiv, Nat.reduceMod, Int.reduceBEq, and_self, and_true, true_and, and_false, false_and, or_true, true_or, or_false, false_or, Int.natCast_nonneg, Int.toNat_natCast, not_true_eq_false, not_false_eq_true, List.size_toArray, Array.size_empty, List.getElem?_nil, idx, hge, hlt, getD_map (d := in0) hkl, hx, TInstr.d, opens_ev fu (n+3) _ _ _ _ _ h, ho, q1, W, W2]
                  exact ⟨.normal, _, rfl, go _ ht hl0 hl1⟩
                · by_cases q2 : ((matchesF l).getD k n0).1 = at_
                  · rw [if_pos (.inr (.inr q2))] at ht
                    have q2' : decide (((matchesF l).getD k n0).1 = at_) = true := decide_eq_true q2
                    simp only [go_sem, Nat.reduceAdd, Nat.reduceMul, Nat.reduceSub, Nat.reduceLT, Nat.reduceLeDiff, Nat.reduceEqDiff, Nat.reduceBEq, Nat.reduceBeqDiff, Int.reduceEq, Int.reduceLT, Int.reduceLE, Int.reduceToNat, Int.reduceNeg, Int.reduceAdd, Int.reduceSub, Int.reduceMul, reduceIte, reduceCtorEq, Nat.reducePow, Nat.reduceDiv, Nat.reduceMod, Int.reduceBEq, and_self, and_true, true_and, and_false, false_and, or_true, true_or, or_false, false_or, Int.natCast_nonneg, Int.toNat_natCast, not_true_eq_false, not_false_eq_true, List.size_toArray, Array.size_empty, List.getElem?_nil, idx, hge, hlt, getD_map (d := in0) hkl, hx, TInstr.d, opens_ev fu (n+3) _ _ _ _ _ h, ho, q1, q2', W, W2]
                    exact ⟨.normal, _, rfl, go _ ht hl0 hl1⟩
                  · rw [if_neg (by simp only [ho, reduceCtorEq, false_or]; exact fun q => q.elim q1 q2)] at ht
                    by_cases q3 : 0 < left
                    · rw [if_pos q3] at ht
                      simp only [go_sem, Nat.reduceAdd, Nat.reduceMul, Nat.reduceSub, Nat.reduceLT, Nat.reduceLeDiff, Nat.reduceEqDiff, Nat.reduceBEq, Nat.reduceBeqDiff, Int.reduceEq, Int.reduceLT, Int.reduceLE, Int.reduceToNat, Int.reduceNeg, Int.reduceAdd, Int.reduceSub, Int.reduceMul, reduceIte, reduceCtorEq, Nat.reducePow, Nat.reduceDiv, Nat.reduceMod, Int.reduceBEq, and_self, and_true, true_and, and_false, false_and, or_true, true_or, or_false, false_or, Int.natCast_nonneg, Int.toNat_natCast, not_true_eq_false, not_false_eq_true, List.size_toArray, Array.size_empty, List.getElem?_nil, idx, hge, hlt, getD_map (d := in0) hkl, hx, TInstr.d, opens_ev fu (n+3) _ _ _ _ _ h, ho, q1, q2, q3, W, W2]
                      exact ⟨.normal, _, rfl, go _ ht (by omega) (by omega)⟩
                    · rw [if_neg q3] at ht
                      rcases Bool.eq_false_or_eq_true (decide ((l.getD k in0).op = 3)) with q4 | q4
                      · rw [if_pos (of_decide_eq_true q4)] at ht
                        simp only [go_sem, Nat.reduceAdd, Nat.reduceMul, Nat.reduceSub, Nat.reduceLT, Nat.reduceLeDiff, Nat.reduceEqDiff, Nat.reduceBEq, Nat.reduceBeqDiff, Int.reduceEq, Int.reduceLT, Int.reduceLE, Int.reduceToNat, Int.reduceNeg, Int.reduceAdd, Int.reduceSub, Int.reduceMul, reduceIte, reduceCtorEq, Nat.reducePow, Nat.reduceDiv, Nat.reduceMod, Int.reduceBEq, and_self, and_true, true_and, and_false, false_and, or_true, true_or, or_false, false_or, Int.natCast_nonneg, Int.toNat_natCast, not_true_eq_false, not_false_eq_true, List.size_toArray, Array.size_empty, List.getElem?_nil, idx, hge, hlt, getD_map (d := in0) hkl, hx, TInstr.d, opens_ev fu (n+3) _ _ _ _ _ h, ho, q1, q2, q3, q4, W, W2]
                        exact ⟨.ret, _, rfl, .inr ⟨rfl, by rw [ht]⟩⟩
                      · rw [if_neg (of_decide_eq_false q4)] at ht
                        simp only [go_sem, Nat.reduceAdd, Nat.reduceMul, Nat.reduceSub, Nat.reduceLT, Nat.reduceLeDiff, Nat.reduceEqDiff, Nat.reduceBEq, Nat.reduceBeqDiff, Int.reduceEq, Int.reduceLT, Int.reduceLE, Int.reduceToNat, Int.reduceNeg, Int.reduceAdd, Int.reduceSub, Int.reduceMul, reduceIte, reduceCtorEq, Nat.reducePow, Nat.reduceDiv, Nat.reduceMod, Int.reduceBEq, and_self, and_true, true_and, and_false, false_and, or_true, true_or, or_false, false_or, Int.natCast_nonneg, Int.toNat_natCast, not_true_eq_false, not_false_eq_true, List.size_toArray, Array.size_empty, List.getElem?_nil, idx, hge, hlt, getD_map (d := in0) hkl, hx, TInstr.d, opens_ev fu (n+3) _ _ _ _ _ h, ho, q1, q2, q3, q4, W, W2]
                        exact ⟨.ret, _, rfl, .inr ⟨rfl, by rw [ht]⟩⟩
              · rw [if_pos (.inl ho)] at ht
                simp only [go_sem, Nat.reduceAdd, Nat.reduceMul, Nat.reduceSub, Nat.reduceLT, Nat.reduceLeDiff, Nat.reduceEqDiff, Nat.reduceBEq, Nat.reduceBeqDiff, Int.reduceEq, Int.reduceLT, Int.reduceLE, Int.reduceToNat, Int.reduceNeg, Int.reduceAdd, Int.reduceSub, Int.reduceMul, reduceIte, reduceCtorEq, Nat.reducePow, Nat.reduceDiv, Nat.reduceMod, Int.reduceBEq, and_self, and_true, true_and, and_false, false_and, or_true, true_or, or_false, false_or, Int.natCast_nonneg, Int.toNat_natCast, not_true_eq_false, not_false_eq_true, List.size_toArray, Array.size_empty, List.getElem?_nil, idx, hge, hlt, getD_map (d := in0) hkl, hx, TInstr.d, opens_ev fu (n+3) _ _ _ _ _ h, ho, W, W2]
                exact ⟨.normal, _, rfl, go _ ht hl0 hl1⟩
            · rintro z ⟨left, hl0, hl1, ht, rfl⟩
              have hm : ¬ (0 : Int) ≤ at_ - 1 - (at_.toNat : Int) := by omega
              rw [Nat.sub_self, tgtGo] at ht
              simp only [go_sem, Nat.reduceAdd, Nat.reduceMul, Nat.reduceSub, Nat.reduceLT, Nat.reduceLeDiff, Nat.reduceEqDiff, Nat.reduceBEq, Nat.reduceBeqDiff, Int.reduceEq, Int.reduceLT, Int.reduceLE, Int.reduceToNat, Int.reduceNeg, Int.reduceAdd, Int.reduceSub, Int.reduceMul, reduceIte, reduceCtorEq, Nat.reducePow, Nat.reduceDiv, Nat.reduceMod, Int.reduceBEq, and_self, and_true, true_and, and_false, false_and, or_true, true_or, or_false, false_or, Int.natCast_nonneg, Int.toNat_natCast, not_true_eq_false, not_false_eq_true, List.size_toArray, Array.size_empty, List.getElem?_nil, hm]
              exact ⟨_, _, rfl, trivial, .inl ⟨left, rfl, hl0, ht, rfl⟩⟩
          rcases hJ with ⟨left, rfl, hl0, ht, rfl⟩ | ⟨rfl, rfl⟩
          · rw [ht]
            by_cases q : 0 < left <;> simp only [go_sem, Nat.reduceAdd, Nat.reduceMul, Nat.reduceSub, Nat.reduceLT, Nat.reduceLeDiff, Nat.reduceEqDiff, Nat.reduceBEq, Nat.reduceBeqDiff, Int.reduceEq, Int.reduceLT, Int.reduceLE, Int.reduceToNat, Int.reduceNeg, Int.reduceAdd, Int.reduceSub, Int.reduceMul, reduceIte, reduceCtorEq, Nat.reducePow, Nat.reduceDiv, Nat.reduceMod, Int.reduceBEq, and_self, and_true, true_and, and_false, false_and, or_true, true_or, or_false, false_or, Int.natCast_nonneg, Int.toNat_natCast, not_true_eq_false, not_false_eq_true, List.size_toArray, Array.size_empty, List.getElem?_nil, q, List.length_map]
          · simp only [go_sem, Nat.reduceAdd, Nat.reduceMul, Nat.reduceSub, Nat.reduceLT, Nat.reduceLeDiff, Nat.reduceEqDiff, Nat.reduceBEq, Nat.reduceBeqDiff, Int.reduceEq, Int.reduceLT, Int.reduceLE, Int.reduceToNat, Int.reduceNeg, Int.reduceAdd, Int.reduceSub, Int.reduceMul, reduceIte, reduceCtorEq, Nat.reducePow, Nat.reduceDiv, Nat.reduceMod, Int.reduceBEq, and_self, and_true, true_and, and_false, false_and, or_true, true_or, or_false, false_or, Int.natCast_nonneg, Int.toNat_natCast, not_true_eq_false, not_false_eq_true, List.size_toArray, Array.size_empty, List.getElem?_nil]
end Go.Proofs.YtklnkkejkeelaaaDoor.E
