/- THE LAW BodyNests, read. -/
import Derived.Test.YtklnkkejkeelaaaDoorA06
import Derived.Test.YtklnkkejkeelaaaDoorT09
import Derived.Test.YtklnkkejkeelaaaDoorLBodyTargets
set_option linter.unnecessarySimpa false
set_option linter.unusedSimpArgs false
set_option linter.unusedVariables false
set_option autoImplicit false
set_option maxRecDepth 100000
set_option maxHeartbeats 4000000
set_option linter.unusedSimpArgs false
set_option linter.unusedVariables false
set_option pp.maxSteps 20000
namespace Go.Proofs.YtklnkkejkeelaaaDoor.E
open Go.Ev
theorem nests_ev (fu n : Nat) (l : List TInstr) (hf : 1000 < fu) (hl : l.length < fu) (hl9 : l.length ≤ maxLen) :
    evF (G fu) (n+11) 3 [.d (.list (l.map TInstr.d))] [] = some (.d (.bool true), []) := by
  have A := awake06_ev fu n (by omega)
  have F1 := few_ev fu (n+9) l 120 hl hl9
  rw [evF.eq_2, evX.eq_def, Gext, GP, Tryd.func3]; simp only [Tryd.f3, evB]
  cases f1 : few l 120 with
  | false => simp only [go_sem, Nat.reduceAdd, Nat.reduceMul, Nat.reduceSub, Nat.reduceLT, Nat.reduceLeDiff, Nat.reduceEqDiff, Nat.reduceBEq, Nat.reduceBeqDiff, Int.reduceEq, Int.reduceLT, Int.reduceLE, Int.reduceToNat, Int.reduceNeg, Int.reduceAdd, Int.reduceSub, Int.reduceMul, reduceIte, reduceCtorEq, Nat.reducePow, Nat.reduceDiv, Nat.reduceMod, Int.reduceBEq, and_self, and_true, true_and, and_false, false_and, or_true, true_or, or_false, false_or, Int.natCast_nonneg, Int.toNat_natCast, not_true_eq_false, not_false_eq_true, List.size_toArray, Array.size_empty, List.getElem?_nil, A, F1, f1]
  | true =>
    obtain ⟨b1, c1⟩ := few_lab f1 hf
    have M1 := matches_ev fu (n+5) l (by omega) hl (by omega)
    cases w1 : walkOk l with
    | false =>
      have D1 := depths_ev fu (n+5) l (by omega) hl (by omega)
      rw [depthsF_no l w1] at D1
      have S1 := bodySane_ev fu (n+1) l (by omega) hl (by omega) b1
      have s1 : bodySane l = false := by unfold bodySane; simp [w1]
      simp only [go_sem, Nat.reduceAdd, Nat.reduceMul, Nat.reduceSub, Nat.reduceLT, Nat.reduceLeDiff, Nat.reduceEqDiff, Nat.reduceBEq, Nat.reduceBeqDiff, Int.reduceEq, Int.reduceLT, Int.reduceLE, Int.reduceToNat, Int.reduceNeg, Int.reduceAdd, Int.reduceSub, Int.reduceMul, reduceIte, reduceCtorEq, Nat.reducePow, Nat.reduceDiv, Nat.reduceMod, Int.reduceBEq, and_self, and_true, true_and, and_false, false_and, or_true, true_or, or_false, false_or, Int.natCast_nonneg, Int.toNat_natCast, not_true_eq_false, not_false_eq_true, List.size_toArray, Array.size_empty, List.getElem?_nil, A, F1, f1, M1, w1, matchesF_no l w1, D1, S1, s1, List.length_nil]
    | true =>
      have hml := matchesF_len l w1
      simp only [go_sem, Nat.reduceAdd, Nat.reduceMul, Nat.reduceSub, Nat.reduceLT, Nat.reduceLeDiff, Nat.reduceEqDiff, Nat.reduceBEq, Nat.reduceBeqDiff, Int.reduceEq, Int.reduceLT, Int.reduceLE, Int.reduceToNat, Int.reduceNeg, Int.reduceAdd, Int.reduceSub, Int.reduceMul, reduceIte, reduceCtorEq, Nat.reducePow, Nat.reduceDiv, Nat.reduceMod, Int.reduceBEq, and_self, and_true, true_and, and_false, false_and, or_true, true_or, or_false, false_or, Int.natCast_nonneg, Int.toNat_natCast, not_true_eq_false, not_false_eq_true, List.size_toArray, Array.size_empty, List.getElem?_nil, A, F1, f1, M1, w1, List.length_map]
      rw [loop_some l.length (fun i => ⟨[(0, .d (.list (l.map TInstr.d))), (3, .d (.bool true)), (4, .row 1152 0 0 (matchesF l).length), (6, .d (.int .i64 (cnt (endB l) i))), (7, .d (.int .i64 (cnt (openB l) i))), (8, .d (.int .i64 i))], [(1152, .row 2 ((matchesF l).map nestD) 0 false false)]⟩)
        (.exit 0, ⟨[(0, .d (.list (l.map TInstr.d))), (3, .d (.bool true)), (4, .row 1152 0 0 (matchesF l).length), (6, .d (.int .i64 (cnt (endB l) l.length))), (7, .d (.int .i64 (cnt (openB l) l.length)))], [(1152, .row 2 ((matchesF l).map nestD) 0 false false)]⟩) trivial hl ?_]
      case hs =>
        intro k hk
        have hx : (l.map TInstr.d)[k]? = some (l.getD k in0).d := getD_map (by omega)
        have hkI : (k : Int) < l.length := by omega
        have ce := cnt_le (endB l) k
        have co := cnt_le (openB l) k
        have We := wrap_i64 (show -9223372036854775808 ≤ (cnt (endB l) k : Int) + 1 by omega) (by omega)
        have Wo := wrap_i64 (show -9223372036854775808 ≤ (cnt (openB l) k : Int) + 1 by omega) (by omega)
        have Wk := wrap_i64 (show -9223372036854775808 ≤ (k : Int) + 1 by omega) (by omega)
        have cE : cnt (endB l) (k + 1) = if (l.getD k in0).op = 11 then cnt (endB l) k + 1 else cnt (endB l) k := by simp [cnt, endB, opAt]
        have cO : cnt (openB l) (k + 1) = if 2 ≤ (l.getD k in0).op ∧ (l.getD k in0).op ≤ 4 then cnt (openB l) k + 1 else cnt (openB l) k := by
          simp only [cnt]
          by_cases q : 2 ≤ (l.getD k in0).op ∧ (l.getD k in0).op ≤ 4
          · rw [if_pos q, if_pos ((openB_iff l k).2 q)]
          · rw [if_neg q, if_neg (fun h => q ((openB_iff l k).1 h))]
        by_cases h11 : (l.getD k in0).op = 11
        · rw [h11] at cE cO
          rw [if_pos rfl] at cE
          rw [if_neg (by omega)] at cO
          rw [cE, cO]
          simp only [go_sem, Nat.reduceAdd, Nat.reduceMul, Nat.reduceSub, Nat.reduceLT, Nat.reduceLeDiff, Nat.reduceEqDiff, Nat.reduceBEq, Nat.reduceBeqDiff, Int.reduceEq, Int.reduceLT, Int.reduceLE, Int.reduceToNat, Int.reduceNeg, Int.reduceAdd, Int.reduceSub, Int.reduceMul, reduceIte, reduceCtorEq, Nat.reducePow, Nat.reduceDiv, Nat.reduceMod, Int.reduceBEq, and_self, and_true, true_and, and_false, false_and, or_true, true_or, or_false, false_or, Int.natCast_nonneg, Int.toNat_natCast, not_true_eq_false, not_false_eq_true, List.size_toArray, Array.size_empty, List.getElem?_nil, List.length_map, hkI, idx, hx, TInstr.d, h11, We, Wk]
          try rfl
        · rw [if_neg h11] at cE
          by_cases hlo : (l.getD k in0).op < 2
          · rw [if_neg (by omega)] at cO
            rw [cE, cO]
            simp only [go_sem, Nat.reduceAdd, Nat.reduceMul, Nat.reduceSub, Nat.reduceLT, Nat.reduceLeDiff, Nat.reduceEqDiff, Nat.reduceBEq, Nat.reduceBeqDiff, Int.reduceEq, Int.reduceLT, Int.reduceLE, Int.reduceToNat, Int.reduceNeg, Int.reduceAdd, Int.reduceSub, Int.reduceMul, reduceIte, reduceCtorEq, Nat.reducePow, Nat.reduceDiv, Nat.reduceMod, Int.reduceBEq, and_self, and_true, true_and, and_false, false_and, or_true, true_or, or_false, false_or, Int.natCast_nonneg, Int.toNat_natCast, not_true_eq_false, not_false_eq_true, List.size_toArray, Array.size_empty, List.getElem?_nil, List.length_map, hkI, idx, hx, TInstr.d, h11, hlo, We, Wk]
            try rfl
          · by_cases hhi : 4 < (l.getD k in0).op
            · rw [if_neg (by omega)] at cO
              rw [cE, cO]
              simp only [go_sem, Nat.reduceAdd, Nat.reduceMul, Nat.reduceSub, Nat.reduceLT, Nat.reduceLeDiff, Nat.reduceEqDiff, Nat.reduceBEq, Nat.reduceBeqDiff, Int.reduceEq, Int.reduceLT, Int.reduceLE, Int.reduceToNat, Int.reduceNeg, Int.reduceAdd, Int.reduceSub, Int.reduceMul, reduceIte, reduceCtorEq, Nat.reducePow, Nat.reduceDiv, Nat.reduceMod, Int.reduceBEq, and_self, and_true, true_and, and_false, false_and, or_true, true_or, or_false, false_or, Int.natCast_nonneg, Int.toNat_natCast, not_true_eq_false, not_false_eq_true, List.size_toArray, Array.size_empty, List.getElem?_nil, List.length_map, hkI, idx, hx, TInstr.d, h11, hlo, hhi, We, Wk]
              try rfl
            · rw [if_pos (by omega)] at cO
              rw [cE, cO]
              have ho : openB l k = true := (openB_iff l k).2 ⟨by unfold opAt; omega, by unfold opAt; omega⟩
              obtain ⟨e, o, p1, p2, p3, p4, p5⟩ := parts w1 hk ho
              have hy : ((matchesF l).map nestD)[k]? = some (nestD (o, (e : Int))) := by rw [getD_map (d := n0) (by omega), p1]
              have hkM : (k : Int) < (matchesF l).length := by omega
              have heI : (e : Int) < l.length := by omega
              have hz : (l.map TInstr.d)[e]? = some (l.getD e in0).d := getD_map (by omega)
              have e1 : ¬ (e : Int) ≤ k := by omega
              have e2 : ¬ (l.length : Int) ≤ e := by omega
              unfold opAt at p4 p5
              rcases p5 with rfl | ⟨m, rfl, m1, m2, m3⟩
              case' inl =>
                simp only [go_sem, Nat.reduceAdd, Nat.reduceMul, Nat.reduceSub, Nat.reduceLT, Nat.reduceLeDiff, Nat.reduceEqDiff, Nat.reduceBEq, Nat.reduceBeqDiff, Int.reduceEq, Int.reduceLT, Int.reduceLE, Int.reduceToNat, Int.reduceNeg, Int.reduceAdd, Int.reduceSub, Int.reduceMul, reduceIte, reduceCtorEq, Nat.reducePow, Nat.reduceDiv, Nat.reduceMod, Int.reduceBEq, and_self, and_true, true_and, and_false, false_and, or_true, true_or, or_false, false_or, Int.natCast_nonneg, Int.toNat_natCast, not_true_eq_false, not_false_eq_true, List.size_toArray, Array.size_empty, List.getElem?_nil, List.length_map, hkI, idx, hx, TInstr.d, h11, hlo, hhi, We, Wk, Wo, hy, nestD, hkM, e1, e2, heI, hz, p4, List.append_eq, List.cons_append, List.nil_append]
              case' inr =>
                have m4 : ¬ (m : Int) = -1 := by omega
                have m5 : ¬ (m : Int) ≤ k := by omega
                have m6 : ¬ (e : Int) ≤ m := by omega
                simp only [go_sem, Nat.reduceAdd, Nat.reduceMul, Nat.reduceSub, Nat.reduceLT, Nat.reduceLeDiff, Nat.reduceEqDiff, Nat.reduceBEq, Nat.reduceBeqDiff, Int.reduceEq, Int.reduceLT, Int.reduceLE, Int.reduceToNat, Int.reduceNeg, Int.reduceAdd, Int.reduceSub, Int.reduceMul, reduceIte, reduceCtorEq, Nat.reducePow, Nat.reduceDiv, Nat.reduceMod, Int.reduceBEq, and_self, and_true, true_and, and_false, false_and, or_true, true_or, or_false, false_or, Int.natCast_nonneg, Int.toNat_natCast, not_true_eq_false, not_false_eq_true, List.size_toArray, Array.size_empty, List.getElem?_nil, List.length_map, hkI, idx, hx, TInstr.d, h11, hlo, hhi, We, Wk, Wo, hy, nestD, hkM, e1, e2, heI, hz, p4, m4, m5, m6, m3, List.append_eq, List.cons_append, List.nil_append]
              all_goals
                rw [loop_some k (fun j => ⟨[(0, .d (.list (l.map TInstr.d))), (3, .d (.bool true)), (4, .row 1152 0 0 (matchesF l).length), (6, .d (.int .i64 (cnt (endB l) k))), (7, .d (.int .i64 ((cnt (openB l) k : Int) + 1))), (8, .d (.int .i64 k)), (9, .d (.int .i64 j))], [(1152, .row 2 ((matchesF l).map nestD) 0 false false)]⟩)
                  (.exit 2, ⟨[(0, .d (.list (l.map TInstr.d))), (3, .d (.bool true)), (4, .row 1152 0 0 (matchesF l).length), (6, .d (.int .i64 (cnt (endB l) k))), (7, .d (.int .i64 ((cnt (openB l) k : Int) + 1))), (8, .d (.int .i64 k))], [(1152, .row 2 ((matchesF l).map nestD) 0 false false)]⟩) trivial (by omega) ?_]
                case hs =>
                  intro j hj
                  have jx : (l.map TInstr.d)[j]? = some (l.getD j in0).d := getD_map (by omega)
                  have jy : ((matchesF l).map nestD)[j]? = some (nestD ((matchesF l).getD j n0)) := getD_map (by omega)
                  have hjI : (j : Int) < l.length := by omega
                  have hjk : (j : Int) < k := by omega
                  have hjM : (j : Int) < (matchesF l).length := by omega
                  have Wj := wrap_i64 (show -9223372036854775808 ≤ (j : Int) + 1 by omega) (by omega)
                  by_cases a1 : 2 ≤ (l.getD j in0).op
                  · by_cases a2 : (l.getD j in0).op ≤ 4
                    · by_cases a3 : (k : Int) < ((matchesF l).getD j n0).2
                      · have a4 := nested w1 hj hk ((openB_iff l j).2 ⟨a1, a2⟩) ho a3
                        rw [p1] at a4
                        have a5 : ¬ ((matchesF l).getD j n0).2 ≤ (e : Int) := by simp only at a4; omega
                        simp only [go_sem, Nat.reduceAdd, Nat.reduceMul, Nat.reduceSub, Nat.reduceLT, Nat.reduceLeDiff, Nat.reduceEqDiff, Nat.reduceBEq, Nat.reduceBeqDiff, Int.reduceEq, Int.reduceLT, Int.reduceLE, Int.reduceToNat, Int.reduceNeg, Int.reduceAdd, Int.reduceSub, Int.reduceMul, reduceIte, reduceCtorEq, Nat.reducePow, Nat.reduceDiv, Nat.reduceMod, Int.reduceBEq, and_self, and_true, true_and, and_false, false_and, or_true, true_or, or_false, false_or, Int.natCast_nonneg, Int.toNat_natCast, not_true_eq_false, not_false_eq_true, List.size_toArray, Array.size_empty, List.getElem?_nil, List.length_map, hjI, hjk, hkI, hjM, hkM, idx, hy, jx, jy, TInstr.d, nestD, a1, a2, a3, a5, Wj]
                        rfl
                      · simp only [go_sem, Nat.reduceAdd, Nat.reduceMul, Nat.reduceSub, Nat.reduceLT, Nat.reduceLeDiff, Nat.reduceEqDiff, Nat.reduceBEq, Nat.reduceBeqDiff, Int.reduceEq, Int.reduceLT, Int.reduceLE, Int.reduceToNat, Int.reduceNeg, Int.reduceAdd, Int.reduceSub, Int.reduceMul, reduceIte, reduceCtorEq, Nat.reducePow, Nat.reduceDiv, Nat.reduceMod, Int.reduceBEq, and_self, and_true, true_and, and_false, false_and, or_true, true_or, or_false, false_or, Int.natCast_nonneg, Int.toNat_natCast, not_true_eq_false, not_false_eq_true, List.size_toArray, Array.size_empty, List.getElem?_nil, List.length_map, hjI, hjk, hkI, hjM, hkM, idx, hy, jx, jy, TInstr.d, nestD, a1, a2, a3, Wj]
                        rfl
                    · simp only [go_sem, Nat.reduceAdd, Nat.reduceMul, Nat.reduceSub, Nat.reduceLT, Nat.reduceLeDiff, Nat.reduceEqDiff, Nat.reduceBEq, Nat.reduceBeqDiff, Int.reduceEq, Int.reduceLT, Int.reduceLE, Int.reduceToNat, Int.reduceNeg, Int.reduceAdd, Int.reduceSub, Int.reduceMul, reduceIte, reduceCtorEq, Nat.reducePow, Nat.reduceDiv, Nat.reduceMod, Int.reduceBEq, and_self, and_true, true_and, and_false, false_and, or_true, true_or, or_false, false_or, Int.natCast_nonneg, Int.toNat_natCast, not_true_eq_false, not_false_eq_true, List.size_toArray, Array.size_empty, List.getElem?_nil, List.length_map, hjI, hjk, hkI, hjM, hkM, idx, hy, jx, jy, TInstr.d, nestD, a1, a2, Wj]
                      rfl
                  · simp only [go_sem, Nat.reduceAdd, Nat.reduceMul, Nat.reduceSub, Nat.reduceLT, Nat.reduceLeDiff, Nat.reduceEqDiff, Nat.reduceBEq, Nat.reduceBeqDiff, Int.reduceEq, Int.reduceLT, Int.reduceLE, Int.reduceToNat, Int.reduceNeg, Int.reduceAdd, Int.reduceSub, Int.reduceMul, reduceIte, reduceCtorEq, Nat.reducePow, Nat.reduceDiv, Nat.reduceMod, Int.reduceBEq, and_self, and_true, true_and, and_false, false_and, or_true, true_or, or_false, false_or, Int.natCast_nonneg, Int.toNat_natCast, not_true_eq_false, not_false_eq_true, List.size_toArray, Array.size_empty, List.getElem?_nil, List.length_map, hjI, hjk, hkI, hjM, hkM, idx, hy, jx, jy, TInstr.d, nestD, a1, Wj]
                    rfl
                case he => simp only [go_sem, Nat.reduceAdd, Nat.reduceMul, Nat.reduceSub, Nat.reduceLT, Nat.reduceLeDiff, Nat.reduceEqDiff, Nat.reduceBEq, Nat.reduceBeqDiff, Int.reduceEq, Int.reduceLT, Int.reduceLE, Int.reduceToNat, Int.reduceNeg, Int.reduceAdd, Int.reduceSub, Int.reduceMul, reduceIte, reduceCtorEq, Nat.reducePow, Nat.reduceDiv, Nat.reduceMod, Int.reduceBEq, and_self, and_true, true_and, and_false, false_and, or_true, true_or, or_false, false_or, Int.natCast_nonneg, Int.toNat_natCast, not_true_eq_false, not_false_eq_true, List.size_toArray, Array.size_empty, List.getElem?_nil, Int.lt_irrefl]
                · simp only [go_sem, Nat.reduceAdd, Nat.reduceMul, Nat.reduceSub, Nat.reduceLT, Nat.reduceLeDiff, Nat.reduceEqDiff, Nat.reduceBEq, Nat.reduceBeqDiff, Int.reduceEq, Int.reduceLT, Int.reduceLE, Int.reduceToNat, Int.reduceNeg, Int.reduceAdd, Int.reduceSub, Int.reduceMul, reduceIte, reduceCtorEq, Nat.reducePow, Nat.reduceDiv, Nat.reduceMod, Int.reduceBEq, and_self, and_true, true_and, and_false, false_and, or_true, true_or, or_false, false_or, Int.natCast_nonneg, Int.toNat_natCast, not_true_eq_false, not_false_eq_true, List.size_toArray, Array.size_empty, List.getElem?_nil, Wk]
                  try rfl
                · rfl
      case he =>
        simp only [go_sem, Nat.reduceAdd, Nat.reduceMul, Nat.reduceSub, Nat.reduceLT, Nat.reduceLeDiff, Nat.reduceEqDiff, Nat.reduceBEq, Nat.reduceBeqDiff, Int.reduceEq, Int.reduceLT, Int.reduceLE, Int.reduceToNat, Int.reduceNeg, Int.reduceAdd, Int.reduceSub, Int.reduceMul, reduceIte, reduceCtorEq, Nat.reducePow, Nat.reduceDiv, Nat.reduceMod, Int.reduceBEq, and_self, and_true, true_and, and_false, false_and, or_true, true_or, or_false, false_or, Int.natCast_nonneg, Int.toNat_natCast, not_true_eq_false, not_false_eq_true, List.size_toArray, Array.size_empty, List.getElem?_nil, List.length_map, Int.lt_irrefl]
      · simp only [go_sem, Nat.reduceAdd, Nat.reduceMul, Nat.reduceSub, Nat.reduceLT, Nat.reduceLeDiff, Nat.reduceEqDiff, Nat.reduceBEq, Nat.reduceBeqDiff, Int.reduceEq, Int.reduceLT, Int.reduceLE, Int.reduceToNat, Int.reduceNeg, Int.reduceAdd, Int.reduceSub, Int.reduceMul, reduceIte, reduceCtorEq, Nat.reducePow, Nat.reduceDiv, Nat.reduceMod, Int.reduceBEq, and_self, and_true, true_and, and_false, false_and, or_true, true_or, or_false, false_or, Int.natCast_nonneg, Int.toNat_natCast, not_true_eq_false, not_false_eq_true, List.size_toArray, Array.size_empty, List.getElem?_nil, List.length_map, hml, cnt_eq w1]
      · rfl
theorem BodyNests.pure (l : List TInstr) (hl : l.length ≤ maxLen ∧ ∀ z ∈ l, z.ok) : ∃ fu n, evF (G fu) n 3 [.d (.list (l.map TInstr.d))] [] = some (.d (.bool true), []) :=
  ⟨1001 + l.length, 11, nests_ev _ 0 l (by omega) (by omega) hl.1⟩
end Go.Proofs.YtklnkkejkeelaaaDoor.E
