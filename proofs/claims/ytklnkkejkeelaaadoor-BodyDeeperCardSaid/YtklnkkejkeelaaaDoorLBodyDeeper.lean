/- THE LAW BodyDeeper, read. -/
import Derived.Test.YtklnkkejkeelaaaDoorA06
import Derived.Test.YtklnkkejkeelaaaDoorT08
import Derived.Test.YtklnkkejkeelaaaDoorLBodyTargets
set_option linter.unnecessarySimpa false
set_option linter.unusedSimpArgs false
set_option linter.unusedVariables false
set_option autoImplicit false
set_option maxRecDepth 100000
set_option maxHeartbeats 4000000
set_option linter.unusedSimpArgs false
set_option linter.unusedVariables false
set_option pp.maxSteps 20000
namespace Go.Proofs.YtklnkkejkeelaaaDoor.E
open Go.Ev
theorem deeper_ev (fu n : Nat) (l : List TInstr) (at_ : Int) (hf : 1000 < fu) (hl : l.length + 2 < fu) (hl9 : l.length ≤ maxLen) :
    evF (G fu) (n+11) 5 [.d (.list (l.map TInstr.d)), .d (.int .i64 at_)] [] = some (.d (.bool true), []) := by
  have A := awake06_ev fu n (by omega)
  have F1 := few_ev fu (n+9) l 100 (by omega) hl9
  rw [evF.eq_2, evX.eq_def, Gext, GP, Tryd.func5]; simp only [Tryd.f5, evB]
  cases f1 : few l 100 with
  | false => simp only [go_sem, Nat.reduceAdd, Nat.reduceMul, Nat.reduceSub, Nat.reduceLT, Nat.reduceLeDiff, Nat.reduceEqDiff, Nat.reduceBEq, Nat.reduceBeqDiff, Int.reduceEq, Int.reduceLT, Int.reduceLE, Int.reduceToNat, Int.reduceNeg, Int.reduceAdd, Int.reduceSub, Int.reduceMul, reduceIte, reduceCtorEq, Nat.reducePow, Nat.reduceDiv, Nat.reduceMod, Int.reduceBEq, and_self, and_true, true_and, and_false, false_and, or_true, true_or, or_false, false_or, Int.natCast_nonneg, Int.toNat_natCast, not_true_eq_false, not_false_eq_true, List.size_toArray, Array.size_empty, List.getElem?_nil, A, F1, f1]
  | true =>
    obtain ⟨b1, c1⟩ := few_lab f1 hf
    by_cases hnil : (l.length : Int) = 0
    · simp only [go_sem, Nat.reduceAdd, Nat.reduceMul, Nat.reduceSub, Nat.reduceLT, Nat.reduceLeDiff, Nat.reduceEqDiff, Nat.reduceBEq, Nat.reduceBeqDiff, Int.reduceEq, Int.reduceLT, Int.reduceLE, Int.reduceToNat, Int.reduceNeg, Int.reduceAdd, Int.reduceSub, Int.reduceMul, reduceIte, reduceCtorEq, Nat.reducePow, Nat.reduceDiv, Nat.reduceMod, Int.reduceBEq, and_self, and_true, true_and, and_false, false_and, or_true, true_or, or_false, false_or, Int.natCast_nonneg, Int.toNat_natCast, not_true_eq_false, not_false_eq_true, List.size_toArray, Array.size_empty, List.getElem?_nil, A, F1, f1, List.length_map, hnil]
    · have D1 := depths_ev fu (n+5) l (by omega) (by omega) (by omega)
      have D2 := depths_ev fu (n+5) (inn l) (by omega) (by rw [inn_len]; omega) (by rw [inn_len]; omega)
      have hinn : (inn l).map TInstr.d = blk.d :: (l.map TInstr.d ++ [fin_.d]) := by simp [inn]
      rw [hinn] at D2
      have t0 := take_all (blk.d :: l.map TInstr.d) (n := 1 + l.length) (by simp; omega)
      have t1 := take_all (blk.d :: (l.map TInstr.d ++ [fin_.d])) (n := 1 + l.length + 1) (by simp; omega)
      simp only [blk, fin_, TInstr.d, List.map_nil] at D2 t0 t1
      have r1 : l.length + 1 ≤ 1099511627776 := by omega
      have r1' : 1 + l.length ≤ 1099511627776 := by omega
      have r2 : 1 + l.length + 1 ≤ 1099511627776 := by omega
      cases w1 : walkOk l with
      | false =>
        rw [depthsF_no l w1] at D1
        have h0 : ¬ (0 : Int) = l.length := fun e => hnil e.symm
        cases w2 : walkOk (inn l) with
        | false =>
          rw [depthsF_no _ w2] at D2
          simp only [go_sem, Nat.reduceAdd, Nat.reduceMul, Nat.reduceSub, Nat.reduceLT, Nat.reduceLeDiff, Nat.reduceEqDiff, Nat.reduceBEq, Nat.reduceBeqDiff, Int.reduceEq, Int.reduceLT, Int.reduceLE, Int.reduceToNat, Int.reduceNeg, Int.reduceAdd, Int.reduceSub, Int.reduceMul, reduceIte, reduceCtorEq, Nat.reducePow, Nat.reduceDiv, Nat.reduceMod, Int.reduceBEq, and_self, and_true, true_and, and_false, false_and, or_true, true_or, or_false, false_or, Int.natCast_nonneg, Int.toNat_natCast, not_true_eq_false, not_false_eq_true, List.size_toArray, Array.size_empty, List.getElem?_nil, A, F1, f1, D1, D2, List.length_nil, h0, List.length_map, hnil, sizedI, r1, r1', r2, t0, t1, List.length_append]
        | true =>
          have e2 := depthsF_len _ w2
          rw [inn_len] at e2
          have h1 : ¬ ((1 + l.length + 1 : Nat) : Int) = 0 := by omega
          have h1' : ¬ ((l.length + 2 : Nat) : Int) = 0 := by omega
          have h2 : ((l.length + 2 : Nat) : Int) = ((1 + l.length + 1 : Nat) : Int) := by omega
          simp only [go_sem, Nat.reduceAdd, Nat.reduceMul, Nat.reduceSub, Nat.reduceLT, Nat.reduceLeDiff, Nat.reduceEqDiff, Nat.reduceBEq, Nat.reduceBeqDiff, Int.reduceEq, Int.reduceLT, Int.reduceLE, Int.reduceToNat, Int.reduceNeg, Int.reduceAdd, Int.reduceSub, Int.reduceMul, reduceIte, reduceCtorEq, Nat.reducePow, Nat.reduceDiv, Nat.reduceMod, Int.reduceBEq, and_self, and_true, true_and, and_false, false_and, or_true, true_or, or_false, false_or, Int.natCast_nonneg, Int.toNat_natCast, not_true_eq_false, not_false_eq_true, List.size_toArray, Array.size_empty, List.getElem?_nil, A, F1, f1, D1, D2, List.length_nil, h0, e2, h1, h1', h2, List.length_map, hnil, sizedI, r1, r1', r2, t0, t1, List.length_append]
      | true =>
        obtain ⟨w2, dd⟩ := inn_depths w1
        have e1 := depthsF_len _ w1
        have e2 := depthsF_len _ w2
        rw [inn_len] at e2
        obtain ⟨kk, hkk⟩ : ∃ kk : Nat, (at_ % 65536).tmod (l.length : Int) = kk := by
          have h0 : 0 ≤ at_ % 65536 := Int.emod_nonneg _ (by decide)
          exact ⟨((at_ % 65536).tmod (l.length : Int)).toNat, by have := Int.tmod_nonneg (l.length : Int) h0; omega⟩
        have hkl : kk < l.length := by
          have := Int.tmod_lt_of_pos (at_ % 65536) (show (0 : Int) < l.length by omega)
          omega
        obtain ⟨x1, x2, x3⟩ := inn_targets w1 hkl
        obtain ⟨dr1, dr2⟩ := depth_range w1 hkl
        have T1 := target_ev fu (n+4) l (kk : Int) 0 (by omega) (by omega) (by omega) (by omega)
        have T2 := target_ev fu (n+4) (inn l) ((kk + 1 : Nat) : Int) 0 (by omega) (by omega) (by rw [inn_len]; omega) (by rw [inn_len]; omega)
        have T3 := target_ev fu (n+4) (inn l) ((kk + 1 : Nat) : Int) ((depthsF l).getD kk 0 + 1) (by omega) (by omega) (by rw [inn_len]; omega) (by rw [inn_len]; omega)
        rw [x1] at T1
        rw [x2] at T2
        rw [x3, inn_len] at T3
        rw [hinn] at T2 T3
        simp only [blk, fin_, TInstr.d, List.map_nil] at T2 T3
        generalize hE : (depthsF (inn l)).map (D.int .i64) = E at D2
        have hE0 : E[0]? = some (.int .i64 0) := by rw [← hE, dd]; rfl
        have hEl : E[l.length + 1]? = some (.int .i64 0) := by
          rw [← hE, dd]
          simp [e1]
        have hEi : ∀ i, i < l.length → E[i + 1]? = some (.int .i64 ((depthsF l).getD i 0 + 1)) := fun i hi => by
          rw [← hE, dd]
          simp only [List.cons_append, List.nil_append, List.map_cons, List.getElem?_cons_succ, List.map_append, List.map_map]
          rw [List.getElem?_append_left (by simp [e1]; exact hi)]
          simp [e1, hi]
        have hd : ∀ i, i < l.length → ((depthsF l).map (D.int .i64))[i]? = some (.int .i64 ((depthsF l).getD i 0)) := fun i hi => getD_map (f := D.int .i64) (by omega)
        have g1 : ((1 + l.length + 1 : Nat) : Int) = ((l.length + 2 : Nat) : Int) := by omega
        have g2 : ((l.length + 2 : Nat) : Int) - 1 = ((l.length + 1 : Nat) : Int) := by omega
        have W0 := wrap_i64 (show -9223372036854775808 ≤ ((l.length + 1 : Nat) : Int) by omega) (by omega)
        have g3 : ((l.length + 1 : Nat) : Int) < ((l.length + 2 : Nat) : Int) := by omega
        have g4 : (0 : Int) < ((l.length + 2 : Nat) : Int) := by omega
        simp only [go_sem, Nat.reduceAdd, Nat.reduceMul, Nat.reduceSub, Nat.reduceLT, Nat.reduceLeDiff, Nat.reduceEqDiff, Nat.reduceBEq, Nat.reduceBeqDiff, Int.reduceEq, Int.reduceLT, Int.reduceLE, Int.reduceToNat, Int.reduceNeg, Int.reduceAdd, Int.reduceSub, Int.reduceMul, reduceIte, reduceCtorEq, Nat.reducePow, Nat.reduceDiv, Nat.reduceMod, Int.reduceBEq, and_self, and_true, true_and, and_false, false_and, or_true, true_or, or_false, false_or, Int.natCast_nonneg, Int.toNat_natCast, not_true_eq_false, not_false_eq_true, List.size_toArray, Array.size_empty, List.getElem?_nil, A, F1, f1, D1, D2, e1, e2, idx, hE0, hEl, g1, g2, g3, g4, W0, List.length_map, hnil, sizedI, r1, r1', r2, t0, t1, List.length_append]
        rw [loop_some l.length (fun i => ⟨[(0, .d (.list (l.map TInstr.d))), (1, .d (.int .i64 at_)), (5, .d (.bool true)), (6, .row 1856 0 0 (1 + l.length + 1)), (7, .row 2368 0 0 l.length), (8, .row 2496 0 0 (l.length + 2)), (9, .d (.int .i64 i))], [(1856, .row 5 (D.agg [D.int IntKind.i64 2, D.int IntKind.i64 0, D.int IntKind.i64 0, D.int IntKind.u64 0, D.list []] :: (List.map TInstr.d l ++ [D.agg [D.int IntKind.i64 11, D.int IntKind.i64 0, D.int IntKind.i64 0, D.int IntKind.u64 0, D.list []]])) 0 true true), (2368, .row 1 ((depthsF l).map (D.int .i64)) 0 false false), (2496, .row 1 E 0 false false)]⟩)
          (.exit 0, ⟨[(0, .d (.list (l.map TInstr.d))), (1, .d (.int .i64 at_)), (5, .d (.bool true)), (6, .row 1856 0 0 (1 + l.length + 1)), (7, .row 2368 0 0 l.length)], [(1856, .row 5 (D.agg [D.int IntKind.i64 2, D.int IntKind.i64 0, D.int IntKind.i64 0, D.int IntKind.u64 0, D.list []] :: (List.map TInstr.d l ++ [D.agg [D.int IntKind.i64 11, D.int IntKind.i64 0, D.int IntKind.i64 0, D.int IntKind.u64 0, D.list []]])) 0 true true), (2368, .row 1 ((depthsF l).map (D.int .i64)) 0 false false)]⟩) trivial (show l.length < fu by omega) ?_]
        case hs =>
          intro i hi
          obtain ⟨q1, q2⟩ := depth_range w1 hi
          have V1 := wrap_i64 (show -9223372036854775808 ≤ (i : Int) + 1 by omega) (by omega)
          have V2 := wrap_i64 (show -9223372036854775808 ≤ (depthsF l).getD i 0 + 1 by omega) (by omega)
          have j1 : (0 : Int) ≤ (i : Int) + 1 := by omega
          have j2 : (i : Int) + 1 < ((l.length + 2 : Nat) : Int) := by omega
          have j3 : ((i : Int) + 1).toNat = i + 1 := by omega
          simp only [go_sem, Nat.reduceAdd, Nat.reduceMul, Nat.reduceSub, Nat.reduceLT, Nat.reduceLeDiff, Nat.reduceEqDiff, Nat.reduceBEq, Nat.reduceBeqDiff, Int.reduceEq, Int.reduceLT, Int.reduceLE, Int.reduceToNat, Int.reduceNeg, Int.reduceAdd, Int.reduceSub, Int.reduceMul, reduceIte, reduceCtorEq, Nat.reducePow, Nat.reduceDiv, Nat.reduceMod, Int.reduceBEq, and_self, and_true, true_and, and_false, false_and, or_true, true_or, or_false, false_or, Int.natCast_nonneg, Int.toNat_natCast, not_true_eq_false, not_false_eq_true, List.size_toArray, Array.size_empty, List.getElem?_nil, Int.ofNat_lt, hi, idx, hEi i hi, hd i hi, V1, V2, j1, j2, j3]
          rfl
        case he => simp only [go_sem, Nat.reduceAdd, Nat.reduceMul, Nat.reduceSub, Nat.reduceLT, Nat.reduceLeDiff, Nat.reduceEqDiff, Nat.reduceBEq, Nat.reduceBeqDiff, Int.reduceEq, Int.reduceLT, Int.reduceLE, Int.reduceToNat, Int.reduceNeg, Int.reduceAdd, Int.reduceSub, Int.reduceMul, reduceIte, reduceCtorEq, Nat.reducePow, Nat.reduceDiv, Nat.reduceMod, Int.reduceBEq, and_self, and_true, true_and, and_false, false_and, or_true, true_or, or_false, false_or, Int.natCast_nonneg, Int.toNat_natCast, not_true_eq_false, not_false_eq_true, List.size_toArray, Array.size_empty, List.getElem?_nil, Int.ofNat_lt, Nat.lt_irrefl]
        · have V1 := wrap_i64 (show -9223372036854775808 ≤ (kk : Int) + 1 by omega) (by omega)
          have V2 := wrap_i64 (show -9223372036854775808 ≤ (depthsF l).getD kk 0 + 1 by omega) (by omega)
          have V3 : IntKind.wrap .i64 ((targetF l kk 0).1 + 1) = (targetF l kk 0).1 + 1 := by
            obtain ⟨st, hst⟩ := walkSt_ok w1 (k := kk) (by omega)
            obtain ⟨p1, p2, p3, p4⟩ := pick_ok (l := l) (M := matchesF l) (L := encl l kk st) (left := 0) (Int.le_refl _)
            rw [tgt_encl w1 hkl hst (Int.le_refl _)]
            rcases Nat.eq_zero_or_pos (encl l kk st).length with z | z
            · rw [p3 (by omega)]
              exact wrap_i64 (by omega) (by omega)
            · obtain ⟨p, z1, z2⟩ := p4 (by omega)
              obtain ⟨m, m1, m2, _⟩ := target_in w1 hkl hst z1 z2
              rw [m1]
              exact wrap_i64 (by omega) (by omega)
          have k1 : (((kk + 1 : Nat) : Int)) = (kk : Int) + 1 := by omega
          rw [k1] at T2 T3
          have hk0 : (kk : Int) < l.length := by omega
          simp only [go_sem, Nat.reduceAdd, Nat.reduceMul, Nat.reduceSub, Nat.reduceLT, Nat.reduceLeDiff, Nat.reduceEqDiff, Nat.reduceBEq, Nat.reduceBeqDiff, Int.reduceEq, Int.reduceLT, Int.reduceLE, Int.reduceToNat, Int.reduceNeg, Int.reduceAdd, Int.reduceSub, Int.reduceMul, reduceIte, reduceCtorEq, Nat.reducePow, Nat.reduceDiv, Nat.reduceMod, Int.reduceBEq, and_self, and_true, true_and, and_false, false_and, or_true, true_or, or_false, false_or, Int.natCast_nonneg, Int.toNat_natCast, not_true_eq_false, not_false_eq_true, List.size_toArray, Array.size_empty, List.getElem?_nil, List.length_map, and_ffff, hkk, hnil, T1, T2, T3, V1, V2, V3, idx, hk0, hd kk hkl, t1, g1]
        · rfl
theorem BodyDeeper.pure (l : List TInstr) (hl : l.length ≤ maxLen ∧ ∀ z ∈ l, z.ok) (a : Int) (ha : rng .i64 a) : ∃ fu n, evF (G fu) n 5 [.d (.list (l.map TInstr.d)), .d (.int .i64 a)] [] = some (.d (.bool true), []) :=
  ⟨1003 + l.length, 11, deeper_ev _ 0 l a (by omega) (by omega) hl.1⟩
end Go.Proofs.YtklnkkejkeelaaaDoor.E
