/- THE LAW BodyRows, read. -/
import Derived.Test.YtklnkkejkeelaaaDoorA06
set_option linter.unnecessarySimpa false
set_option linter.unusedSimpArgs false
set_option linter.unusedVariables false
set_option autoImplicit false
set_option maxRecDepth 100000
set_option maxHeartbeats 4000000
set_option linter.unusedSimpArgs false
set_option linter.unusedVariables false
set_option pp.maxSteps 20000
namespace Go.Proofs.YtklnkkejkeelaaaDoor.E
open Go.Ev
theorem ints_ev (fu n : Nat) (a b : List Int) (h : a.length < fu) (hs : a.length < 1000000) : evF (G fu) (n+1) 21 [.d (.list (a.map (D.int .i64))), .d (.list (b.map (D.int .i64)))] [] = some (.d (.bool (decide (a = b))), []) := by
  rw [evF.eq_2, evX.eq_def, Gext, exts_no _ (f := 21) (by decide), GP, Tryd.func21]; simp only [Tryd.f21, evB]
  by_cases hl : a.length = b.length
  · simp only [go_sem, Nat.reduceAdd, Nat.reduceMul, Nat.reduceSub, Nat.reduceLT, Nat.reduceLeDiff, Nat.reduceEqDiff, Nat.reduceBEq, Nat.reduceBeqDiff, Int.reduceEq, Int.reduceLT, Int.reduceLE, Int.reduceToNat, Int.reduceNeg, Int.reduceAdd, Int.reduceSub, Int.reduceMul, reduceIte, reduceCtorEq, Nat.reducePow, Nat.reduceDiv, Nat.reduceMod, Int.reduceBEq, List.length_map, hl]
    rw [loop_scan b.length (fun i => ⟨[(0, .d (.list (a.map (D.int .i64)))), (1, .d (.list (b.map (D.int .i64)))), (5, .d (.int .i64 i))], []⟩) (fun i => decide (a.getD i 0 ≠ b.getD i 0)) (fun i => (.ret, ⟨[(4, V.d (D.bool false))], []⟩)) (.exit 0, ⟨[], []⟩) (by omega) (fun _ => trivial) trivial ?_]
    case hs =>
      intro i hi
      simp only [go_sem, Nat.reduceAdd, Nat.reduceMul, Nat.reduceSub, Nat.reduceLT, Nat.reduceLeDiff, Nat.reduceEqDiff, Nat.reduceBEq, Nat.reduceBeqDiff, Int.reduceEq, Int.reduceLT, Int.reduceLE, Int.reduceToNat, Int.reduceNeg, Int.reduceAdd, Int.reduceSub, Int.reduceMul, reduceIte, reduceCtorEq, Nat.reducePow, Nat.reduceDiv, Nat.reduceMod, Int.reduceBEq, List.length_map, hl, Int.ofNat_lt, hi, idx, getD_map (f := D.int .i64) (d := 0) (show i < a.length by omega), getD_map (f := D.int .i64) (d := 0) hi]
      by_cases hb : a.getD i 0 = b.getD i 0 <;> simp only [go_sem, Nat.reduceAdd, Nat.reduceMul, Nat.reduceSub, Nat.reduceLT, Nat.reduceLeDiff, Nat.reduceEqDiff, Nat.reduceBEq, Nat.reduceBeqDiff, Int.reduceEq, Int.reduceLT, Int.reduceLE, Int.reduceToNat, Int.reduceNeg, Int.reduceAdd, Int.reduceSub, Int.reduceMul, reduceIte, reduceCtorEq, Nat.reducePow, Nat.reduceDiv, Nat.reduceMod, Int.reduceBEq, hb, ne_eq, wrap_i64 (show -9223372036854775808 ≤ (i : Int) + 1 by omega) (by omega)] <;> rfl
    case he => simp only [go_sem, Nat.reduceAdd, Nat.reduceMul, Nat.reduceSub, Nat.reduceLT, Nat.reduceLeDiff, Nat.reduceEqDiff, Nat.reduceBEq, Nat.reduceBeqDiff, Int.reduceEq, Int.reduceLT, Int.reduceLE, Int.reduceToNat, Int.reduceNeg, Int.reduceAdd, Int.reduceSub, Int.reduceMul, reduceIte, reduceCtorEq, Nat.reducePow, Nat.reduceDiv, Nat.reduceMod, Int.reduceBEq, List.length_map, hl, Int.ofNat_lt, Nat.lt_irrefl]
    · unfold scan
      have := lists_same (d := 0) hl
      rw [hl] at this
      cases hf : first (fun i => decide (a.getD i 0 ≠ b.getD i 0)) 0 b.length with
      | none => simp only [go_sem, Nat.reduceAdd, Nat.reduceMul, Nat.reduceSub, Nat.reduceLT, Nat.reduceLeDiff, Nat.reduceEqDiff, Nat.reduceBEq, Nat.reduceBeqDiff, Int.reduceEq, Int.reduceLT, Int.reduceLE, Int.reduceToNat, Int.reduceNeg, Int.reduceAdd, Int.reduceSub, Int.reduceMul, reduceIte, reduceCtorEq, Nat.reducePow, Nat.reduceDiv, Nat.reduceMod, Int.reduceBEq, this.1 hf]
      | some i =>
        have hne : ¬ a = b := fun e => by rw [this.2 e] at hf; cases hf
        simp only [go_sem, Nat.reduceAdd, Nat.reduceMul, Nat.reduceSub, Nat.reduceLT, Nat.reduceLeDiff, Nat.reduceEqDiff, Nat.reduceBEq, Nat.reduceBeqDiff, Int.reduceEq, Int.reduceLT, Int.reduceLE, Int.reduceToNat, Int.reduceNeg, Int.reduceAdd, Int.reduceSub, Int.reduceMul, reduceIte, reduceCtorEq, Nat.reducePow, Nat.reduceDiv, Nat.reduceMod, Int.reduceBEq, hne]
    · rfl
  · have hne : ¬ a = b := fun e => hl (by rw [e])
    have hl2 : ¬ ((a.length : Int) = b.length) := by omega
    simp only [go_sem, Nat.reduceAdd, Nat.reduceMul, Nat.reduceSub, Nat.reduceLT, Nat.reduceLeDiff, Nat.reduceEqDiff, Nat.reduceBEq, Nat.reduceBeqDiff, Int.reduceEq, Int.reduceLT, Int.reduceLE, Int.reduceToNat, Int.reduceNeg, Int.reduceAdd, Int.reduceSub, Int.reduceMul, reduceIte, reduceCtorEq, Nat.reducePow, Nat.reduceDiv, Nat.reduceMod, Int.reduceBEq, List.length_map, hl2, hne]
theorem few_lab {l : List TInstr} {m : Int} {fu : Nat} (h : few l m = true) (hf : 1000 < fu) : lab fu l ∧ (l.length : Int) ≤ m := by
  simp only [few, Bool.and_eq_true, decide_eq_true_eq, Bool.not_eq_true'] at h
  refine ⟨fun i hi => ?_, h.1⟩
  have := List.any_eq_false.1 h.2 i hi
  simp only [decide_eq_true_eq] at this
  omega
theorem sizedI (xs : List TInstr) : sizedAll 5 (xs.map TInstr.d) = true := sizedAll_map (fun a => ⟨_, rfl⟩) xs
theorem sizedN (xs : List Int) : sizedAll 1 (xs.map (D.int .i64)) = true := sizedAll_map (fun a => ⟨_, rfl⟩) xs
theorem take_all {α : Type} (l : List α) {n : Nat} (h : n = l.length) : l.take n = l := by subst h; exact List.take_length
theorem rows_ev (fu n : Nat) (l m : List TInstr) (hf : 1000 < fu) (hl : l.length < fu) (hm : m.length < fu) (hl9 : l.length ≤ maxLen) (hm9 : m.length ≤ maxLen) :
    evF (G fu) (n+11) 6 [.d (.list (l.map TInstr.d)), .d (.list (m.map TInstr.d))] [] = some (.d (.bool true), []) := by
  have A := awake06_ev fu n (by omega)
  have F1 := few_ev fu (n+9) l 60 hl hl9
  have F2 := few_ev fu (n+9) m 60 hm hm9
  rw [evF.eq_2, evX.eq_def, Gext, exts_no _ (f := 6) (by decide), GP, Tryd.func6]; simp only [Tryd.f6, evB]
  cases f1 : few l 60 with
  | false => simp only [go_sem, Nat.reduceAdd, Nat.reduceMul, Nat.reduceSub, Nat.reduceLT, Nat.reduceLeDiff, Nat.reduceEqDiff, Nat.reduceBEq, Nat.reduceBeqDiff, Int.reduceEq, Int.reduceLT, Int.reduceLE, Int.reduceToNat, Int.reduceNeg, Int.reduceAdd, Int.reduceSub, Int.reduceMul, reduceIte, reduceCtorEq, Nat.reducePow, Nat.reduceDiv, Nat.reduceMod, Int.reduceBEq, A, F1, f1]
  | true =>
    cases f2 : few m 60 with
    | false => simp only [go_sem, Nat.reduceAdd, Nat.reduceMul, Nat.reduceSub, Nat.reduceLT, Nat.reduceLeDiff, Nat.reduceEqDiff, Nat.reduceBEq, Nat.reduceBeqDiff, Int.reduceEq, Int.reduceLT, Int.reduceLE, Int.reduceToNat, Int.reduceNeg, Int.reduceAdd, Int.reduceSub, Int.reduceMul, reduceIte, reduceCtorEq, Nat.reducePow, Nat.reduceDiv, Nat.reduceMod, Int.reduceBEq, A, F1, F2, f1, f2]
    | true =>
      obtain ⟨b1, c1⟩ := few_lab f1 hf
      obtain ⟨b2, c2⟩ := few_lab f2 hf
      have M1 := matches_ev fu (n+5) l (by omega) hl (by omega)
      have M2 := matches_ev fu (n+5) m (by omega) hm (by omega)
      have M3 := matches_ev fu (n+5) (l ++ m) (by omega) (by simp; omega) (by simp; omega)
      rw [List.map_append] at M3
      cases w1 : walkOk l with
      | false => simp only [go_sem, Nat.reduceAdd, Nat.reduceMul, Nat.reduceSub, Nat.reduceLT, Nat.reduceLeDiff, Nat.reduceEqDiff, Nat.reduceBEq, Nat.reduceBeqDiff, Int.reduceEq, Int.reduceLT, Int.reduceLE, Int.reduceToNat, Int.reduceNeg, Int.reduceAdd, Int.reduceSub, Int.reduceMul, reduceIte, reduceCtorEq, Nat.reducePow, Nat.reduceDiv, Nat.reduceMod, Int.reduceBEq, A, F1, F2, f1, f2, M1, M2, M3, w1, sizedI, sizedN, List.length_map, List.length_append, show l.length ≤ 1099511627776 by omega, show l.length + m.length ≤ 1099511627776 by omega, take_all (l.map TInstr.d) (n := l.length) (by simp), take_all (l.map TInstr.d ++ m.map TInstr.d) (n := l.length + m.length) (by simp)]
      | true =>
        cases w2 : walkOk m with
        | false => simp only [go_sem, Nat.reduceAdd, Nat.reduceMul, Nat.reduceSub, Nat.reduceLT, Nat.reduceLeDiff, Nat.reduceEqDiff, Nat.reduceBEq, Nat.reduceBeqDiff, Int.reduceEq, Int.reduceLT, Int.reduceLE, Int.reduceToNat, Int.reduceNeg, Int.reduceAdd, Int.reduceSub, Int.reduceMul, reduceIte, reduceCtorEq, Nat.reducePow, Nat.reduceDiv, Nat.reduceMod, Int.reduceBEq, A, F1, F2, f1, f2, M1, M2, M3, w1, w2, sizedI, sizedN, List.length_map, List.length_append, show l.length ≤ 1099511627776 by omega, show l.length + m.length ≤ 1099511627776 by omega, take_all (l.map TInstr.d) (n := l.length) (by simp), take_all (l.map TInstr.d ++ m.map TInstr.d) (n := l.length + m.length) (by simp)]
        | true =>
          obtain ⟨w3, dd⟩ := rows_depths w1 w2
          have D1 := depths_ev fu (n+5) l (by omega) hl (by omega)
          have D2 := depths_ev fu (n+5) m (by omega) hm (by omega)
          have D3 := depths_ev fu (n+5) (l ++ m) (by omega) (by simp; omega) (by simp; omega)
          have S1 := bodySane_ev fu (n+1) l (by omega) hl (by omega) b1
          have S2 := bodySane_ev fu (n+1) m (by omega) hm (by omega) b2
          have S3 := bodySane_ev fu (n+1) (l ++ m) (by omega) (by simp; omega) (by simp; omega) (fun i hi => (List.mem_append.1 hi).elim (b1 i) (b2 i))
          have e1 := depthsF_len l w1
          have e2 := depthsF_len m w2
          have I := ints_ev fu (n+9) (depthsF l ++ depthsF m) (depthsF l ++ depthsF m) (by simp; omega) (by simp; omega)
          rw [List.map_append] at D3 S3 I
          rw [dd, List.map_append] at D3
          rw [rows_sane w1 w2 (by omega) (by omega)] at S3
          have t1 := take_all ((depthsF l).map (D.int .i64)) (n := l.length) (by simp; omega)
          have t2 := take_all ((depthsF m).map (D.int .i64)) (n := m.length) (by simp; omega)
          have t3 := take_all ((depthsF l).map (D.int .i64) ++ (depthsF m).map (D.int .i64)) (n := l.length + m.length) (by simp; omega)
          cases s1 : bodySane l <;> cases s2 : bodySane m <;> simp only [go_sem, Nat.reduceAdd, Nat.reduceMul, Nat.reduceSub, Nat.reduceLT, Nat.reduceLeDiff, Nat.reduceEqDiff, Nat.reduceBEq, Nat.reduceBeqDiff, Int.reduceEq, Int.reduceLT, Int.reduceLE, Int.reduceToNat, Int.reduceNeg, Int.reduceAdd, Int.reduceSub, Int.reduceMul, reduceIte, reduceCtorEq, Nat.reducePow, Nat.reduceDiv, Nat.reduceMod, Int.reduceBEq, A, F1, F2, f1, f2, M1, M2, M3, w1, w2, w3, D1, D2, D3, S1, S2, S3, I, e1, e2, t1, t2, t3, s1, s2, sizedI, sizedN, List.length_map, List.length_append, show l.length ≤ 1099511627776 by omega, show l.length + m.length ≤ 1099511627776 by omega, take_all (l.map TInstr.d) (n := l.length) (by simp), take_all (l.map TInstr.d ++ m.map TInstr.d) (n := l.length + m.length) (by simp)]
/-- How many labels at most, all told. -/
theorem BodyRows.pure (l : List TInstr) (hl : l.length ≤ maxLen ∧ ∀ z ∈ l, z.ok) (m : List TInstr) (hm : m.length ≤ maxLen ∧ ∀ z ∈ m, z.ok) : ∃ fu n, evF (G fu) n 6 [.d (.list (l.map TInstr.d)), .d (.list (m.map TInstr.d))] [] = some (.d (.bool true), []) :=
  ⟨1001 + l.length + m.length, 11, rows_ev _ 0 l m (by omega) (by omega) (by omega) hl.1 hm.1⟩
end Go.Proofs.YtklnkkejkeelaaaDoor.E
