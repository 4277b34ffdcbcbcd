/- THE LAW BodyIs, read. -/
import Derived.Test.YtklnkkejkeelaaaDoorLBodyRows
import Derived.Test.YtklnkkejkeelaaaDoorN9
import Derived.Test.YtklnkkejkeelaaaDoorN8
set_option linter.unnecessarySimpa false
set_option linter.unusedSimpArgs false
set_option linter.unusedVariables false
set_option autoImplicit false
set_option maxRecDepth 100000
set_option maxHeartbeats 8000000
set_option linter.unusedSimpArgs false
set_option linter.unusedVariables false
set_option pp.maxSteps 20000
namespace Go.Proofs.YtklnkkejkeelaaaDoor.E
open Go.Ev
theorem brd_lab {b : List Int} (hb : Bs b) : ∀ (f x : Nat) (out : List TInstr) (st : List Nest) (l : List TInstr) (y : Nat), (∀ i ∈ out, i.labels.length ≤ 64) → out.length + f ≤ 4097 → brd b f x out st = .ok (l, y) → (∀ i ∈ l, i.labels.length ≤ 64) ∧ l.length ≤ 4097
  | 0, x, out, st, l, y, h, hl, he => by cases he
  | f + 1, x, out, st, l, y, h, hl, he => by
    rw [brd] at he
    split at he
    · cases he
    · rename_i i c hd
      split at he
      · simp only [Except.ok.injEq, Prod.mk.injEq] at he
        obtain ⟨rfl, _⟩ := he
        exact ⟨h, by omega⟩
      · split at he
        · cases he
        · split at he
          · cases he
          · refine brd_lab hb f _ _ _ l y (fun j hj => ?_) (by simp; omega) he
            rcases List.mem_append.1 hj with hj | hj
            · exact h j hj
            · have e : j = i := by simpa using hj
              subst e
              obtain ⟨s, _⟩ := dec_ok (hb.drop x) hd
              by_cases hk : kindF j.op = 4
              · exact (s.2.2.2.2.2.2.2.1 hk).2.2.1
              · rw [s.2.2.2.1 hk]; simp
theorem strOf_byt (l : List Int) : strOf (byt l) = some (l.map fun n => UInt8.ofNat n.toNat) := by
  induction l with
  | nil => rfl
  | cons a l ih =>
    show strOf.strOf1 (.int .u8 a) (strOf (byt l)) = _
    rw [ih]
    rfl
theorem BRead_out (fu n : Nat) (b : List Int) (p : Int) (hf : 0 < fu) (hp : p < 0 ∨ (b.length : Int) < p) : evF (G fu) (n+2) 38 [.d (.list (byt b)), .d (.int .i64 p)] [] = brdR (.error 1) := by
  have q := Read_out fu n b p hp
  simp only [decR, TInstr.d, in0, List.map_nil] at q
  rw [evF.eq_2, evX.eq_def, Gext, exts_no _ (f := 38) (by decide), GP, Tryd.func38]; simp only [Tryd.f38, evB]
  simp only [go_sem, Nat.reduceAdd, Nat.reduceMul, Nat.reduceSub, Nat.reduceLT, Nat.reduceLeDiff, Nat.reduceEqDiff, Nat.reduceBEq, Nat.reduceBeqDiff, Int.reduceEq, Int.reduceLT, Int.reduceLE, Int.reduceToNat, Int.reduceNeg, Int.reduceAdd, Int.reduceSub, Int.reduceMul, reduceIte, reduceCtorEq, Nat.reducePow, Nat.reduceDiv, Nat.reduceMod, Int.reduceBEq]
  rw [loop_some 0 (fun _ => ⟨[(0, .d (.list (byt b))), (1, .d (.int .i64 p)), (7, .ptr 1088 0), (8, .ptr 576 0)], [(576, .cells [.nilsl]), (1088, .cells [.nilsl])]⟩) (.ret, ⟨[(4, .nilsl), (5, .d (.int .i64 0)), (6, .d (.int .i64 1))], []⟩) trivial hf ?_]
  case hs => intro i hi; omega
  case he => simp only [go_sem, Nat.reduceAdd, Nat.reduceMul, Nat.reduceSub, Nat.reduceLT, Nat.reduceLeDiff, Nat.reduceEqDiff, Nat.reduceBEq, Nat.reduceBeqDiff, Int.reduceEq, Int.reduceLT, Int.reduceLE, Int.reduceToNat, Int.reduceNeg, Int.reduceAdd, Int.reduceSub, Int.reduceMul, reduceIte, reduceCtorEq, Nat.reducePow, Nat.reduceDiv, Nat.reduceMod, Int.reduceBEq, q]
  · simp only [go_sem, Nat.reduceAdd, Nat.reduceMul, Nat.reduceSub, Nat.reduceLT, Nat.reduceLeDiff, Nat.reduceEqDiff, Nat.reduceBEq, Nat.reduceBeqDiff, Int.reduceEq, Int.reduceLT, Int.reduceLE, Int.reduceToNat, Int.reduceNeg, Int.reduceAdd, Int.reduceSub, Int.reduceMul, reduceIte, reduceCtorEq, Nat.reducePow, Nat.reduceDiv, Nat.reduceMod, Int.reduceBEq, brdR]
  · rfl
theorem rBRead_out (fu n : Nat) (b : List Int) (p : Int) (hf : 0 < fu) (hp : p < 0 ∨ (b.length : Int) < p) : evF (G fu) (n+2) 41 [.d (.list (byt b)), .d (.int .i64 p)] [] = brdR (.error 1) := by
  have q := rRead_out fu n b p hp
  simp only [decR, TInstr.d, in0, List.map_nil] at q
  rw [evF.eq_2, evX.eq_def, Gext, exts_no _ (f := 41) (by decide), GP, Tryd.func41]; simp only [Tryd.f41, evB]
  simp only [go_sem, Nat.reduceAdd, Nat.reduceMul, Nat.reduceSub, Nat.reduceLT, Nat.reduceLeDiff, Nat.reduceEqDiff, Nat.reduceBEq, Nat.reduceBeqDiff, Int.reduceEq, Int.reduceLT, Int.reduceLE, Int.reduceToNat, Int.reduceNeg, Int.reduceAdd, Int.reduceSub, Int.reduceMul, reduceIte, reduceCtorEq, Nat.reducePow, Nat.reduceDiv, Nat.reduceMod, Int.reduceBEq]
  rw [loop_some 0 (fun _ => ⟨[(0, .d (.list (byt b))), (1, .d (.int .i64 p)), (7, .nilsl), (8, .nilsl)], []⟩) (.ret, ⟨[(4, .nilsl), (5, .d (.int .i64 0)), (6, .d (.int .i64 1))], []⟩) trivial hf ?_]
  case hs => intro i hi; omega
  case he => simp only [go_sem, Nat.reduceAdd, Nat.reduceMul, Nat.reduceSub, Nat.reduceLT, Nat.reduceLeDiff, Nat.reduceEqDiff, Nat.reduceBEq, Nat.reduceBeqDiff, Int.reduceEq, Int.reduceLT, Int.reduceLE, Int.reduceToNat, Int.reduceNeg, Int.reduceAdd, Int.reduceSub, Int.reduceMul, reduceIte, reduceCtorEq, Nat.reducePow, Nat.reduceDiv, Nat.reduceMod, Int.reduceBEq, q]
  · simp only [go_sem, Nat.reduceAdd, Nat.reduceMul, Nat.reduceSub, Nat.reduceLT, Nat.reduceLeDiff, Nat.reduceEqDiff, Nat.reduceBEq, Nat.reduceBeqDiff, Int.reduceEq, Int.reduceLT, Int.reduceLE, Int.reduceToNat, Int.reduceNeg, Int.reduceAdd, Int.reduceSub, Int.reduceMul, reduceIte, reduceCtorEq, Nat.reducePow, Nat.reduceDiv, Nat.reduceMod, Int.reduceBEq, brdR]
  · rfl
theorem reads_two (fu n : Nat) (b : List Int) (hb : Bs b) (p : Int) (hf : 5000 < fu) (hl : b.length ≤ 600) : ∃ (m : List TInstr) (j e : Int), (∀ i ∈ m, i.labels.length ≤ 64) ∧ m.length ≤ 4097 ∧
    evF (G fu) (n+9) 38 [.d (.list (byt b)), .d (.int .i64 p)] [] = some (.tup [.row 0 0 0 m.length, .d (.int .i64 j), .d (.int .i64 e)], [.row 5 (m.map TInstr.d) 0 false false]) ∧
    evF (G fu) (n+9) 41 [.d (.list (byt b)), .d (.int .i64 p)] [] = some (.tup [.row 0 0 0 m.length, .d (.int .i64 j), .d (.int .i64 e)], [.row 5 (m.map TInstr.d) 0 false false]) := by
  by_cases h : 0 ≤ p ∧ p ≤ b.length
  · obtain ⟨x, rfl⟩ : ∃ x : Nat, p = x := ⟨p.toNat, by omega⟩
    have h1 := BRead_ev fu n b hb x hf (by omega) (by omega)
    have h2 := rBRead_ev fu (n+2) b hb x hf (by omega) (by omega)
    cases hd : brd b 4097 x [] [] with
    | error e =>
      rw [hd] at h1 h2
      exact ⟨[], 0, e, by simp, by simp, h1, h2⟩
    | ok q =>
      obtain ⟨m, y⟩ := q
      rw [hd] at h1 h2
      obtain ⟨g1, g2⟩ := brd_lab hb 4097 x [] [] m y (by simp) (by simp) hd
      exact ⟨m, y, 0, g1, g2, h1, h2⟩
  · have hx : p < 0 ∨ (b.length : Int) < p := by omega
    exact ⟨[], 0, 1, by simp, by simp, BRead_out fu (n+7) b p (by omega) hx, rBRead_out fu (n+7) b p (by omega) hx⟩
theorem bodyIs_ev (fu n : Nat) (l : List TInstr) (b : List Int) (p place label : Int) (hb : Bs b) (hc : ∀ i ∈ l, Cok i) (hf : 6000 < fu) (hfl : l.length < fu) (hl9 : l.length ≤ maxLen) (hlab : label ≤ 9223372036854775807) :
    evF (G fu) (n+13) 14 [.d (.list (l.map TInstr.d)), .d (.list (byt b)), .d (.int .i64 p), .d (.int .i64 place), .d (.int .i64 label)] [] = some (.d (.bool true), []) := by
  have A := awake06_ev fu (n+2) (by omega)
  have F1 := few_ev fu (n+11) l 120 hfl hl9
  cases f1 : few l 120 with
  | false =>
    rw [evF.eq_2, evX.eq_def, Gext, exts_no _ (f := 14) (by decide), GP, Tryd.func14]; simp only [Tryd.f14, evB]
    simp only [go_sem, Nat.reduceAdd, Nat.reduceMul, Nat.reduceSub, Nat.reduceLT, Nat.reduceLeDiff, Nat.reduceEqDiff, Nat.reduceBEq, Nat.reduceBeqDiff, Int.reduceEq, Int.reduceLT, Int.reduceLE, Int.reduceToNat, Int.reduceNeg, Int.reduceAdd, Int.reduceSub, Int.reduceMul, reduceIte, reduceCtorEq, Nat.reducePow, Nat.reduceDiv, Nat.reduceMod, Int.reduceBEq, A, F1, f1]
  | true =>
    by_cases c1 : (600 : Int) < b.length
    · rw [evF.eq_2, evX.eq_def, Gext, exts_no _ (f := 14) (by decide), GP, Tryd.func14]; simp only [Tryd.f14, evB]
      simp only [go_sem, Nat.reduceAdd, Nat.reduceMul, Nat.reduceSub, Nat.reduceLT, Nat.reduceLeDiff, Nat.reduceEqDiff, Nat.reduceBEq, Nat.reduceBeqDiff, Int.reduceEq, Int.reduceLT, Int.reduceLE, Int.reduceToNat, Int.reduceNeg, Int.reduceAdd, Int.reduceSub, Int.reduceMul, reduceIte, reduceCtorEq, Nat.reducePow, Nat.reduceDiv, Nat.reduceMod, Int.reduceBEq, A, F1, f1, byt_len, c1]
    obtain ⟨b1, c3⟩ := few_lab (fu := fu) f1 (by omega)
    obtain ⟨m, j, e, hm1, hm2, R1, R2⟩ := reads_two fu (n+3) b hb p (by omega) (by omega)
    have lm : lab fu m := fun i hi => by have := hm1 i hi; omega
    have M1 := matches_ev fu (n+7) l (by omega) hfl (by omega)
    have M2 := rMatches_ev fu (n+9) l hfl (by omega)
    have P1 := BPut_ev fu (n+2) b l hc (by omega) hfl b1 (by omega) (by omega)
    have P2 := rBPut_ev fu (n+6) b l hc (by omega) hfl b1 (by omega) (by omega)
    have T1 := target_ev fu (n+6) l place label hlab (by omega) hfl (by omega)
    have T2 := rTarget_ev fu (n+8) l place label hfl (by omega)
    have hml : (matchesF l).length ≤ l.length := by
      cases hw : walkOk l with
      | true => rw [matchesF_len l hw]; omega
      | false => rw [matchesF_no l hw]; simp
    have hdl : (depthsF l).length ≤ l.length := by
      cases hw : walkOk l with
      | true => rw [depthsF_len l hw]; omega
      | false => rw [depthsF_no l hw]; simp
    have E1 := theirs_ev fu (n+11) (matchesF l) (by omega) (by omega)
    have E2 := rEqual_ev fu (n+11) (matchesF l) (by omega) (by omega)
    have Q1 := rBSame_ev fu (n+10) m m (by omega) (by omega) lm
    have S1 := bodySane_ev fu (n+3) l (by omega) hfl (by omega) b1
    have S2 := rSaneC_ev fu (n+7) l hfl (by omega) b1
    have D1 := depths_ev fu (n+7) l (by omega) hfl (by omega)
    have D2 := rDepths_ev fu (n+8) l hfl (by omega)
    have I := ints_ev fu (n+11) (depthsF l) (depthsF l) (by omega) (by omega)
    have Q2 := bsame_ev fu (n+8) l m hfl (by omega) b1
    have Q3 := rBSame_ev fu (n+10) l m hfl (by omega) b1
    simp only [decide_true] at Q1 I
    have tM : ((matchesF l).map nestD).take (matchesF l).length = (matchesF l).map nestD := List.take_of_length_le (by simp)
    have tm := map_takeI m
    have tD : ((depthsF l).map (D.int .i64)).take (depthsF l).length = (depthsF l).map (D.int .i64) := List.take_of_length_le (by simp)
    have hbt : ∀ l : List Int, (byt l).take l.length = byt l := byt_take
    generalize matchesF l = M at *
    generalize depthsF l = dd at *
    generalize walkOk l = w at *
    generalize targetF l place label = t at *
    generalize decide (l = m) = sm at *
    unfold bputR at P1 P2
    cases s1 : bodySane l with
    | false =>
      rw [s1] at P1 P2 S1 S2
      simp only [Bool.false_eq_true, if_false] at P1 P2
      rw [evF.eq_2, evX.eq_def, Gext, exts_no _ (f := 14) (by decide), GP, Tryd.func14]; simp only [Tryd.f14, evB]
      simp (maxSteps := 2000000) only [go_sem, Nat.reduceAdd, Nat.reduceMul, Nat.reduceSub, Nat.reduceLT, Nat.reduceLeDiff, Nat.reduceEqDiff, Nat.reduceBEq, Nat.reduceBeqDiff, Int.reduceEq, Int.reduceLT, Int.reduceLE, Int.reduceToNat, Int.reduceNeg, Int.reduceAdd, Int.reduceSub, Int.reduceMul, reduceIte, reduceCtorEq, Nat.reducePow, Nat.reduceDiv, Nat.reduceMod, Int.reduceBEq, A, F1, f1, byt_len, c1, M1, M2, R1, R2, P1, P2, T1, T2, E1, E2, Q1, Q2, Q3, S1, S2, D1, D2, I, tM, tm, tD, hbt, strOf, bne_self_eq_false]
    | true =>
      rw [s1] at P1 P2 S1 S2
      simp only [if_true] at P1 P2
      generalize b ++ encs l ++ [11] = X at *
      rw [evF.eq_2, evX.eq_def, Gext, exts_no _ (f := 14) (by decide), GP, Tryd.func14]; simp only [Tryd.f14, evB]
      simp (maxSteps := 2000000) only [go_sem, Nat.reduceAdd, Nat.reduceMul, Nat.reduceSub, Nat.reduceLT, Nat.reduceLeDiff, Nat.reduceEqDiff, Nat.reduceBEq, Nat.reduceBeqDiff, Int.reduceEq, Int.reduceLT, Int.reduceLE, Int.reduceToNat, Int.reduceNeg, Int.reduceAdd, Int.reduceSub, Int.reduceMul, reduceIte, reduceCtorEq, Nat.reducePow, Nat.reduceDiv, Nat.reduceMod, Int.reduceBEq, A, F1, f1, byt_len, c1, M1, M2, R1, R2, P1, P2, T1, T2, E1, E2, Q1, Q2, Q3, S1, S2, D1, D2, I, tM, tm, tD, hbt, strOf_byt, bne_self_eq_false]
theorem bs_of {l : List Int} (h : ∀ z ∈ l, rng .u8 z) : Bs l := fun z hz => by have := rng_u8 (h z hz); omega
theorem cok_of {i : TInstr} (h : i.ok) : Cok i := by have := rng_u64 h.2.2.2.1; unfold Cok; omega
theorem BodyIs.pure (l : List TInstr) (hl : l.length ≤ maxLen ∧ ∀ z ∈ l, z.ok) (b : List Int) (hb : b.length ≤ maxLen ∧ ∀ z ∈ b, rng .u8 z) (p : Int) (hp : rng .i64 p) (place : Int) (hpl : rng .i64 place) (label : Int) (hla : rng .i64 label) :
    ∃ fu n, evF (G fu) n 14 [.d (.list (l.map TInstr.d)), .d (.list (b.map (D.int .u8))), .d (.int .i64 p), .d (.int .i64 place), .d (.int .i64 label)] [] = some (.d (.bool true), []) :=
  ⟨6001 + l.length, 13, bodyIs_ev _ 0 l b p place label (bs_of hb.2) (fun i hi => cok_of (hl.2 i hi)) (by omega) (by omega) hl.1 (rng_i64 hla).2⟩
end Go.Proofs.YtklnkkejkeelaaaDoor.E
