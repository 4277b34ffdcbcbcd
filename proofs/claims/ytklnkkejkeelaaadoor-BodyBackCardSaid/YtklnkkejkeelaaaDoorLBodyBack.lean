/- THE LAW BodyBack, read. -/
import Derived.Test.YtklnkkejkeelaaaDoorLBodyRows
import Derived.Test.YtklnkkejkeelaaaDoorL10
set_option linter.unnecessarySimpa false
set_option linter.unusedSimpArgs false
set_option linter.unusedVariables false
set_option autoImplicit false
set_option maxRecDepth 100000
set_option maxHeartbeats 4000000
set_option linter.unusedSimpArgs false
set_option linter.unusedVariables false
set_option pp.maxSteps 20000
namespace Go.Proofs.YtklnkkejkeelaaaDoor.E
open Go.Ev
theorem map_takeI2 (l : List TInstr) : (l.map TInstr.d).take l.length = l.map TInstr.d := List.take_of_length_le (by simp)
theorem byt_tk (l : List Int) (k : Nat) : (byt l).take k = byt (l.take k) := by simp [byt]
theorem byt_cat (l m : List Int) : byt l ++ byt m = byt (l ++ m) := by simp [byt]
theorem back_ev (fu n : Nat) (a t : List Int) (l : List TInstr) (ha : Bs a) (ht : Bs t) (hc : ∀ i ∈ l, Cok i) (hf : 6000 < fu) (hfl : l.length < fu) (hl9 : l.length ≤ maxLen) (ha9 : a.length < fu) :
    evF (G fu) (n+11) 13 [.d (.list (byt a)), .d (.list (l.map TInstr.d)), .d (.list (byt t))] [] = some (.d (.bool true), []) := by
  have A := awake06_ev fu n (by omega)
  have F1 := few_ev fu (n+9) l 150 hfl hl9
  rw [evF.eq_2, evX.eq_def, Gext, exts_no _ (f := 13) (by decide), GP, Tryd.func13]; simp only [Tryd.f13, evB]
  by_cases c1 : (100 : Int) < a.length
  · simp only [go_sem, Nat.reduceAdd, Nat.reduceMul, Nat.reduceSub, Nat.reduceLT, Nat.reduceLeDiff, Nat.reduceEqDiff, Nat.reduceBEq, Nat.reduceBeqDiff, Int.reduceEq, Int.reduceLT, Int.reduceLE, Int.reduceToNat, Int.reduceNeg, Int.reduceAdd, Int.reduceSub, Int.reduceMul, reduceIte, reduceCtorEq, Nat.reducePow, Nat.reduceDiv, Nat.reduceMod, Int.reduceBEq, and_self, and_true, true_and, and_false, false_and, or_true, true_or, or_false, false_or, Int.natCast_nonneg, Int.toNat_natCast, not_true_eq_false, not_false_eq_true, List.size_toArray, Array.size_empty, List.getElem?_nil, A, byt_len, c1]
  by_cases c2 : (100 : Int) < t.length
  · simp only [go_sem, Nat.reduceAdd, Nat.reduceMul, Nat.reduceSub, Nat.reduceLT, Nat.reduceLeDiff, Nat.reduceEqDiff, Nat.reduceBEq, Nat.reduceBeqDiff, Int.reduceEq, Int.reduceLT, Int.reduceLE, Int.reduceToNat, Int.reduceNeg, Int.reduceAdd, Int.reduceSub, Int.reduceMul, reduceIte, reduceCtorEq, Nat.reducePow, Nat.reduceDiv, Nat.reduceMod, Int.reduceBEq, and_self, and_true, true_and, and_false, false_and, or_true, true_or, or_false, false_or, Int.natCast_nonneg, Int.toNat_natCast, not_true_eq_false, not_false_eq_true, List.size_toArray, Array.size_empty, List.getElem?_nil, A, byt_len, c1, c2]
  cases f1 : few l 150 with
  | false => simp only [go_sem, Nat.reduceAdd, Nat.reduceMul, Nat.reduceSub, Nat.reduceLT, Nat.reduceLeDiff, Nat.reduceEqDiff, Nat.reduceBEq, Nat.reduceBeqDiff, Int.reduceEq, Int.reduceLT, Int.reduceLE, Int.reduceToNat, Int.reduceNeg, Int.reduceAdd, Int.reduceSub, Int.reduceMul, reduceIte, reduceCtorEq, Nat.reducePow, Nat.reduceDiv, Nat.reduceMod, Int.reduceBEq, and_self, and_true, true_and, and_false, false_and, or_true, true_or, or_false, false_or, Int.natCast_nonneg, Int.toNat_natCast, not_true_eq_false, not_false_eq_true, List.size_toArray, Array.size_empty, List.getElem?_nil, A, byt_len, c1, c2, F1, f1]
  | true =>
    obtain ⟨b1, c3⟩ := few_lab (fu := fu) f1 (by omega)
    have P := BPut_ev fu n a l hc (by omega) hfl b1 (by omega) (by omega)
    have S := bodySane_ev fu (n+1) l (by omega) hfl (by omega) b1
    unfold bputR at P
    cases s1 : bodySane l with
    | false =>
      rw [s1] at P S
      simp only [Bool.false_eq_true, if_false] at P
      simp only [go_sem, Nat.reduceAdd, Nat.reduceMul, Nat.reduceSub, Nat.reduceLT, Nat.reduceLeDiff, Nat.reduceEqDiff, Nat.reduceBEq, Nat.reduceBeqDiff, Int.reduceEq, Int.reduceLT, Int.reduceLE, Int.reduceToNat, Int.reduceNeg, Int.reduceAdd, Int.reduceSub, Int.reduceMul, reduceIte, reduceCtorEq, Nat.reducePow, Nat.reduceDiv, Nat.reduceMod, Int.reduceBEq, and_self, and_true, true_and, and_false, false_and, or_true, true_or, or_false, false_or, Int.natCast_nonneg, Int.toNat_natCast, not_true_eq_false, not_false_eq_true, List.size_toArray, Array.size_empty, List.getElem?_nil, A, byt_len, c1, c2, F1, f1, P, S]
    | true =>
      rw [s1] at P S
      simp only [if_true] at P
      obtain ⟨w, hd, h4096, hall⟩ := bodySane_all s1
      have hbe := encs_bs hall hc
      have hel := encs_len l hall
      have r1 := brd_put s1 hc a t
      have r2 := brd_short s1 hc a
      have hB1 : Bs (a ++ encs l ++ 11 :: t) := (ha.append hbe).append (Bs.cons (by decide) ht)
      have hB2 : Bs (a ++ encs l) := ha.append hbe
      have R1 := BRead_ev fu (n+1) _ hB1 a.length (by omega) (by simp only [List.length_append]; omega) (by simp only [List.length_append, List.length_cons]; omega)
      have R2 := BRead_ev fu (n+1) _ hB2 a.length (by omega) (by simp only [List.length_append]; omega) (by simp only [List.length_append]; omega)
      rw [r1] at R1
      rw [r2] at R2
      simp only [brdR] at R1 R2
      have Q := bsame_ev fu (n+6) l l hfl (by omega) b1
      simp only [decide_true] at Q
      have hL : (a ++ encs l ++ [11]).length = a.length + (encs l).length + 1 := by simp only [List.length_append, List.length_cons, List.length_nil]
      have hT : a ++ encs l ++ 11 :: t = (a ++ encs l ++ [11]) ++ t := by simp
      have hU : (a ++ encs l ++ [11]).take (a.length + (encs l).length) = a ++ encs l := by
        rw [← List.length_append]; exact List.take_left
      rw [hT] at R1
      rw [← hL] at R1
      rw [← hU] at R2
      generalize hX : a ++ encs l ++ [11] = X at *
      have hX1 := byt_take X
      have hX3 : (byt (X ++ t)).take (X.length + t.length) = byt (X ++ t) := by rw [← List.length_append]; exact byt_take (X ++ t)
      have W := wrap_i64 (show -9223372036854775808 ≤ (X.length : Int) - 1 by omega) (by omega)
      have hXl : X.length ≤ 1099511627776 := by omega
      have M : max (0 : Int) ((X.length : Int) - 1) = ((a.length + (encs l).length : Nat) : Int) := by omega
      have hLE : ((a.length + (encs l).length : Nat) : Int) ≤ X.length := by omega
      simp only [go_sem, Nat.reduceAdd, Nat.reduceMul, Nat.reduceSub, Nat.reduceLT, Nat.reduceLeDiff, Nat.reduceEqDiff, Nat.reduceBEq, Nat.reduceBeqDiff, Int.reduceEq, Int.reduceLT, Int.reduceLE, Int.reduceToNat, Int.reduceNeg, Int.reduceAdd, Int.reduceSub, Int.reduceMul, reduceIte, reduceCtorEq, Nat.reducePow, Nat.reduceDiv, Nat.reduceMod, Int.reduceBEq, and_self, and_true, true_and, and_false, false_and, or_true, true_or, or_false, false_or, Int.natCast_nonneg, Int.toNat_natCast, not_true_eq_false, not_false_eq_true, List.size_toArray, Array.size_empty, List.getElem?_nil, A, byt_len, c1, c2, F1, f1, P, S, byt_sized, show X.length + t.length ≤ 1099511627776 by omega, hX3, hX1, hXl, byt_cat, W, M, maxV, byt_tk, R1, R2, Q, hLE, Int.sub_zero, map_takeI2, Int.le_refl]
theorem bs_of {l : List Int} (h : ∀ z ∈ l, rng .u8 z) : Bs l := fun z hz => by have := rng_u8 (h z hz); omega
theorem cok_of {i : TInstr} (h : i.ok) : Cok i := by have := rng_u64 h.2.2.2.1; unfold Cok; omega
theorem BodyBack.pure (a : List Int) (ha : a.length ≤ maxLen ∧ ∀ z ∈ a, rng .u8 z) (l : List TInstr) (hl : l.length ≤ maxLen ∧ ∀ z ∈ l, z.ok) (t : List Int) (ht : t.length ≤ maxLen ∧ ∀ z ∈ t, rng .u8 z) :
    ∃ fu n, evF (G fu) n 13 [.d (.list (a.map (D.int .u8))), .d (.list (l.map TInstr.d)), .d (.list (t.map (D.int .u8)))] [] = some (.d (.bool true), []) :=
  ⟨6001 + l.length + a.length, 11, back_ev _ 0 a t l (bs_of ha.2) (bs_of ht.2) (fun i hi => cok_of (hl.2 i hi)) (by omega) (by omega) hl.1 (by omega)⟩
end Go.Proofs.YtklnkkejkeelaaaDoor.E
