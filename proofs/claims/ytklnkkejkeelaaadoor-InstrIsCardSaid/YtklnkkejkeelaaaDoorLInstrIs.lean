/- THE LAW InstrIs, read. -/
import Derived.Test.YtklnkkejkeelaaaDoorM10
set_option linter.unnecessarySimpa false
set_option linter.unusedSimpArgs false
set_option linter.unusedVariables false
set_option autoImplicit false
set_option maxRecDepth 100000
set_option maxHeartbeats 4000000
set_option linter.unusedSimpArgs false
set_option linter.unusedVariables false
set_option pp.maxSteps 20000
namespace Go.Proofs.YtklnkkejkeelaaaDoor.E
open Go.Ev
theorem awake05_ev (fu n : Nat) (hf : 200 < fu) : evF (G fu) (n+12) 22 [] [] = some (.d (.bool true), []) := by
  have P := Put_ev fu (n+5) [] ⟨14, 2, 0, 0, [1, 0]⟩ ⟨by decide, by decide⟩ (by omega) (by simp; omega) (by simp) (by simp)
  have R := Read_ev fu (n+4) [65, 127] (fun x hx => by simp at hx; omega) 0 (by omega) (by simp) (by simp)
  have K := kind_ev fu (n+10) 14 (by omega)
  have s1 : saneF ⟨14, 2, 0, 0, [1, 0]⟩ = true := by kernel_rfl
  have s2 : enc ⟨14, 2, 0, 0, [1, 0]⟩ = [14, 2, 1, 0, 2] := by kernel_rfl
  have s3 : dec (List.drop 0 [65, 127]) = .ok (⟨65, 0, 0, 4294967295, []⟩, 2) := by kernel_rfl
  have s4 : kindF 14 = 4 := by kernel_rfl
  unfold putR at P
  rw [s1, s2] at P
  rw [s3] at R
  rw [s4] at K
  simp only [if_true, List.nil_append, List.length_cons, List.length_nil, Nat.zero_add, Nat.reduceAdd, decR, TInstr.d, List.map_nil, List.map_cons, byt] at P R
  have e0 : ((0 : Nat) : Int) = 0 := rfl
  have e2 : ((2 : Nat) : Int) = 2 := rfl
  rw [e0, e2] at R
  rw [evF.eq_2, evX.eq_def, Gext, exts_no _ (f := 22) (by decide), GP, Tryd.func22]; simp only [Tryd.f22, evB]
  simp only [go_sem, Nat.reduceAdd, Nat.reduceMul, Nat.reduceSub, Nat.reduceLT, Nat.reduceLeDiff, Nat.reduceEqDiff, Nat.reduceBEq, Nat.reduceBeqDiff, Int.reduceEq, Int.reduceLT, Int.reduceLE, Int.reduceToNat, Int.reduceNeg, Int.reduceAdd, Int.reduceSub, Int.reduceMul, reduceIte, reduceCtorEq, Nat.reducePow, Nat.reduceDiv, Nat.reduceMod, Int.reduceBEq, and_self, and_true, true_and, and_false, false_and, or_true, true_or, or_false, false_or, Int.natCast_nonneg, Int.toNat_natCast, not_true_eq_false, not_false_eq_true, List.size_toArray, Array.size_empty, List.getElem?_nil, P, R, K, strOf, strOf.strOf1]
theorem small_ev (fu n : Nat) (x : TInstr) : evF (G fu) (n+1) 23 [.d x.d] [] = some (.d (.bool (decide ((x.labels.length : Int) ≤ 100))), []) := by
  simp only [TInstr.d]
  rw [evF.eq_2, evX.eq_def, Gext, exts_no _ (f := 23) (by decide), GP, Tryd.func23]; simp only [Tryd.f23, evB]
  simp only [go_sem, Nat.reduceAdd, Nat.reduceMul, Nat.reduceSub, Nat.reduceLT, Nat.reduceLeDiff, Nat.reduceEqDiff, Nat.reduceBEq, Nat.reduceBeqDiff, Int.reduceEq, Int.reduceLT, Int.reduceLE, Int.reduceToNat, Int.reduceNeg, Int.reduceAdd, Int.reduceSub, Int.reduceMul, reduceIte, reduceCtorEq, Nat.reducePow, Nat.reduceDiv, Nat.reduceMod, Int.reduceBEq, and_self, and_true, true_and, and_false, false_and, or_true, true_or, or_false, false_or, Int.natCast_nonneg, Int.toNat_natCast, not_true_eq_false, not_false_eq_true, List.size_toArray, Array.size_empty, List.getElem?_nil, List.length_map]
theorem reads_both (fu n : Nat) (l : List Int) (hb : Bs l) (p : Int) (hf : 200 < fu) (hl : l.length ≤ 500) :
    ∃ (i : TInstr) (c e : Int), i.labels.length ≤ 64 ∧ evF (G fu) (n+7) 26 [.d (.list (byt l)), .d (.int .i64 p)] [] = some (.tup [.d i.d, .d (.int .i64 c), .d (.int .i64 e)], []) ∧
      evF (G fu) (n+7) 29 [.d (.list (byt l)), .d (.int .i64 p)] [] = some (.tup [.d i.d, .d (.int .i64 c), .d (.int .i64 e)], []) := by
  by_cases h : 0 ≤ p ∧ p ≤ l.length
  · obtain ⟨x, rfl⟩ : ∃ x : Nat, p = x := ⟨p.toNat, by omega⟩
    have h1 := Read_ev fu n l hb x (by omega) (by omega) (by omega)
    have h2 := rRead_ev fu (n+1) l hb x (by omega) (by omega) (by omega)
    cases hd : dec (l.drop x) with
    | error e =>
      rw [hd] at h1 h2
      exact ⟨in0, 0, e, by simp [in0], h1, h2⟩
    | ok q =>
      obtain ⟨i, c⟩ := q
      rw [hd] at h1 h2
      obtain ⟨s, _⟩ := dec_ok (hb.drop x) hd
      refine ⟨i, ((x + c : Nat) : Int), 0, ?_, h1, h2⟩
      by_cases hk : kindF i.op = 4
      · exact (s.2.2.2.2.2.2.2.1 hk).2.2.1
      · rw [s.2.2.2.1 hk]; simp
  · have hx : p < 0 ∨ (l.length : Int) < p := by omega
    exact ⟨in0, 0, 1, by simp [in0], Read_out fu (n+6) l p hx, rRead_out fu (n+6) l p hx⟩
theorem is_ev (fu n : Nat) (b : List Int) (p : Int) (x y : TInstr) (op : Int) (hb : Bs b) (hcx : Cok x) (hf : 2000 < fu) (h0 : -9223372036854775808 ≤ op) (h1 : op ≤ 9223372036854775807) :
    evF (G fu) (n+13) 11 [.d (.list (byt b)), .d (.int .i64 p), .d x.d, .d y.d, .d (.int .i64 op)] [] = some (.d (.bool true), []) := by
  have A := awake05_ev fu n (by omega)
  have S1 := small_ev fu (n+11) x
  have S2 := small_ev fu (n+11) y
  by_cases c1 : (500 : Int) < b.length
  · simp only [TInstr.d] at *
    rw [evF.eq_2, evX.eq_def, Gext, exts_no _ (f := 11) (by decide), GP, Tryd.func11]; simp only [Tryd.f11, evB]
    simp only [go_sem, Nat.reduceAdd, Nat.reduceMul, Nat.reduceSub, Nat.reduceLT, Nat.reduceLeDiff, Nat.reduceEqDiff, Nat.reduceBEq, Nat.reduceBeqDiff, Int.reduceEq, Int.reduceLT, Int.reduceLE, Int.reduceToNat, Int.reduceNeg, Int.reduceAdd, Int.reduceSub, Int.reduceMul, reduceIte, reduceCtorEq, Nat.reducePow, Nat.reduceDiv, Nat.reduceMod, Int.reduceBEq, and_self, and_true, true_and, and_false, false_and, or_true, true_or, or_false, false_or, Int.natCast_nonneg, Int.toNat_natCast, not_true_eq_false, not_false_eq_true, List.size_toArray, Array.size_empty, List.getElem?_nil, A, byt_len, c1]
  by_cases c2 : (x.labels.length : Int) ≤ 100
  case neg =>
    simp only [TInstr.d] at *
    rw [evF.eq_2, evX.eq_def, Gext, exts_no _ (f := 11) (by decide), GP, Tryd.func11]; simp only [Tryd.f11, evB]
    simp only [go_sem, Nat.reduceAdd, Nat.reduceMul, Nat.reduceSub, Nat.reduceLT, Nat.reduceLeDiff, Nat.reduceEqDiff, Nat.reduceBEq, Nat.reduceBeqDiff, Int.reduceEq, Int.reduceLT, Int.reduceLE, Int.reduceToNat, Int.reduceNeg, Int.reduceAdd, Int.reduceSub, Int.reduceMul, reduceIte, reduceCtorEq, Nat.reducePow, Nat.reduceDiv, Nat.reduceMod, Int.reduceBEq, and_self, and_true, true_and, and_false, false_and, or_true, true_or, or_false, false_or, Int.natCast_nonneg, Int.toNat_natCast, not_true_eq_false, not_false_eq_true, List.size_toArray, Array.size_empty, List.getElem?_nil, A, byt_len, c1, S1, c2]
  by_cases c3 : (y.labels.length : Int) ≤ 100
  case neg =>
    simp only [TInstr.d] at *
    rw [evF.eq_2, evX.eq_def, Gext, exts_no _ (f := 11) (by decide), GP, Tryd.func11]; simp only [Tryd.f11, evB]
    simp only [go_sem, Nat.reduceAdd, Nat.reduceMul, Nat.reduceSub, Nat.reduceLT, Nat.reduceLeDiff, Nat.reduceEqDiff, Nat.reduceBEq, Nat.reduceBeqDiff, Int.reduceEq, Int.reduceLT, Int.reduceLE, Int.reduceToNat, Int.reduceNeg, Int.reduceAdd, Int.reduceSub, Int.reduceMul, reduceIte, reduceCtorEq, Nat.reducePow, Nat.reduceDiv, Nat.reduceMod, Int.reduceBEq, and_self, and_true, true_and, and_false, false_and, or_true, true_or, or_false, false_or, Int.natCast_nonneg, Int.toNat_natCast, not_true_eq_false, not_false_eq_true, List.size_toArray, Array.size_empty, List.getElem?_nil, A, byt_len, c1, S1, c2, S2, c3]
  obtain ⟨i, c, e, hi, R1, R2⟩ := reads_both fu (n+5) b hb p (by omega) (by omega)
  have P1 := Put_ev fu (n+6) b x hcx (by omega) (by omega) (by omega) (by omega)
  have P2 := rPut_ev fu (n+7) b x hcx (by omega) (by omega) (by omega) (by omega)
  have A1 := acc_ev fu (n+11) op h0 h1
  have A2 := rAcc_ev fu (n+11) op
  have Q1 := rSame_ev fu (n+11) i i (by omega) (by omega)
  have Q2 := rSame_ev fu (n+11) x y (by omega) (by omega)
  have Q3 := same_ev fu (n+10) x.op x.a x.b x.k y.op y.a y.b y.k x.labels y.labels (by omega) (by omega)
  have T1 := sane_ev fu (n+7) x (by omega) (by omega) (by omega)
  have T2 := rSane_ev fu (n+8) x (by omega) (by omega)
  have K1 := kind_ev fu (n+11) op (by omega)
  have K2 := rKind_ev fu (n+9) op
  have hxy : decide (x.op = y.op ∧ x.a = y.a ∧ x.b = y.b ∧ x.k = y.k ∧ x.labels = y.labels) = decide (x = y) := decide_eq_decide.2 (TInstr.ext_iff x y)
  rw [hxy] at Q3
  simp only [decide_true] at Q1
  unfold accR at A1 A2
  have hbt : ∀ l : List Int, (byt l).take l.length = byt l := byt_take
  unfold putR at P1 P2
  generalize accF op = ac at *
  generalize decide (x = y) = sm at *
  generalize kindF op = kk at *
  cases hs : saneF x with
  | true =>
    rw [hs] at P1 P2 T1 T2
    simp only [if_true] at P1 P2
    generalize b ++ enc x = X at *
    simp only [TInstr.d] at *
    rw [evF.eq_2, evX.eq_def, Gext, exts_no _ (f := 11) (by decide), GP, Tryd.func11]; simp only [Tryd.f11, evB]
    simp (maxSteps := 2000000) only [go_sem, Nat.reduceAdd, Nat.reduceMul, Nat.reduceSub, Nat.reduceLT, Nat.reduceLeDiff, Nat.reduceEqDiff, Nat.reduceBEq, Nat.reduceBeqDiff, Int.reduceEq, Int.reduceLT, Int.reduceLE, Int.reduceToNat, Int.reduceNeg, Int.reduceAdd, Int.reduceSub, Int.reduceMul, reduceIte, reduceCtorEq, Nat.reducePow, Nat.reduceDiv, Nat.reduceMod, Int.reduceBEq, and_self, and_true, true_and, and_false, false_and, or_true, true_or, or_false, false_or, Int.natCast_nonneg, Int.toNat_natCast, not_true_eq_false, not_false_eq_true, List.size_toArray, Array.size_empty, List.getElem?_nil, A, byt_len, c1, S1, c2, S2, c3, R1, R2, P1, P2, A1, A2, Q1, Q2, Q3, T1, T2, K1, K2, hbt, strOf_byt, bne_self_eq_false]
  | false =>
    rw [hs] at P1 P2 T1 T2
    simp only [Bool.false_eq_true, if_false] at P1 P2
    simp only [TInstr.d] at *
    rw [evF.eq_2, evX.eq_def, Gext, exts_no _ (f := 11) (by decide), GP, Tryd.func11]; simp only [Tryd.f11, evB]
    simp (maxSteps := 2000000) only [go_sem, Nat.reduceAdd, Nat.reduceMul, Nat.reduceSub, Nat.reduceLT, Nat.reduceLeDiff, Nat.reduceEqDiff, Nat.reduceBEq, Nat.reduceBeqDiff, Int.reduceEq, Int.reduceLT, Int.reduceLE, Int.reduceToNat, Int.reduceNeg, Int.reduceAdd, Int.reduceSub, Int.reduceMul, reduceIte, reduceCtorEq, Nat.reducePow, Nat.reduceDiv, Nat.reduceMod, Int.reduceBEq, and_self, and_true, true_and, and_false, false_and, or_true, true_or, or_false, false_or, Int.natCast_nonneg, Int.toNat_natCast, not_true_eq_false, not_false_eq_true, List.size_toArray, Array.size_empty, List.getElem?_nil, A, byt_len, c1, S1, c2, S2, c3, R1, R2, P1, P2, A1, A2, Q1, Q2, Q3, T1, T2, K1, K2, hbt, strOf, bne_self_eq_false]
theorem bs_of {l : List Int} (h : ∀ z ∈ l, rng .u8 z) : Bs l := fun z hz => by have := rng_u8 (h z hz); omega
theorem cok_of {i : TInstr} (h : i.ok) : Cok i := by have := rng_u64 h.2.2.2.1; unfold Cok; omega
theorem InstrIs.pure (b : List Int) (hb : b.length ≤ maxLen ∧ ∀ z ∈ b, rng .u8 z) (p : Int) (hp : rng .i64 p) (x : TInstr) (hx : x.ok) (y : TInstr) (hy : y.ok) (op : Int) (ho : rng .i64 op) :
    ∃ fu n, evF (G fu) n 11 [.d (.list (b.map (D.int .u8))), .d (.int .i64 p), .d x.d, .d y.d, .d (.int .i64 op)] [] = some (.d (.bool true), []) :=
  ⟨2001, 13, is_ev _ 0 b p x y op (bs_of hb.2) (cok_of hx) (by omega) (rng_i64 ho).1 (rng_i64 ho).2⟩
end Go.Proofs.YtklnkkejkeelaaaDoor.E
