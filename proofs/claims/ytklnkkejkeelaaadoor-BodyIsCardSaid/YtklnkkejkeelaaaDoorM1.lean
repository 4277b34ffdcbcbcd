/- The reading of the document's laying of numbers (avocetref01.U, S). -/
import Derived.Test.YtklnkkejkeelaaaDoorL1
set_option linter.unnecessarySimpa false
set_option linter.unusedSimpArgs false
set_option linter.unusedVariables false
set_option autoImplicit false
set_option maxRecDepth 100000
set_option maxHeartbeats 4000000
set_option linter.unusedSimpArgs false
set_option linter.unusedVariables false
set_option pp.maxSteps 20000
namespace Go.Proofs.YtklnkkejkeelaaaDoor.E
open Go.Ev
theorem tmod_pos {x : Int} (h : 0 ≤ x) (k : Int) : x.tmod k = x % k := Int.tmod_eq_emod_of_nonneg h
theorem tdiv_pos {x : Int} (h : 0 ≤ x) (k : Int) : x.tdiv k = x / k := Int.tdiv_eq_ediv_of_nonneg h
theorem and_127i {x : Int} : bits2 .and .i64 x 127 = x % 128 := and_low_i64 (x := x) (n := 7) (by decide)
theorem sz1 (v : Int) : sizedAll 1 [D.int .u8 v] = true := rfl
theorem rU_ev (fu n : Nat) (l : List Int) (v : Int) (hf : 10 < fu) (h0 : 0 ≤ v) (h1 : v < 18446744073709551616) (hl : l.length < 1099511627000) :
    evF (G fu) (n+1) 72 [.d (.list (byt l)), .d (.int .u64 v)] [] = some (.row 0 0 0 (l ++ uleb v).length, [.row 1 (byt (l ++ uleb v)) 0 false false]) := by
  have hlt := byt_take l
  have hl0 : l.length ≤ 1099511627776 := by omega
  rw [evF.eq_2, evX.eq_def, Gext, exts_no _ (f := 72) (by decide), GP, Tryd.func72]; simp only [Tryd.f72, evB]
  simp only [go_sem, Nat.reduceAdd, Nat.reduceMul, Nat.reduceSub, Nat.reduceLT, Nat.reduceLeDiff, Nat.reduceEqDiff, Nat.reduceBEq, Nat.reduceBeqDiff, Int.reduceEq, Int.reduceLT, Int.reduceLE, Int.reduceToNat, Int.reduceNeg, Int.reduceAdd, Int.reduceSub, Int.reduceMul, reduceIte, reduceCtorEq, Nat.reducePow, Nat.reduceDiv, Nat.reduceMod, Int.reduceBEq, byt_sized, hlt, hl0, byt_len]
  generalize hr : loopN _ _ _ _ _ = r
  obtain ⟨x, s1, rfl, hx, rfl, m, v', c, j1, j2, j3, j4, rfl⟩ : ∃ x s1, r = some (x, s1) ∧ leaves x ∧ (x = .exit 0 ∧ ∃ (m : List Int) (v' : Int) (c : Bool), 0 ≤ v' ∧ v' < 128 ∧ m ++ [v'] = l ++ uleb v ∧ m.length ≤ l.length + 9 ∧ s1 = ⟨[(1, .d (.int .u64 v')), (5, .row 448 0 0 m.length)], [(448, .row 1 (byt m) 0 false c)]⟩) := by
    rw [← hr]
    refine loop_inv (J := fun x s1 => x = .exit 0 ∧ ∃ (m : List Int) (v' : Int) (c : Bool), 0 ≤ v' ∧ v' < 128 ∧ m ++ [v'] = l ++ uleb v ∧ m.length ≤ l.length + 9 ∧ s1 = ⟨[(1, .d (.int .u64 v')), (5, .row 448 0 0 m.length)], [(448, .row 1 (byt m) 0 false c)]⟩)
      9 (fun i z => ∃ (m : List Int) (v' : Int) (c : Bool), 0 ≤ v' ∧ v' < 128 ^ (10 - i) ∧ v' < 18446744073709551616 ∧ m ++ ulebF (10 - i) v' = l ++ uleb v ∧ m.length ≤ l.length + i ∧ z = ⟨[(1, .d (.int .u64 v')), (5, .row 448 0 0 m.length)], [(448, .row 1 (byt m) 0 false c)]⟩) ?_ ?_ fu _ (by omega)
      ⟨l, v, true, h0, by omega, h1, rfl, by omega, rfl⟩
    · rintro i z hi ⟨m, v', c, i1, i2, i3, i4, i5, rfl⟩
      obtain ⟨k, hk⟩ : ∃ k, 10 - i = k + 1 := ⟨9 - i, by omega⟩
      have hk' : 10 - (i + 1) = k := by omega
      rw [hk] at i2 i4
      rw [ulebF] at i4
      by_cases hv : 128 ≤ v'
      · rw [if_pos hv, ← List.singleton_append, ← List.append_assoc] at i4
        have ht := byt_take m
        have h7 : v'.tdiv 128 = v' / 128 := tdiv_pos i1 128
        have h8 : v'.tmod 128 = v' % 128 := tmod_pos i1 128
        have w7 : IntKind.wrap .u64 (v' / 128) = v' / 128 := wrap_u64 (by omega) (by omega)
        have w8 : IntKind.wrap .u64 (128 + v' % 128) = v' % 128 + 128 := by rw [wrap_u64 (by omega) (by omega)]; omega
        have w9 : IntKind.wrap .u8 (v' % 128 + 128) = v' % 128 + 128 := wrap_u8 (by omega) (by omega)
        have hs : sizedAll 1 [D.int .u8 (v' % 128 + 128)] = true := rfl
        have hm : m.length ≤ 1099511627775 := by omega
        simp only [go_sem, Nat.reduceAdd, Nat.reduceMul, Nat.reduceSub, Nat.reduceLT, Nat.reduceLeDiff, Nat.reduceEqDiff, Nat.reduceBEq, Nat.reduceBeqDiff, Int.reduceEq, Int.reduceLT, Int.reduceLE, Int.reduceToNat, Int.reduceNeg, Int.reduceAdd, Int.reduceSub, Int.reduceMul, reduceIte, reduceCtorEq, Nat.reducePow, Nat.reduceDiv, Nat.reduceMod, Int.reduceBEq, hv, h8, w7, w8, w9, hs, ht, h7, hm]
        have hb : byt m ++ [D.int .u8 (v' % 128 + 128)] = byt (m ++ [v' % 128 + 128]) := by simp [byt]
        rw [hb, show m.length + 1 = (m ++ [v' % 128 + 128]).length by simp]
        refine ⟨_, _, rfl, m ++ [v' % 128 + 128], v' / 128, true, by omega, ?_, by omega, by rw [hk']; exact i4, by simp; omega, rfl⟩
        rw [hk']
        rw [Int.pow_succ] at i2
        exact Int.ediv_lt_of_lt_mul (by decide) i2
      · rw [if_neg hv] at i4
        simp only [go_sem, Nat.reduceAdd, Nat.reduceMul, Nat.reduceSub, Nat.reduceLT, Nat.reduceLeDiff, Nat.reduceEqDiff, Nat.reduceBEq, Nat.reduceBeqDiff, Int.reduceEq, Int.reduceLT, Int.reduceLE, Int.reduceToNat, Int.reduceNeg, Int.reduceAdd, Int.reduceSub, Int.reduceMul, reduceIte, reduceCtorEq, Nat.reducePow, Nat.reduceDiv, Nat.reduceMod, Int.reduceBEq, hv]
        exact ⟨_, _, rfl, rfl, m, v', c, i1, by omega, i4, by omega, rfl⟩
    · rintro z ⟨m, v', c, i1, i2, i3, i4, i5, rfl⟩
      have hv : ¬ 128 ≤ v' := by omega
      rw [show 10 - 9 = 0 + 1 from rfl, ulebF, if_neg hv] at i4
      simp only [go_sem, Nat.reduceAdd, Nat.reduceMul, Nat.reduceSub, Nat.reduceLT, Nat.reduceLeDiff, Nat.reduceEqDiff, Nat.reduceBEq, Nat.reduceBeqDiff, Int.reduceEq, Int.reduceLT, Int.reduceLE, Int.reduceToNat, Int.reduceNeg, Int.reduceAdd, Int.reduceSub, Int.reduceMul, reduceIte, reduceCtorEq, Nat.reducePow, Nat.reduceDiv, Nat.reduceMod, Int.reduceBEq, hv]
      exact ⟨_, _, rfl, trivial, rfl, m, v', c, i1, by omega, i4, by omega, rfl⟩
  have ht := byt_take m
  have hs : sizedAll 1 [D.int .u8 v'] = true := rfl
  have e1 : v' % 256 = v' := by omega
  have hm : m.length ≤ 1099511627775 := by omega
  simp only [go_sem, Nat.reduceAdd, Nat.reduceMul, Nat.reduceSub, Nat.reduceLT, Nat.reduceLeDiff, Nat.reduceEqDiff, Nat.reduceBEq, Nat.reduceBeqDiff, Int.reduceEq, Int.reduceLT, Int.reduceLE, Int.reduceToNat, Int.reduceNeg, Int.reduceAdd, Int.reduceSub, Int.reduceMul, reduceIte, reduceCtorEq, Nat.reducePow, Nat.reduceDiv, Nat.reduceMod, Int.reduceBEq, wrap_u8_mod, e1, hs, ht, hm]
  have hb : byt m ++ [D.int .u8 v'] = byt (m ++ [v']) := by simp [byt]
  rw [hb, show m.length + 1 = (m ++ [v']).length by simp, j3]
theorem rS_ev (fu n : Nat) (l : List Int) (v : Int) (hf : 10 < fu) (h0 : -9223372036854775808 ≤ v) (h1 : v < 9223372036854775808) (hl : l.length < 1099511627000) :
    evF (G fu) (n+1) 73 [.d (.list (byt l)), .d (.int .i64 v)] [] = some (.row 0 0 0 (l ++ sleb v).length, [.row 1 (byt (l ++ sleb v)) 0 false false]) := by
  have hlt := byt_take l
  have hl0 : l.length ≤ 1099511627776 := by omega
  rw [evF.eq_2, evX.eq_def, Gext, exts_no _ (f := 73) (by decide), GP, Tryd.func73]; simp only [Tryd.f73, evB]
  simp only [go_sem, Nat.reduceAdd, Nat.reduceMul, Nat.reduceSub, Nat.reduceLT, Nat.reduceLeDiff, Nat.reduceEqDiff, Nat.reduceBEq, Nat.reduceBeqDiff, Int.reduceEq, Int.reduceLT, Int.reduceLE, Int.reduceToNat, Int.reduceNeg, Int.reduceAdd, Int.reduceSub, Int.reduceMul, reduceIte, reduceCtorEq, Nat.reducePow, Nat.reduceDiv, Nat.reduceMod, Int.reduceBEq, byt_sized, hlt, hl0, byt_len]
  generalize hr : loopN _ _ _ _ _ = r
  obtain ⟨x, s1, rfl, hx, rfl, m, v', c, j1, j2, j3, j4, rfl⟩ : ∃ x s1, r = some (x, s1) ∧ leaves x ∧ (x = .exit 0 ∧ ∃ (m : List Int) (v' : Int) (c : Bool), -64 ≤ v' ∧ v' < 64 ∧ m ++ [v' % 128] = l ++ sleb v ∧ m.length ≤ l.length + 9 ∧ s1 = ⟨[(1, .d (.int .i64 v')), (5, .row 448 0 0 m.length)], [(448, .row 1 (byt m) 0 false c)]⟩) := by
    rw [← hr]
    refine loop_inv (J := fun x s1 => x = .exit 0 ∧ ∃ (m : List Int) (v' : Int) (c : Bool), -64 ≤ v' ∧ v' < 64 ∧ m ++ [v' % 128] = l ++ sleb v ∧ m.length ≤ l.length + 9 ∧ s1 = ⟨[(1, .d (.int .i64 v')), (5, .row 448 0 0 m.length)], [(448, .row 1 (byt m) 0 false c)]⟩)
      9 (fun i z => ∃ (m : List Int) (v' : Int) (c : Bool), -64 * 128 ^ (9 - i) ≤ v' ∧ v' < 64 * 128 ^ (9 - i) ∧ (-9223372036854775808 ≤ v' ∧ v' < 9223372036854775808) ∧ m ++ slebF (10 - i) v' = l ++ sleb v ∧ m.length ≤ l.length + i ∧ z = ⟨[(1, .d (.int .i64 v')), (5, .row 448 0 0 m.length)], [(448, .row 1 (byt m) 0 false c)]⟩) ?_ ?_ fu _ (by omega)
      ⟨l, v, true, by omega, by omega, ⟨h0, h1⟩, rfl, by omega, rfl⟩
    · rintro i z hi ⟨m, v', c, i1, i2, i3, i4, i5, rfl⟩
      obtain ⟨k, hk⟩ : ∃ k, 9 - i = k + 1 := ⟨8 - i, by omega⟩
      have hk' : 9 - (i + 1) = k := by omega
      have hk2 : 10 - i = (k + 1) + 1 := by omega
      have hk3 : 10 - (i + 1) = k + 1 := by omega
      rw [hk] at i1 i2
      rw [hk2, slebF] at i4
      by_cases hv : v' < -64 ∨ v' ≥ 64
      · rw [if_pos hv, ← List.singleton_append, ← List.append_assoc] at i4
        have ht := byt_take m
        have h7 : shr .i64 v' 7 = v' / 128 := by
          show Int.fdiv v' (2 ^ (min (7 : Int).toNat 64)) = _
          rw [Int.fdiv_eq_ediv_of_nonneg _ (by decide)]; rfl
        have w8 : IntKind.wrap .i64 (128 + v' % 128) = v' % 128 + 128 := by rw [wrap_i64 (by omega) (by omega)]; omega
        have w9 : IntKind.wrap .u8 (v' % 128 + 128) = v' % 128 + 128 := wrap_u8 (by omega) (by omega)
        have hs : sizedAll 1 [D.int .u8 (v' % 128 + 128)] = true := rfl
        have hm : m.length ≤ 1099511627775 := by omega
        have goal : ∃ x s1, some (Ex.normal, (⟨[(1, .d (.int .i64 (v' / 128))), (5, .row 448 0 0 (m.length + 1))], [(448, .row 1 (byt m ++ [.int .u8 (v' % 128 + 128)]) 0 false true)]⟩ : St)) = some (x, s1) ∧ match x with
          | .normal => ∃ (m : List Int) (v' : Int) (c : Bool), -64 * 128 ^ (9 - (i + 1)) ≤ v' ∧ v' < 64 * 128 ^ (9 - (i + 1)) ∧ (-9223372036854775808 ≤ v' ∧ v' < 9223372036854775808) ∧ m ++ slebF (10 - (i + 1)) v' = l ++ sleb v ∧ m.length ≤ l.length + (i + 1) ∧ s1 = ⟨[(1, .d (.int .i64 v')), (5, .row 448 0 0 m.length)], [(448, .row 1 (byt m) 0 false c)]⟩
          | x => x = .exit 0 ∧ ∃ (m : List Int) (v' : Int) (c : Bool), -64 ≤ v' ∧ v' < 64 ∧ m ++ [v' % 128] = l ++ sleb v ∧ m.length ≤ l.length + 9 ∧ s1 = ⟨[(1, .d (.int .i64 v')), (5, .row 448 0 0 m.length)], [(448, .row 1 (byt m) 0 false c)]⟩ := by
          have hb : byt m ++ [D.int .u8 (v' % 128 + 128)] = byt (m ++ [v' % 128 + 128]) := by simp [byt]
          rw [hb, show m.length + 1 = (m ++ [v' % 128 + 128]).length by simp]
          refine ⟨_, _, rfl, m ++ [v' % 128 + 128], v' / 128, true, ?_, ?_, by omega, by rw [hk3]; exact i4, by simp; omega, rfl⟩
          · rw [hk']
            rw [Int.pow_succ, ← Int.mul_assoc] at i1
            exact (Int.le_ediv_iff_mul_le (by decide)).2 i1
          · rw [hk']
            rw [Int.pow_succ, ← Int.mul_assoc] at i2
            exact Int.ediv_lt_of_lt_mul (by decide) i2
        by_cases hv1 : v' < -64
        · simp only [go_sem, Nat.reduceAdd, Nat.reduceMul, Nat.reduceSub, Nat.reduceLT, Nat.reduceLeDiff, Nat.reduceEqDiff, Nat.reduceBEq, Nat.reduceBeqDiff, Int.reduceEq, Int.reduceLT, Int.reduceLE, Int.reduceToNat, Int.reduceNeg, Int.reduceAdd, Int.reduceSub, Int.reduceMul, reduceIte, reduceCtorEq, Nat.reducePow, Nat.reduceDiv, Nat.reduceMod, Int.reduceBEq, hv1, and_127i, w8, w9, hs, ht, h7, hm]
          exact goal
        · have hv2 : 63 < v' := by omega
          simp only [go_sem, Nat.reduceAdd, Nat.reduceMul, Nat.reduceSub, Nat.reduceLT, Nat.reduceLeDiff, Nat.reduceEqDiff, Nat.reduceBEq, Nat.reduceBeqDiff, Int.reduceEq, Int.reduceLT, Int.reduceLE, Int.reduceToNat, Int.reduceNeg, Int.reduceAdd, Int.reduceSub, Int.reduceMul, reduceIte, reduceCtorEq, Nat.reducePow, Nat.reduceDiv, Nat.reduceMod, Int.reduceBEq, hv1, hv2, and_127i, w8, w9, hs, ht, h7, hm]
          exact goal
      · rw [if_neg hv] at i4
        have hv1 : ¬ v' < -64 := by omega
        have hv2 : ¬ 63 < v' := by omega
        simp only [go_sem, Nat.reduceAdd, Nat.reduceMul, Nat.reduceSub, Nat.reduceLT, Nat.reduceLeDiff, Nat.reduceEqDiff, Nat.reduceBEq, Nat.reduceBeqDiff, Int.reduceEq, Int.reduceLT, Int.reduceLE, Int.reduceToNat, Int.reduceNeg, Int.reduceAdd, Int.reduceSub, Int.reduceMul, reduceIte, reduceCtorEq, Nat.reducePow, Nat.reduceDiv, Nat.reduceMod, Int.reduceBEq, hv1, hv2]
        exact ⟨_, _, rfl, rfl, m, v', c, by omega, by omega, i4, by omega, rfl⟩
    · rintro z ⟨m, v', c, i1, i2, i3, i4, i5, rfl⟩
      have hv1 : ¬ v' < -64 := by omega
      have hv2 : ¬ 63 < v' := by omega
      rw [show 10 - 9 = 0 + 1 from rfl, slebF, if_neg (by omega)] at i4
      simp only [go_sem, Nat.reduceAdd, Nat.reduceMul, Nat.reduceSub, Nat.reduceLT, Nat.reduceLeDiff, Nat.reduceEqDiff, Nat.reduceBEq, Nat.reduceBeqDiff, Int.reduceEq, Int.reduceLT, Int.reduceLE, Int.reduceToNat, Int.reduceNeg, Int.reduceAdd, Int.reduceSub, Int.reduceMul, reduceIte, reduceCtorEq, Nat.reducePow, Nat.reduceDiv, Nat.reduceMod, Int.reduceBEq, hv1, hv2]
      exact ⟨_, _, rfl, trivial, rfl, m, v', c, by omega, by omega, i4, by omega, rfl⟩
  have ht := byt_take m
  have hs : sizedAll 1 [D.int .u8 (v' % 128)] = true := rfl
  have e1 : v' % 128 % 256 = v' % 128 := by omega
  have hm : m.length ≤ 1099511627775 := by omega
  simp only [go_sem, Nat.reduceAdd, Nat.reduceMul, Nat.reduceSub, Nat.reduceLT, Nat.reduceLeDiff, Nat.reduceEqDiff, Nat.reduceBEq, Nat.reduceBeqDiff, Int.reduceEq, Int.reduceLT, Int.reduceLE, Int.reduceToNat, Int.reduceNeg, Int.reduceAdd, Int.reduceSub, Int.reduceMul, reduceIte, reduceCtorEq, Nat.reducePow, Nat.reduceDiv, Nat.reduceMod, Int.reduceBEq, wrap_u8_mod, and_127i, e1, hs, ht, hm]
  have hb : byt m ++ [D.int .u8 (v' % 128)] = byt (m ++ [v' % 128]) := by simp [byt]
  rw [hb, show m.length + 1 = (m ++ [v' % 128]).length by simp, j3]
end Go.Proofs.YtklnkkejkeelaaaDoor.E
