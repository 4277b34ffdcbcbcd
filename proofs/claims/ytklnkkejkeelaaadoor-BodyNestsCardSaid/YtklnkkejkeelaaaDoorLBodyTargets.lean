/- THE LAW BodyTargets, read. -/
import Derived.Test.YtklnkkejkeelaaaDoorA06
import Derived.Test.YtklnkkejkeelaaaDoorT07
import Derived.Test.YtklnkkejkeelaaaDoorLBodyRows
set_option linter.unnecessarySimpa false
set_option linter.unusedSimpArgs false
set_option linter.unusedVariables false
set_option autoImplicit false
set_option maxRecDepth 100000
set_option maxHeartbeats 4000000
set_option linter.unusedSimpArgs false
set_option linter.unusedVariables false
set_option pp.maxSteps 20000
namespace Go.Proofs.YtklnkkejkeelaaaDoor.E
open Go.Ev
/-- Where a branch goes that goes out of something. -/
theorem target_in {l : List TInstr} (h : walkOk l = true) {k : Nat} (hk : k < l.length) {st : List Nest} (hst : walkSt l k = some st) {n : Nat} {p : Nest} (hp : (encl l k st)[n]? = some p) {t : Int} (ht : t = if opAt l p.1.toNat = 3 then p.1 else ((matchesF l).getD p.1.toNat n0).2) :
    ∃ m : Nat, t = m ∧ m < l.length ∧ (depthsF l).getD m 0 = ((encl l k st).length : Int) - n - 1 ∧ ((opAt l m = 11 ∧ k < m) ∨ (opAt l m = 3 ∧ m < k)) := by
  have hpm := List.mem_of_getElem? hp
  have hin := walkSt_in hst p (encl_sub hpm)
  unfold nestIn at hin
  obtain ⟨j, hj⟩ : ∃ j : Nat, p.1 = j := ⟨p.1.toNat, by omega⟩
  have hjk : j < k := by omega
  have ho := walkSt_opens h (by omega) hst p (encl_sub hpm)
  rw [hj, Int.toNat_natCast] at ho ht
  obtain ⟨base, hb⟩ := walkSt_ok h (k := j) (by omega)
  obtain ⟨e, o, he1, he2, he3, he4, he5, he6, he7⟩ := (all_shut h (by omega) ho hb).ex
  have hc := (encl_mem h hjk hk ho hst).2 ⟨p, hpm, hj⟩
  rw [he5] at hc ht
  have hek : k < e := by
    rcases Nat.lt_or_ge k e with q | q
    · exact q
    · exact absurd (.inl (by show (e : Int) ≤ k; omega)) hc
  -- its place in what is open
  obtain ⟨inner, o', hi⟩ := he7 k hjk (by omega)
  obtain rfl := Option.some.inj (hst.symm.trans hi)
  have hsort := walkSt_sorted hst
  have hs2 := List.pairwise_append.1 hsort
  have hs3 := List.pairwise_cons.1 hs2.2.1
  have hidx : ∀ i q, (inner ++ ((j : Int), o') :: base)[i]? = some q → q.1 = (j : Int) → i = inner.length := fun i q h1 h2 => by
    rcases Nat.lt_trichotomy i inner.length with q' | q' | q'
    · rw [List.getElem?_append_left q'] at h1
      have := hs2.2.2 q (List.mem_of_getElem? h1) ((j : Int), o') (by simp)
      simp only at this
      omega
    · exact q'
    · rw [List.getElem?_append_right (by omega)] at h1
      obtain ⟨z, hz⟩ : ∃ z, i - inner.length = z + 1 := ⟨i - inner.length - 1, by omega⟩
      rw [hz, List.getElem?_cons_succ] at h1
      have := hs3.1 q (List.mem_of_getElem? h1)
      simp only at this
      omega
  have hlen : ((encl l k (inner ++ ((j : Int), o') :: base)).length : Int) - n - 1 = base.length := by
    unfold encl at hp ⊢
    split at hp
    · rename_i hop
      rw [if_pos hop]
      have hp' : (inner ++ ((j : Int), o') :: base)[n + 1]? = some p := by rw [← hp]; cases inner <;> simp
      have := hidx _ _ hp' hj
      simp
      omega
    · rename_i hop
      rw [if_neg hop]
      have := hidx _ _ hp hj
      simp
      omega
  rw [hlen]
  by_cases h3 : opAt l j = 3
  · rw [if_pos h3] at ht
    refine ⟨j, by rw [ht], by omega, ?_, .inr ⟨h3, hjk⟩⟩
    rw [depthsF_get h (by omega) hb]
    unfold encl
    rw [if_neg (by omega)]
  · rw [if_neg h3] at ht
    refine ⟨e, ht, he2, ?_, .inl ⟨he3, hek⟩⟩
    rw [depthsF_get h he2 he4]
    unfold encl
    rw [if_pos (.inr he3)]
    rfl
theorem targets_ev (fu n : Nat) (l : List TInstr) (at_ label : Int) (hf : 1000 < fu) (hl : l.length < fu) (hl9 : l.length ≤ maxLen) :
    evF (G fu) (n+11) 4 [.d (.list (l.map TInstr.d)), .d (.int .i64 at_), .d (.int .i64 label)] [] = some (.d (.bool true), []) := by
  have A := awake06_ev fu n (by omega)
  have F1 := few_ev fu (n+9) l 120 hl hl9
  rw [evF.eq_2, evX.eq_def, Gext, GP, Tryd.func4]; simp only [Tryd.f4, evB]
  cases f1 : few l 120 with
  | false => simp only [go_sem, Nat.reduceAdd, Nat.reduceMul, Nat.reduceSub, Nat.reduceLT, Nat.reduceLeDiff, Nat.reduceEqDiff, Nat.reduceBEq, Nat.reduceBeqDiff, Int.reduceEq, Int.reduceLT, Int.reduceLE, Int.reduceToNat, Int.reduceNeg, Int.reduceAdd, Int.reduceSub, Int.reduceMul, reduceIte, reduceCtorEq, Nat.reducePow, Nat.reduceDiv, Nat.reduceMod, Int.reduceBEq, and_self, and_true, true_and, and_false, false_and, or_true, true_or, or_false, false_or, Int.natCast_nonneg, Int.toNat_natCast, not_true_eq_false, not_false_eq_true, List.size_toArray, Array.size_empty, List.getElem?_nil, A, F1, f1]
  | true =>
    obtain ⟨b1, c1⟩ := few_lab f1 hf
    by_cases hnil : (l.length : Int) = 0
    · simp only [go_sem, Nat.reduceAdd, Nat.reduceMul, Nat.reduceSub, Nat.reduceLT, Nat.reduceLeDiff, Nat.reduceEqDiff, Nat.reduceBEq, Nat.reduceBeqDiff, Int.reduceEq, Int.reduceLT, Int.reduceLE, Int.reduceToNat, Int.reduceNeg, Int.reduceAdd, Int.reduceSub, Int.reduceMul, reduceIte, reduceCtorEq, Nat.reducePow, Nat.reduceDiv, Nat.reduceMod, Int.reduceBEq, and_self, and_true, true_and, and_false, false_and, or_true, true_or, or_false, false_or, Int.natCast_nonneg, Int.toNat_natCast, not_true_eq_false, not_false_eq_true, List.size_toArray, Array.size_empty, List.getElem?_nil, A, F1, f1, List.length_map, hnil]
    · have D1 := depths_ev fu (n+5) l (by omega) hl (by omega)
      cases w1 : walkOk l with
      | false =>
        rw [depthsF_no l w1] at D1
        have : ¬ (0 : Int) = l.length := fun e => hnil e.symm
        simp only [go_sem, Nat.reduceAdd, Nat.reduceMul, Nat.reduceSub, Nat.reduceLT, Nat.reduceLeDiff, Nat.reduceEqDiff, Nat.reduceBEq, Nat.reduceBeqDiff, Int.reduceEq, Int.reduceLT, Int.reduceLE, Int.reduceToNat, Int.reduceNeg, Int.reduceAdd, Int.reduceSub, Int.reduceMul, reduceIte, reduceCtorEq, Nat.reducePow, Nat.reduceDiv, Nat.reduceMod, Int.reduceBEq, and_self, and_true, true_and, and_false, false_and, or_true, true_or, or_false, false_or, Int.natCast_nonneg, Int.toNat_natCast, not_true_eq_false, not_false_eq_true, List.size_toArray, Array.size_empty, List.getElem?_nil, A, F1, f1, List.length_map, hnil, D1, List.length_nil, this]
      | true =>
        have hdl := depthsF_len l w1
        obtain ⟨kk, hkk⟩ : ∃ kk : Nat, (at_ % 65536).tmod (l.length : Int) = kk := by
          have h0 : 0 ≤ at_ % 65536 := Int.emod_nonneg _ (by decide)
          exact ⟨((at_ % 65536).tmod (l.length : Int)).toNat, by have := Int.tmod_nonneg (l.length : Int) h0; omega⟩
        have hkl : kk < l.length := by
          have := Int.tmod_lt_of_pos (at_ % 65536) (show (0 : Int) < l.length by omega)
          omega
        obtain ⟨nn, hnn⟩ : ∃ nn : Nat, label % 64 = nn := ⟨(label % 64).toNat, by have := Int.emod_nonneg label (show (64 : Int) ≠ 0 by decide); omega⟩
        have hn64 : nn < 64 := by have := Int.emod_lt_of_pos label (show (0 : Int) < 64 by decide); omega
        have T := target_ev fu (n+4) l (kk : Int) (nn : Int) (by omega) (by omega) hl (by omega)
        obtain ⟨st, hst⟩ := walkSt_ok w1 (k := kk) (by omega)
        rw [tgt_encl w1 hkl hst (by omega)] at T
        obtain ⟨p1, p2, p3, p4⟩ := pick_ok (l := l) (M := matchesF l) (L := encl l kk st) (left := (nn : Int)) (by omega)
        rw [p1] at T
        have hd := depthsF_get w1 hkl hst
        have hx : ((depthsF l).map (D.int .i64))[kk]? = some (.int .i64 ((encl l kk st).length : Int)) := by rw [getD_map (f := D.int .i64) (d := 0) (by omega), hd]
        have hk0 : (kk : Int) < l.length := by omega
        rcases Int.lt_trichotomy (nn : Int) ((encl l kk st).length : Int) with hlt | heq | hgt
        · obtain ⟨p, q1, q2⟩ := p4 hlt
          rw [Int.toNat_natCast] at q1
          obtain ⟨m, m1, m2, m3, m4⟩ := target_in w1 hkl hst q1 q2
          rw [m1] at T
          have hne : ¬ (nn : Int) = ((encl l kk st).length : Int) := by omega
          have hm0 : (m : Int) < l.length := by omega
          have hy : ((depthsF l).map (D.int .i64))[m]? = some (.int .i64 (((encl l kk st).length : Int) - nn - 1)) := by rw [getD_map (f := D.int .i64) (d := 0) (by omega), m3]
          have hstl : (encl l kk st).length ≤ l.length := by
            have h1 : (encl l kk st).length ≤ st.length := by unfold encl; split <;> simp
            have := walkG_st (fun _ _ _ _ => ()) () l kk
            rw [hst] at this
            obtain ⟨⟨a, b⟩, h1', h2⟩ := Option.map_eq_some_iff.1 this
            simp only at h2
            subst h2
            have := (walkG_in h1').2
            omega
          have W1 := wrap_i64 (show -9223372036854775808 ≤ ((encl l kk st).length : Int) - nn by omega) (by omega)
          have W2 := wrap_i64 (show -9223372036854775808 ≤ ((encl l kk st).length : Int) - nn - 1 by omega) (by omega)
          have hin : ¬ (m : Int) < 0 := by omega
          have hge : ¬ (l.length : Int) ≤ m := by omega
          have hle : ((nn : Int) ≤ ((encl l kk st).length : Int)) := by omega
          have hop : (l.map TInstr.d)[m]? = some (l.getD m in0).d := getD_map (by omega)
          rcases m4 with ⟨o1, o2⟩ | ⟨o1, o2⟩
          · have o3 : (kk : Int) < m := by omega
            unfold opAt at o1
            simp only [go_sem, Nat.reduceAdd, Nat.reduceMul, Nat.reduceSub, Nat.reduceLT, Nat.reduceLeDiff, Nat.reduceEqDiff, Nat.reduceBEq, Nat.reduceBeqDiff, Int.reduceEq, Int.reduceLT, Int.reduceLE, Int.reduceToNat, Int.reduceNeg, Int.reduceAdd, Int.reduceSub, Int.reduceMul, reduceIte, reduceCtorEq, Nat.reducePow, Nat.reduceDiv, Nat.reduceMod, Int.reduceBEq, and_self, and_true, true_and, and_false, false_and, or_true, true_or, or_false, false_or, Int.natCast_nonneg, Int.toNat_natCast, not_true_eq_false, not_false_eq_true, List.size_toArray, Array.size_empty, List.getElem?_nil, A, F1, f1, List.length_map, hnil, D1, hdl, and_ffff, and_63, hkk, hnn, T, idx, hx, hk0, hlt, hne, hle, hy, hm0, hin, hge, W1, W2, hop, TInstr.d, o1, o3]
          · have o3 : (m : Int) < kk := by omega
            unfold opAt at o1
            simp only [go_sem, Nat.reduceAdd, Nat.reduceMul, Nat.reduceSub, Nat.reduceLT, Nat.reduceLeDiff, Nat.reduceEqDiff, Nat.reduceBEq, Nat.reduceBeqDiff, Int.reduceEq, Int.reduceLT, Int.reduceLE, Int.reduceToNat, Int.reduceNeg, Int.reduceAdd, Int.reduceSub, Int.reduceMul, reduceIte, reduceCtorEq, Nat.reducePow, Nat.reduceDiv, Nat.reduceMod, Int.reduceBEq, and_self, and_true, true_and, and_false, false_and, or_true, true_or, or_false, false_or, Int.natCast_nonneg, Int.toNat_natCast, not_true_eq_false, not_false_eq_true, List.size_toArray, Array.size_empty, List.getElem?_nil, A, F1, f1, List.length_map, hnil, D1, hdl, and_ffff, and_63, hkk, hnn, T, idx, hx, hk0, hlt, hne, hle, hy, hm0, hin, hge, W1, W2, hop, TInstr.d, o1, o3]
        · rw [p3 heq] at T
          obtain rfl : nn = (encl l kk st).length := by omega
          simp only [go_sem, Nat.reduceAdd, Nat.reduceMul, Nat.reduceSub, Nat.reduceLT, Nat.reduceLeDiff, Nat.reduceEqDiff, Nat.reduceBEq, Nat.reduceBeqDiff, Int.reduceEq, Int.reduceLT, Int.reduceLE, Int.reduceToNat, Int.reduceNeg, Int.reduceAdd, Int.reduceSub, Int.reduceMul, reduceIte, reduceCtorEq, Nat.reducePow, Nat.reduceDiv, Nat.reduceMod, Int.reduceBEq, and_self, and_true, true_and, and_false, false_and, or_true, true_or, or_false, false_or, Int.natCast_nonneg, Int.toNat_natCast, not_true_eq_false, not_false_eq_true, List.size_toArray, Array.size_empty, List.getElem?_nil, A, F1, f1, List.length_map, hnil, D1, hdl, and_ffff, and_63, hkk, hnn, T, idx, hx, hk0, Int.le_refl]
        · rw [p2 hgt] at T
          have hle : ¬ ((nn : Int) ≤ ((encl l kk st).length : Int)) := by omega
          simp only [go_sem, Nat.reduceAdd, Nat.reduceMul, Nat.reduceSub, Nat.reduceLT, Nat.reduceLeDiff, Nat.reduceEqDiff, Nat.reduceBEq, Nat.reduceBeqDiff, Int.reduceEq, Int.reduceLT, Int.reduceLE, Int.reduceToNat, Int.reduceNeg, Int.reduceAdd, Int.reduceSub, Int.reduceMul, reduceIte, reduceCtorEq, Nat.reducePow, Nat.reduceDiv, Nat.reduceMod, Int.reduceBEq, and_self, and_true, true_and, and_false, false_and, or_true, true_or, or_false, false_or, Int.natCast_nonneg, Int.toNat_natCast, not_true_eq_false, not_false_eq_true, List.size_toArray, Array.size_empty, List.getElem?_nil, A, F1, f1, List.length_map, hnil, D1, hdl, and_ffff, and_63, hkk, hnn, T, idx, hx, hk0, hle]
theorem BodyTargets.pure (l : List TInstr) (hl : l.length ≤ maxLen ∧ ∀ z ∈ l, z.ok) (a : Int) (ha : rng .i64 a) (b : Int) (hb : rng .i64 b) : ∃ fu n, evF (G fu) n 4 [.d (.list (l.map TInstr.d)), .d (.int .i64 a), .d (.int .i64 b)] [] = some (.d (.bool true), []) :=
  ⟨1001 + l.length, 11, targets_ev _ 0 l a b (by omega) (by omega) hl.1⟩
end Go.Proofs.YtklnkkejkeelaaaDoor.E
