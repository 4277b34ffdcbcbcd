/- THE LAW CheckCuts, read. -/
import Derived.Test.YtfpioigggjnffaaDoorN4
import Derived.Test.YtfpioigggjnffaaDoorC13
set_option linter.unnecessarySimpa false
set_option linter.unusedSimpArgs false
set_option linter.unusedVariables false
set_option autoImplicit false
set_option maxRecDepth 100000
set_option maxHeartbeats 4000000
set_option linter.unusedSimpArgs false
set_option linter.unusedVariables false
set_option pp.maxSteps 20000
namespace Go.Proofs.YtfpioigggjnffaaDoor.E
open Go.Ev
theorem sizedI10 (xs : List TInstr) : sizedAll 5 (xs.map TInstr.d) = true := sizedAll_map (fun a => ⟨_, rfl⟩) xs
theorem tkI (l : List TInstr) (k : Nat) : List.take k (l.map TInstr.d) = (l.take k).map TInstr.d := List.map_take.symm
theorem cuts_facts {e : TEnv} {l : List TInstr} {p : List Stk} (hm : ESm e) (hw : walkOk l = true) (hs : envSane e = true) (hp : pathS saneF accE shapeF e (start e) l = .ok p) {k : Nat} (hk : k ≤ l.length)
    (h0 : k < l.length → (depthsF l).getD k 0 = 0 ∧ (l.getD k in0).op ≠ 5 ∧ (l.getD k in0).op ≠ 11) :
    pathF e (l.take k) = .ok (p.take (k + 1)) ∧ ∃ a, p[k]? = some a ∧ (p.take (k + 1))[k]? = some a ∧ Rm (1 + 65 * l.length) a ∧ (k < l.length → ∃ b, p[k + 1]? = some b ∧ stepS saneF accE shapeF e a (l.getD k in0) = .ok b) := by
  have hl := pathS_len hp
  have hst : walkSt l k = some [] := by
    obtain ⟨st, hst⟩ := walkSt_ok hw hk
    rw [hst]
    by_cases hlt : k < l.length
    · obtain ⟨a, b, c⟩ := h0 hlt
      have := depthsF_get hw hlt hst
      have ho : opAt l k = (l.getD k in0).op := rfl
      unfold encl at this
      rw [a, if_neg (by rw [ho]; omega)] at this
      have h0 : st.length = 0 := by omega
      rw [List.length_eq_zero_iff.1 h0]
    · obtain rfl : k = l.length := by omega
      unfold walkOk at hw
      rw [hst] at hw
      simp only [List.isEmpty_iff] at hw
      rw [hw]
  obtain ⟨c1, c2, c3⟩ := cut_last hp hk
  have hkp : k < p.length := by omega
  refine ⟨?_, p[k], List.getElem?_eq_getElem hkp, by rw [c2]; exact List.getElem?_eq_getElem hkp, path_rm hm (start_rm e) hp _ (List.getElem_mem hkp), fun hlt => ?_⟩
  · unfold pathF
    rw [walkOk_take hk hst, hs]
    simp only [if_true]
    exact pathS_take hp k
  · obtain ⟨a, b, e1, e2, e3⟩ := c3 (l.getD k in0) (by simp [hlt])
    rw [List.getElem?_eq_getElem hkp] at e1
    cases e1
    exact ⟨b, e2, e3⟩
theorem cuts_ev (fu n : Nat) (e : Tavocetref10_Env) (l : List TInstr) (a : Int) (hf : 20000 < fu) (hfl : l.length < fu) (hl9 : l.length ≤ maxLen) :
    evF (G fu) (n+16) 5 [.d e.d, .d (.list (l.map TInstr.d)), .d (.int .i64 a)] [] = some (.d (.bool true), []) := by
  have A := awake10_ev fu n (by omega)
  have F1 := few_ev fu (n+14) l 100 hfl hl9
  have S1 := small_ev fu (n+14) e (by omega)
  simp only [Tavocetref10_Env.d] at S1
  rw [evF.eq_2, evX.eq_def, Gext, exts_no _ (f := 5) (by decide), GP, Tryd.func5]; simp only [Tryd.f5, evB]
  cases hs : smallE e with
  | false =>
    rw [hs] at S1
    simp only [go_sem, Nat.reduceAdd, Nat.reduceMul, Nat.reduceSub, Nat.reduceLT, Nat.reduceLeDiff, Nat.reduceEqDiff, Nat.reduceBEq, Nat.reduceBeqDiff, Int.reduceEq, Int.reduceLT, Int.reduceLE, Int.reduceToNat, Int.reduceNeg, Int.reduceAdd, Int.reduceSub, Int.reduceMul, reduceIte, reduceCtorEq, Nat.reducePow, Nat.reduceDiv, Nat.reduceMod, Int.reduceBEq, Tavocetref10_Env.d, A, S1]
  | true =>
    rw [hs] at S1
    cases hw : few l 100 with
    | false =>
      rw [hw] at F1
      simp only [go_sem, Nat.reduceAdd, Nat.reduceMul, Nat.reduceSub, Nat.reduceLT, Nat.reduceLeDiff, Nat.reduceEqDiff, Nat.reduceBEq, Nat.reduceBeqDiff, Int.reduceEq, Int.reduceLT, Int.reduceLE, Int.reduceToNat, Int.reduceNeg, Int.reduceAdd, Int.reduceSub, Int.reduceMul, reduceIte, reduceCtorEq, Nat.reducePow, Nat.reduceDiv, Nat.reduceMod, Int.reduceBEq, Tavocetref10_Env.d, A, S1, F1]
    | true =>
      rw [hw] at F1
      obtain ⟨hlen, hlab⟩ := few_of hw
      have hbl : ∀ i ∈ l, i.labels.length < fu ∧ i.labels.length < 1000000 := fun i hi => by have := hlab i hi; omega
      have hE := eok_of hs (fu := fu) (by omega)
      have hg : e.globals.length ≤ 70 := by
        unfold smallE at hs
        simp only [Bool.and_eq_true, decide_eq_true_eq] at hs
        omega
      have VV := env_ev fu (n+14) e (by omega) (by omega)
      have P := path_ev fu (n+2) (envOf e) hE l (by omega) (by omega) hbl
      have DD := rDepths_ev fu (n+11) l (by omega) (by omega)
      simp only [Tavocetref10_Env.d] at VV
      cases hp : pathF (envOf e) l with
      | error f =>
        have hf0 := pathF_ne hp
        rw [hp] at P
        simp only [pathR] at P
        simp only [go_sem, Nat.reduceAdd, Nat.reduceMul, Nat.reduceSub, Nat.reduceLT, Nat.reduceLeDiff, Nat.reduceEqDiff, Nat.reduceBEq, Nat.reduceBeqDiff, Int.reduceEq, Int.reduceLT, Int.reduceLE, Int.reduceToNat, Int.reduceNeg, Int.reduceAdd, Int.reduceSub, Int.reduceMul, reduceIte, reduceCtorEq, Nat.reducePow, Nat.reduceDiv, Nat.reduceMod, Int.reduceBEq, Tavocetref10_Env.d, A, S1, F1, VV, P, DD, hf0]
      | ok p =>
        obtain ⟨hwk, hsn, hps⟩ := pathF_ok hp
        have hpl := pathS_len hps
        have hdl := depthsF_len l hwk
        rw [hp] at P
        simp only [pathR] at P
        have hpI : (p.length : Int) = (l.length : Int) + 1 := by omega
        have hdI : ((depthsF l).length : Int) = l.length := by omega
        have W1 := wrap_i64 (show -9223372036854775808 ≤ (l.length : Int) + 1 by omega) (by omega)
        obtain ⟨k, hk, hkI⟩ : ∃ k : Nat, k ≤ l.length ∧ (a % 65536).tmod ((l.length : Int) + 1) = (k : Int) := by
          have h1 : 0 ≤ a % 65536 := by omega
          rw [Int.tmod_eq_emod_of_nonneg h1]
          have h2 := Int.emod_nonneg (a % 65536) (show (l.length : Int) + 1 ≠ 0 by omega)
          have h3 := Int.emod_lt_of_pos (a % 65536) (show 0 < (l.length : Int) + 1 by omega)
          exact ⟨(a % 65536 % ((l.length : Int) + 1)).toNat, by omega, by omega⟩
        have W2 := wrap_i64 (show -9223372036854775808 ≤ (k : Int) by omega) (by omega)
        have nz : ¬ (l.length : Int) + 1 = 0 := by omega
        have hN : (stkds p).length = l.length + 1 := by simp [hpl]
        by_cases hlt : k < l.length
        · have hltI : (k : Int) < l.length := by omega
          have hd : ((depthsF l).map (D.int .i64))[k]? = some (.int .i64 ((depthsF l).getD k 0)) := getD_map (d := 0) (by omega)
          have hi : (l.map TInstr.d)[k]? = some (l.getD k in0).d := getD_map hlt
          have h0 := cuts_facts hE.sm hwk hsn hps hk
          have hlab1 := hbl (l.getD k in0) (by simp [hlt])
          have hst := step_ev fu (n+3)
          generalize (depthsF l).getD k 0 = dk at *
          generalize l.getD k in0 = y at *
          by_cases d0 : dk = 0
          · by_cases c5 : y.op = 5
            · simp only [go_sem, Nat.reduceAdd, Nat.reduceMul, Nat.reduceSub, Nat.reduceLT, Nat.reduceLeDiff, Nat.reduceEqDiff, Nat.reduceBEq, Nat.reduceBeqDiff, Int.reduceEq, Int.reduceLT, Int.reduceLE, Int.reduceToNat, Int.reduceNeg, Int.reduceAdd, Int.reduceSub, Int.reduceMul, reduceIte, reduceCtorEq, Nat.reducePow, Nat.reduceDiv, Nat.reduceMod, Int.reduceBEq, Tavocetref10_Env.d, A, S1, F1, VV, P, DD, List.length_map, hpI, hdI, W1, W2, and_ffff, nz, hkI, hltI, idx, hd, hi, d0, c5, TInstr.d]
            · by_cases c11 : y.op = 11
              · simp only [go_sem, Nat.reduceAdd, Nat.reduceMul, Nat.reduceSub, Nat.reduceLT, Nat.reduceLeDiff, Nat.reduceEqDiff, Nat.reduceBEq, Nat.reduceBeqDiff, Int.reduceEq, Int.reduceLT, Int.reduceLE, Int.reduceToNat, Int.reduceNeg, Int.reduceAdd, Int.reduceSub, Int.reduceMul, reduceIte, reduceCtorEq, Nat.reducePow, Nat.reduceDiv, Nat.reduceMod, Int.reduceBEq, Tavocetref10_Env.d, A, S1, F1, VV, P, DD, List.length_map, hpI, hdI, W1, W2, and_ffff, nz, hkI, hltI, idx, hd, hi, d0, c5, c11, TInstr.d]
              · obtain ⟨q0, x, q1, q2, q3, q4⟩ := h0 (fun _ => ⟨d0, c5, c11⟩)
                obtain ⟨z, q5, q6⟩ := q4 hlt
                have P2 := path_ev fu (n+2) (envOf e) hE (l.take k) (by rw [List.length_take]; omega) (by rw [List.length_take]; omega) (fun i hi => hbl i (List.mem_of_mem_take hi))
                rw [q0] at P2
                simp only [pathR] at P2
                have hkl : (k : Int) ≤ l.length := by omega
                have hql : ((p.take (k + 1)).length : Int) = ((k + 1 : Nat) : Int) := by rw [List.length_take]; omega
                have W3 : IntKind.wrap .i64 ((k : Int) + 1) = ((k + 1 : Nat) : Int) := by rw [wrap_i64 (by omega) (by omega)]; rfl
                have k1 : (k : Int) < ((k + 1 : Nat) : Int) := by omega
                have k2 : (k : Int) < l.length + 1 := by omega
                have k3 : ((k + 1 : Nat) : Int) < l.length + 1 := by omega
                have n1 : ¬ (k : Int) = l.length := by omega
                have sx1 : (stkds (p.take (k + 1)))[k]? = some x.dd := by rw [stkds, List.getElem?_map, q2]; rfl
                have sx2 : (stkds p)[k]? = some x.dd := by simp [stkds, q1]
                have sx3 : (stkds p)[k + 1]? = some z.dd := by simp [stkds, q5]
                have hsb := strOf_byt x.vals
                have hsz := strOf_byt z.vals
                have ST := step_ev fu (n+3) (1 + 65 * l.length) (envOf e) hE.sm x (by omega) (by omega) q3 y hlab1.1 hlab1.2
                rw [q6] at ST
                simp only [stkR, Stk.dd, TInstr.d] at ST sx1 sx2 sx3 hi
                simp only [go_sem, Nat.reduceAdd, Nat.reduceMul, Nat.reduceSub, Nat.reduceLT, Nat.reduceLeDiff, Nat.reduceEqDiff, Nat.reduceBEq, Nat.reduceBeqDiff, Int.reduceEq, Int.reduceLT, Int.reduceLE, Int.reduceToNat, Int.reduceNeg, Int.reduceAdd, Int.reduceSub, Int.reduceMul, reduceIte, reduceCtorEq, Nat.reducePow, Nat.reduceDiv, Nat.reduceMod, Int.reduceBEq, Tavocetref10_Env.d, A, S1, F1, VV, P, DD, List.length_map, hpI, hdI, W1, W2, and_ffff, nz, hkI, hltI, idx, hd, hi, d0, c5, c11, hkl, sizedI10, Int.sub_zero, Int.toNat_natCast, tkI, P2]
                (rw [cond_free]; rotate_left; · rfl)
                simp only [go_sem, Nat.reduceAdd, Nat.reduceMul, Nat.reduceSub, Nat.reduceLT, Nat.reduceLeDiff, Nat.reduceEqDiff, Nat.reduceBEq, Nat.reduceBeqDiff, Int.reduceEq, Int.reduceLT, Int.reduceLE, Int.reduceToNat, Int.reduceNeg, Int.reduceAdd, Int.reduceSub, Int.reduceMul, reduceIte, reduceCtorEq, Nat.reducePow, Nat.reduceDiv, Nat.reduceMod, Int.reduceBEq, List.length_map, hpI, hql, W1, W2, W3, k1, k2, k3, n1, sx1, sx2, sx3, hsb, hsz, ST, ctlds_len, hltI, idx, hi, VV]
                (rw [cond_free]; rotate_left; · rfl)
                simp only [go_sem, Nat.reduceAdd, Nat.reduceMul, Nat.reduceSub, Nat.reduceLT, Nat.reduceLeDiff, Nat.reduceEqDiff, Nat.reduceBEq, Nat.reduceBeqDiff, Int.reduceEq, Int.reduceLT, Int.reduceLE, Int.reduceToNat, Int.reduceNeg, Int.reduceAdd, Int.reduceSub, Int.reduceMul, reduceIte, reduceCtorEq, Nat.reducePow, Nat.reduceDiv, Nat.reduceMod, Int.reduceBEq, List.length_map, hpI, hql, W1, W2, W3, k1, k2, k3, n1, sx1, sx2, sx3, hsb, hsz, ST, ctlds_len, hltI, idx, hi, VV]
          · simp only [go_sem, Nat.reduceAdd, Nat.reduceMul, Nat.reduceSub, Nat.reduceLT, Nat.reduceLeDiff, Nat.reduceEqDiff, Nat.reduceBEq, Nat.reduceBeqDiff, Int.reduceEq, Int.reduceLT, Int.reduceLE, Int.reduceToNat, Int.reduceNeg, Int.reduceAdd, Int.reduceSub, Int.reduceMul, reduceIte, reduceCtorEq, Nat.reducePow, Nat.reduceDiv, Nat.reduceMod, Int.reduceBEq, Tavocetref10_Env.d, A, S1, F1, VV, P, DD, List.length_map, hpI, hdI, W1, W2, and_ffff, nz, hkI, hltI, idx, hd, hi, d0]
        · obtain rfl : k = l.length := by omega
          obtain ⟨q0, x, q1, q2, q3, q4⟩ := cuts_facts hE.sm hwk hsn hps hk (fun h => absurd h hlt)
          have k2 : (l.length : Int) < l.length + 1 := by omega
          have sx2 : (stkds p)[l.length]? = some x.dd := by rw [stkds, List.getElem?_map, q1]; rfl
          have hsb := strOf_byt x.vals
          simp only [Stk.dd] at sx2
          simp only [go_sem, Nat.reduceAdd, Nat.reduceMul, Nat.reduceSub, Nat.reduceLT, Nat.reduceLeDiff, Nat.reduceEqDiff, Nat.reduceBEq, Nat.reduceBeqDiff, Int.reduceEq, Int.reduceLT, Int.reduceLE, Int.reduceToNat, Int.reduceNeg, Int.reduceAdd, Int.reduceSub, Int.reduceMul, reduceIte, reduceCtorEq, Nat.reducePow, Nat.reduceDiv, Nat.reduceMod, Int.reduceBEq, Tavocetref10_Env.d, A, S1, F1, VV, P, DD, List.length_map, hpI, hdI, W1, W2, and_ffff, nz, hkI, Int.lt_irrefl, Int.le_refl, sizedI10, Int.sub_zero, Int.toNat_natCast, tkI]
          (rw [cond_free]; rotate_left; · rfl)
          simp only [go_sem, Nat.reduceAdd, Nat.reduceMul, Nat.reduceSub, Nat.reduceLT, Nat.reduceLeDiff, Nat.reduceEqDiff, Nat.reduceBEq, Nat.reduceBeqDiff, Int.reduceEq, Int.reduceLT, Int.reduceLE, Int.reduceToNat, Int.reduceNeg, Int.reduceAdd, Int.reduceSub, Int.reduceMul, reduceIte, reduceCtorEq, Nat.reducePow, Nat.reduceDiv, Nat.reduceMod, Int.reduceBEq, List.length_map, hpI, W1, k2, sx2, hsb]
theorem CheckCuts.pure (e : Tavocetref10_Env) (he : e.ok) (l : List TInstr) (hl : l.length ≤ maxLen ∧ ∀ z ∈ l, z.ok) (a : Int) (ha : rng .i64 a) :
    ∃ fu n, evF (G fu) n 5 [.d e.d, .d (.list (l.map TInstr.d)), .d (.int .i64 a)] [] = some (.d (.bool true), []) :=
  ⟨20001 + l.length, 16, cuts_ev _ 0 e l a (by omega) (by omega) hl.1⟩
end Go.Proofs.YtfpioigggjnffaaDoor.E
