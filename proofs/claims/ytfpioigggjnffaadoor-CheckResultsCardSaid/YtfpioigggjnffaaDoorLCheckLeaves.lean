/- THE LAW CheckLeaves, read. -/
import Derived.Test.YtfpioigggjnffaaDoorN4
set_option linter.unnecessarySimpa false
set_option linter.unusedSimpArgs false
set_option linter.unusedVariables false
set_option autoImplicit false
set_option maxRecDepth 100000
set_option maxHeartbeats 4000000
set_option linter.unusedSimpArgs false
set_option linter.unusedVariables false
set_option pp.maxSteps 20000
namespace Go.Proofs.YtfpioigggjnffaaDoor.E
open Go.Ev
theorem leaves_facts {e : TEnv} {l : List TInstr} {p : List Stk} {r : Ctl × Stk} (he : EnvOk e) (hf : finB e.results = true) (hm : ESm e) (hw : walkOk l = true) (hp : pathS saneF accE shapeF e (start e) l = .ok p) (hc : closeS (p.getLastD stk0) = .ok r) :
    (∀ k, k < l.length → ∃ x, p[k]? = some x ∧ (x.ctrls.length : Int) = (depthsF l).getD k 0 + 1 + (if (l.getD k in0).op = 5 ∨ (l.getD k in0).op = 11 then 1 else 0) ∧ saneS x = true ∧ Rm (1 + 65 * l.length) x) ∧
    ∃ x d, p[l.length]? = some x ∧ x.ctrls = [⟨2, e.results, 0, d⟩] ∧ x.vals.length ≤ e.results.length ∧ (d = true ∨ x.vals = e.results) := by
  have hi := start_inv hf
  have hl := pathS_len hp
  constructor
  · intro k hk
    have hk2 : k < p.length := by omega
    have hx := List.getElem?_eq_getElem hk2
    refine ⟨p[k], hx, ?_, (path_inv tabOk he hi hp k _ hx).sane, path_rm hm (start_rm e) hp _ (List.getElem_mem hk2)⟩
    rw [path_open tabOk he hi hp k _ hx]
    exact open_depth hw hk
  · have hk2 : l.length < p.length := by omega
    have hx := List.getElem?_eq_getElem hk2
    have hg : p.getLastD stk0 = p[l.length] := by
      rw [List.getLastD_eq_getLast?, List.getLast?_eq_getElem?, show p.length - 1 = l.length by omega, hx]; rfl
    rw [hg] at hc
    have h1 : (p[l.length]).ctrls.length = 1 := by
      rw [path_open tabOk he hi hp _ _ hx]
      exact open_last hw
    obtain ⟨d, a, b, c⟩ := last_leaves (path_inv tabOk he hi hp _ _ hx) h1 hc
    exact ⟨_, d, hx, a, b, c⟩
theorem leaves_ev (fu n : Nat) (e : Tavocetref10_Env) (l : List TInstr) (hf : 20000 < fu) (hfl : l.length < fu) (hl9 : l.length ≤ maxLen) (hb : ∀ z ∈ e.results, rng .u8 z) :
    evF (G fu) (n+16) 3 [.d e.d, .d (.list (l.map TInstr.d))] [] = some (.d (.bool true), []) := by
  have A := awake10_ev fu n (by omega)
  have F1 := few_ev fu (n+14) l 120 hfl hl9
  have S1 := small_ev fu (n+14) e (by omega)
  simp only [Tavocetref10_Env.d] at S1
  rw [evF.eq_2, evX.eq_def, Gext, exts_no _ (f := 3) (by decide), GP, Tryd.func3]; simp only [Tryd.f3, evB]
  cases hs : smallE e with
  | false =>
    rw [hs] at S1
    simp only [go_sem, Nat.reduceAdd, Nat.reduceMul, Nat.reduceSub, Nat.reduceLT, Nat.reduceLeDiff, Nat.reduceEqDiff, Nat.reduceBEq, Nat.reduceBeqDiff, Int.reduceEq, Int.reduceLT, Int.reduceLE, Int.reduceToNat, Int.reduceNeg, Int.reduceAdd, Int.reduceSub, Int.reduceMul, reduceIte, reduceCtorEq, Nat.reducePow, Nat.reduceDiv, Nat.reduceMod, Int.reduceBEq, Tavocetref10_Env.d, A, S1]
  | true =>
    rw [hs] at S1
    cases hw : few l 120 with
    | false =>
      rw [hw] at F1
      simp only [go_sem, Nat.reduceAdd, Nat.reduceMul, Nat.reduceSub, Nat.reduceLT, Nat.reduceLeDiff, Nat.reduceEqDiff, Nat.reduceBEq, Nat.reduceBeqDiff, Int.reduceEq, Int.reduceLT, Int.reduceLE, Int.reduceToNat, Int.reduceNeg, Int.reduceAdd, Int.reduceSub, Int.reduceMul, reduceIte, reduceCtorEq, Nat.reducePow, Nat.reduceDiv, Nat.reduceMod, Int.reduceBEq, Tavocetref10_Env.d, A, S1, F1]
    | true =>
      rw [hw] at F1
      obtain ⟨hlen, hlab⟩ := few_of hw
      have hbl : ∀ i ∈ l, i.labels.length < fu ∧ i.labels.length < 1000000 := fun i hi => by have := hlab i hi; omega
      have hE := eok_of hs (fu := fu) (by omega)
      have hg : e.globals.length ≤ 70 := by
        unfold smallE at hs
        simp only [Bool.and_eq_true, decide_eq_true_eq] at hs
        omega
      have VV := env_ev fu (n+14) e (by omega) (by omega)
      have P := path_ev fu (n+2) (envOf e) hE l (by omega) (by omega) hbl
      have B := body_ev fu (n+1) (envOf e) hE l (by omega) (by omega) hbl
      have DD := rDepths_ev fu (n+11) l (by omega) (by omega)
      by_cases hb0 : bodyF (envOf e) l = 0
      · obtain ⟨p, r, hp, hc⟩ := body_fits hb0
        obtain ⟨hwk, hsn, hps⟩ := pathF_ok hp
        obtain ⟨hEnv, hfin⟩ := envOk_of hsn
        have hpl := pathS_len hps
        have hdl := depthsF_len l hwk
        rw [hp] at P
        rw [hb0] at B
        simp only [pathR] at P
        simp only [Tavocetref10_Env.d] at VV
        have hpI : (p.length : Int) = (l.length : Int) + 1 := by omega
        have hdI : ((depthsF l).length : Int) = l.length := by omega
        have W1 := wrap_i64 (show -9223372036854775808 ≤ (l.length : Int) + 1 by omega) (by omega)
        have t1 : (stkds p).take p.length = stkds p := List.take_of_length_le (by simp)
        simp only [go_sem, Nat.reduceAdd, Nat.reduceMul, Nat.reduceSub, Nat.reduceLT, Nat.reduceLeDiff, Nat.reduceEqDiff, Nat.reduceBEq, Nat.reduceBeqDiff, Int.reduceEq, Int.reduceLT, Int.reduceLE, Int.reduceToNat, Int.reduceNeg, Int.reduceAdd, Int.reduceSub, Int.reduceMul, reduceIte, reduceCtorEq, Nat.reducePow, Nat.reduceDiv, Nat.reduceMod, Int.reduceBEq, Tavocetref10_Env.d, A, S1, F1, VV, P, B, DD, List.length_map, hpI, hdI, W1]
        obtain ⟨hround, x, dd, hx, hcx, hvl, hvd⟩ := leaves_facts hEnv hfin hE.sm hwk hps hc
        have hN : (stkds p).length = l.length + 1 := by simp [hpl]
        rw [loop_some l.length (fun k => ⟨[(1, V.d (D.list (List.map TInstr.d l))), (2, V.ptr 192 0), (5, V.d (D.bool true)), (6, V.row 1728 0 0 p.length), (8, V.row 1984 0 0 (depthsF l).length), (9, V.d (D.int IntKind.i64 k))],
          [(192, .cells [V.d (D.list (List.map TFuncType.d e.types)), V.d (D.list (List.map (D.int IntKind.i64) e.funcs)), V.d (D.int IntKind.i64 e.tables), V.d (D.int IntKind.i64 e.mems), V.d (D.list (List.map Tavocetref10_Glob.d e.globals)), V.d (D.list (List.map (D.int IntKind.u8) e.locals)), V.d (D.list (List.map (D.int IntKind.u8) e.results))]),
           (1728, .row 2 (stkds p) 0 false false), (1984, .row 1 (List.map (D.int IntKind.i64) (depthsF l)) 0 false false)]⟩) (.exit 0, ⟨[(1, V.d (D.list (List.map TInstr.d l))), (2, V.ptr 192 0), (5, V.d (D.bool true)), (6, V.row 1728 0 0 p.length)],
          [(192, .cells [V.d (D.list (List.map TFuncType.d e.types)), V.d (D.list (List.map (D.int IntKind.i64) e.funcs)), V.d (D.int IntKind.i64 e.tables), V.d (D.int IntKind.i64 e.mems), V.d (D.list (List.map Tavocetref10_Glob.d e.globals)), V.d (D.list (List.map (D.int IntKind.u8) e.locals)), V.d (D.list (List.map (D.int IntKind.u8) e.results))]),
           (1728, .row 2 (stkds p) 0 false false)]⟩) trivial hfl ?_]
        case hs =>
          intro k hk
          obtain ⟨s, hs, hsc, hss, hsr⟩ := hround k hk
          have hd : ((depthsF l).map (D.int .i64))[k]? = some (.int .i64 ((depthsF l).getD k 0)) := getD_map (d := 0) (by omega)
          have hi : (l.map TInstr.d)[k]? = some (l.getD k in0).d := getD_map hk
          have hst : (stkds p)[k]? = some s.dd := by simp [stkds, hs]
          have hz := hsr.ok (fu := fu) (by omega) (by omega)
          have Z := saneS_ev fu (n+9) s hz.1 hz.2 hz.3 hz.4
          rw [hss] at Z
          simp only [Stk.dd] at Z hst
          have W := wrap_i64 (show -9223372036854775808 ≤ (k : Int) + 1 by omega) (by omega)
          have hkI : (k : Int) < l.length := by omega
          have hpk : (k : Int) < p.length := by omega
          have hdk : (k : Int) < (depthsF l).length := by omega
          have hil : List.length (List.map TInstr.d l) = l.length := List.length_map ..
          have hcl : List.length (ctlds s.ctrls) = s.ctrls.length := List.length_map ..
          generalize (depthsF l).getD k 0 = dk at *
          have hsl := hsr.2
          have W1 := wrap_i64 (show -9223372036854775808 ≤ dk + 1 by split at hsc <;> omega) (by split at hsc <;> omega)
          have W2 := wrap_i64 (show -9223372036854775808 ≤ dk + 1 + 1 by split at hsc <;> omega) (by split at hsc <;> omega)
          by_cases c5 : (l.getD k in0).op = 5
          · rw [if_pos (.inl c5)] at hsc
            simp only [go_sem, Nat.reduceAdd, Nat.reduceMul, Nat.reduceSub, Nat.reduceLT, Nat.reduceLeDiff, Nat.reduceEqDiff, Nat.reduceBEq, Nat.reduceBeqDiff, Int.reduceEq, Int.reduceLT, Int.reduceLE, Int.reduceToNat, Int.reduceNeg, Int.reduceAdd, Int.reduceSub, Int.reduceMul, reduceIte, reduceCtorEq, Nat.reducePow, Nat.reduceDiv, Nat.reduceMod, Int.reduceBEq, hkI, idx, hd, hi, hst, W, hpk, hdk, hil, TInstr.d, c5, Z, hcl, hsc, W1, W2]
            rfl
          by_cases c11 : (l.getD k in0).op = 11
          · rw [if_pos (.inr c11)] at hsc
            simp only [go_sem, Nat.reduceAdd, Nat.reduceMul, Nat.reduceSub, Nat.reduceLT, Nat.reduceLeDiff, Nat.reduceEqDiff, Nat.reduceBEq, Nat.reduceBeqDiff, Int.reduceEq, Int.reduceLT, Int.reduceLE, Int.reduceToNat, Int.reduceNeg, Int.reduceAdd, Int.reduceSub, Int.reduceMul, reduceIte, reduceCtorEq, Nat.reducePow, Nat.reduceDiv, Nat.reduceMod, Int.reduceBEq, hkI, idx, hd, hi, hst, W, hpk, hdk, hil, TInstr.d, c11, Z, hcl, hsc, W1, W2]
            rfl
          · rw [if_neg (by omega), Int.add_zero] at hsc
            simp only [go_sem, Nat.reduceAdd, Nat.reduceMul, Nat.reduceSub, Nat.reduceLT, Nat.reduceLeDiff, Nat.reduceEqDiff, Nat.reduceBEq, Nat.reduceBeqDiff, Int.reduceEq, Int.reduceLT, Int.reduceLE, Int.reduceToNat, Int.reduceNeg, Int.reduceAdd, Int.reduceSub, Int.reduceMul, reduceIte, reduceCtorEq, Nat.reducePow, Nat.reduceDiv, Nat.reduceMod, Int.reduceBEq, hkI, idx, hd, hi, hst, W, hpk, hdk, hil, TInstr.d, c5, c11, Z, hcl, hsc, W1]
            rfl
        case he =>
          simp only [go_sem, Nat.reduceAdd, Nat.reduceMul, Nat.reduceSub, Nat.reduceLT, Nat.reduceLeDiff, Nat.reduceEqDiff, Nat.reduceBEq, Nat.reduceBeqDiff, Int.reduceEq, Int.reduceLT, Int.reduceLE, Int.reduceToNat, Int.reduceNeg, Int.reduceAdd, Int.reduceSub, Int.reduceMul, reduceIte, reduceCtorEq, Nat.reducePow, Nat.reduceDiv, Nat.reduceMod, Int.reduceBEq, List.length_map, Int.lt_irrefl]
        · have hxs : (stkds p)[l.length]? = some (.agg [.list (byt x.vals), .list [.agg [.int .i64 2, .list (byt e.results), .int .i64 0, .bool dd]]]) := by
            simp only [stkds, List.getElem?_map, hx, Option.map_some, Stk.dd, hcx, List.map_cons, List.map_nil, Ctl.dd, envOf]
          have hre : (envOf e).results = e.results := rfl
          rw [hre] at hvl hvd
          simp only [go_sem, Nat.reduceAdd, Nat.reduceMul, Nat.reduceSub, Nat.reduceLT, Nat.reduceLeDiff, Nat.reduceEqDiff, Nat.reduceBEq, Nat.reduceBeqDiff, Int.reduceEq, Int.reduceLT, Int.reduceLE, Int.reduceToNat, Int.reduceNeg, Int.reduceAdd, Int.reduceSub, Int.reduceMul, reduceIte, reduceCtorEq, Nat.reducePow, Nat.reduceDiv, Nat.reduceMod, Int.reduceBEq, List.length_map, hpI, show (l.length : Int) < l.length + 1 by omega, hxs]
          cases hvd with
          | inl h =>
            subst h
            simp only [go_sem, Nat.reduceAdd, Nat.reduceMul, Nat.reduceSub, Nat.reduceLT, Nat.reduceLeDiff, Nat.reduceEqDiff, Nat.reduceBEq, Nat.reduceBeqDiff, Int.reduceEq, Int.reduceLT, Int.reduceLE, Int.reduceToNat, Int.reduceNeg, Int.reduceAdd, Int.reduceSub, Int.reduceMul, reduceIte, reduceCtorEq, Nat.reducePow, Nat.reduceDiv, Nat.reduceMod, Int.reduceBEq, List.length_map, idx, List.getElem?_cons_zero, byt_len, show ¬ (e.results.length : Int) < x.vals.length by omega]
          | inr h =>
            have hsb := strOf_byt e.results
            cases dd <;> simp only [go_sem, Nat.reduceAdd, Nat.reduceMul, Nat.reduceSub, Nat.reduceLT, Nat.reduceLeDiff, Nat.reduceEqDiff, Nat.reduceBEq, Nat.reduceBeqDiff, Int.reduceEq, Int.reduceLT, Int.reduceLE, Int.reduceToNat, Int.reduceNeg, Int.reduceAdd, Int.reduceSub, Int.reduceMul, reduceIte, reduceCtorEq, Nat.reducePow, Nat.reduceDiv, Nat.reduceMod, Int.reduceBEq, List.length_map, idx, List.getElem?_cons_zero, byt_len, h, hsb, Int.lt_irrefl]
        · rfl
      · simp only [Tavocetref10_Env.d] at VV
        cases hp : pathF (envOf e) l with
        | error f =>
          rw [hp] at P
          simp only [pathR] at P
          simp only [go_sem, Nat.reduceAdd, Nat.reduceMul, Nat.reduceSub, Nat.reduceLT, Nat.reduceLeDiff, Nat.reduceEqDiff, Nat.reduceBEq, Nat.reduceBeqDiff, Int.reduceEq, Int.reduceLT, Int.reduceLE, Int.reduceToNat, Int.reduceNeg, Int.reduceAdd, Int.reduceSub, Int.reduceMul, reduceIte, reduceCtorEq, Nat.reducePow, Nat.reduceDiv, Nat.reduceMod, Int.reduceBEq, Tavocetref10_Env.d, A, S1, F1, VV, P, B, DD, hb0]
        | ok p =>
          rw [hp] at P
          simp only [pathR] at P
          simp only [go_sem, Nat.reduceAdd, Nat.reduceMul, Nat.reduceSub, Nat.reduceLT, Nat.reduceLeDiff, Nat.reduceEqDiff, Nat.reduceBEq, Nat.reduceBeqDiff, Int.reduceEq, Int.reduceLT, Int.reduceLE, Int.reduceToNat, Int.reduceNeg, Int.reduceAdd, Int.reduceSub, Int.reduceMul, reduceIte, reduceCtorEq, Nat.reducePow, Nat.reduceDiv, Nat.reduceMod, Int.reduceBEq, Tavocetref10_Env.d, A, S1, F1, VV, P, B, DD, hb0]
theorem CheckLeaves.pure (e : Tavocetref10_Env) (he : e.ok) (l : List TInstr) (hl : l.length ≤ maxLen ∧ ∀ z ∈ l, z.ok) :
    ∃ fu n, evF (G fu) n 3 [.d e.d, .d (.list (l.map TInstr.d))] [] = some (.d (.bool true), []) :=
  ⟨20001 + l.length, 16, leaves_ev _ 0 e l (by omega) (by omega) hl.1 he.2.2.2.2.2.2.2⟩
end Go.Proofs.YtfpioigggjnffaaDoor.E
