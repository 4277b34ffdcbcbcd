/- THE LAW CheckMore, read. -/
import Derived.Test.YtfpioigggjnffaaDoorN4
import Derived.Test.YtfpioigggjnffaaDoorC15
set_option linter.unnecessarySimpa false
set_option linter.unusedSimpArgs false
set_option linter.unusedVariables false
set_option autoImplicit false
set_option maxRecDepth 100000
set_option maxHeartbeats 4000000
set_option linter.unusedSimpArgs false
set_option linter.unusedVariables false
set_option pp.maxSteps 20000
namespace Go.Proofs.YtfpioigggjnffaaDoor.E
open Go.Ev
def envR (e : TEnv) (r : List Int) : TEnv := { e with results := r }
theorem sizedI11 (xs : List TInstr) : sizedAll 5 (xs.map TInstr.d) = true := sizedAll_map (fun a => ⟨_, rfl⟩) xs
theorem take_all11 {α : Type} (l : List α) {n : Nat} (h : n = l.length) : l.take n = l := by subst h; exact List.take_length
theorem env_dd (e : Tavocetref10_Env) (r : List Int) : (envR (envOf e) r).dd = .agg [.list (e.types.map TFuncType.d), .list (e.funcs.map (D.int .i64)), .int .i64 e.tables, .int .i64 e.mems, .list (e.globals.map Tavocetref10_Glob.d), .list (e.locals.map (D.int .u8)), .list (r.map (D.int .u8))] := by
  have eT : e.types.map TFuncType.d = (envOf e).types.map tyD := by simp [envOf, tyOf, tyD, TFuncType.d, Function.comp_def]
  have eG : (e.globals.map glOf).map glD = e.globals.map Tavocetref10_Glob.d := by simp [glOf, glD, Tavocetref10_Glob.d, Function.comp_def]
  unfold TEnv.dd
  rw [eT]
  simp only [envR, envOf, eG]
theorem env_dd0 (e : Tavocetref10_Env) : (envOf e).dd = .agg [.list (e.types.map TFuncType.d), .list (e.funcs.map (D.int .i64)), .int .i64 e.tables, .int .i64 e.mems, .list (e.globals.map Tavocetref10_Glob.d), .list (e.locals.map (D.int .u8)), .list (e.results.map (D.int .u8))] := env_dd e (envOf e).results
theorem eok_r {e : Tavocetref10_Env} {fu : Nat} (h : smallE e = true) (hf : 1000 < fu) (r : List Int) (hr : r.length ≤ 1) : EOk fu (envR (envOf e) r) := by
  have hE := eok_of h hf
  unfold smallE at h
  simp only [Bool.and_eq_true, decide_eq_true_eq] at h
  obtain ⟨⟨⟨⟨⟨h1, h2⟩, h3⟩, h4⟩, h5⟩, h6⟩ := h
  exact ⟨hE.types, hE.tys, hE.globals, hE.locs, by show r.length ≤ 64; omega, by simp only [envR, envOf, List.length_map]; omega, hE.big⟩
def retB (i : TInstr) : Bool := decide (12 ≤ i.op) && decide (i.op ≤ 15)
theorem any_step {l : List TInstr} {k : Nat} (h : k < l.length) : (l.take (k + 1)).any retB = ((l.take k).any retB || retB (l.getD k in0)) := by
  rw [List.take_add_one, List.any_append]
  simp [h]
theorem more_ev (fu n : Nat) (e : Tavocetref10_Env) (l m : List TInstr) (hf : 20000 < fu) (hfl : l.length < fu) (hl9 : l.length ≤ maxLen) (hfm : m.length < fu) (hm9 : m.length ≤ maxLen) :
    evF (G fu) (n+16) 4 [.d e.d, .d (.list (l.map TInstr.d)), .d (.list (m.map TInstr.d))] [] = some (.d (.bool true), []) := by
  have A := awake10_ev fu n (by omega)
  have F1 := few_ev fu (n+14) l 60 hfl hl9
  have F2 := few_ev fu (n+14) m 60 hfm hm9
  have S1 := small_ev fu (n+14) e (by omega)
  simp only [Tavocetref10_Env.d] at S1
  rw [evF.eq_2, evX.eq_def, Gext, exts_no _ (f := 4) (by decide), GP, Tryd.func4]; simp only [Tryd.f4, evB]
  cases hs : smallE e with
  | false =>
    rw [hs] at S1
    simp only [go_sem, Nat.reduceAdd, Nat.reduceMul, Nat.reduceSub, Nat.reduceLT, Nat.reduceLeDiff, Nat.reduceEqDiff, Nat.reduceBEq, Nat.reduceBeqDiff, Int.reduceEq, Int.reduceLT, Int.reduceLE, Int.reduceToNat, Int.reduceNeg, Int.reduceAdd, Int.reduceSub, Int.reduceMul, reduceIte, reduceCtorEq, Nat.reducePow, Nat.reduceDiv, Nat.reduceMod, Int.reduceBEq, Tavocetref10_Env.d, A, S1]
  | true =>
    rw [hs] at S1
    cases hw : few l 60 with
    | false =>
      rw [hw] at F1
      simp only [go_sem, Nat.reduceAdd, Nat.reduceMul, Nat.reduceSub, Nat.reduceLT, Nat.reduceLeDiff, Nat.reduceEqDiff, Nat.reduceBEq, Nat.reduceBeqDiff, Int.reduceEq, Int.reduceLT, Int.reduceLE, Int.reduceToNat, Int.reduceNeg, Int.reduceAdd, Int.reduceSub, Int.reduceMul, reduceIte, reduceCtorEq, Nat.reducePow, Nat.reduceDiv, Nat.reduceMod, Int.reduceBEq, Tavocetref10_Env.d, A, S1, F1]
    | true =>
      rw [hw] at F1
      cases hv : few m 60 with
      | false =>
        rw [hv] at F2
        simp only [go_sem, Nat.reduceAdd, Nat.reduceMul, Nat.reduceSub, Nat.reduceLT, Nat.reduceLeDiff, Nat.reduceEqDiff, Nat.reduceBEq, Nat.reduceBeqDiff, Int.reduceEq, Int.reduceLT, Int.reduceLE, Int.reduceToNat, Int.reduceNeg, Int.reduceAdd, Int.reduceSub, Int.reduceMul, reduceIte, reduceCtorEq, Nat.reducePow, Nat.reduceDiv, Nat.reduceMod, Int.reduceBEq, Tavocetref10_Env.d, A, S1, F1, F2]
      | true =>
        rw [hv] at F2
        obtain ⟨hlen, hlab⟩ := few_of hw
        obtain ⟨hlenm, hlabm⟩ := few_of hv
        have hbl : ∀ i ∈ l, i.labels.length < fu ∧ i.labels.length < 1000000 := fun i hi => by have := hlab i hi; omega
        have hbm : ∀ i ∈ m, i.labels.length < fu ∧ i.labels.length < 1000000 := fun i hi => by have := hlabm i hi; omega
        have hE := eok_of hs (fu := fu) (by omega)
        have hg : e.globals.length ≤ 70 := by
          unfold smallE at hs
          simp only [Bool.and_eq_true, decide_eq_true_eq] at hs
          omega
        have VV := env_ev fu (n+14) e (by omega) (by omega)
        rw [env_dd0] at VV
        simp only [Tavocetref10_Env.d] at VV
        have x0 := eok_r hs (fu := fu) (by omega) [] (by simp)
        have B1 := body_ev fu (n+1) (envR (envOf e) []) x0 l (by omega) (by omega) hbl
        have B2 := body_ev fu (n+1) (envR (envOf e) []) x0 m (by omega) (by omega) hbm
        simp only [env_dd, List.map_nil] at B1 B2
        by_cases h1 : bodyF (envR (envOf e) []) l = 0
        · by_cases h2 : bodyF (envR (envOf e) []) m = 0
          · rw [h1] at B1
            rw [h2] at B2
            have r1 : l.length ≤ 1099511627776 := by omega
            have r2 : l.length + m.length ≤ 1099511627776 := by omega
            have r3 : 1 + l.length ≤ 1099511627776 := by omega
            have r4 : 1 + l.length + 1 ≤ 1099511627776 := by omega
            have t1 := take_all11 (l.map TInstr.d) (n := l.length) (by simp)
            have t2 := take_all11 (l.map TInstr.d ++ m.map TInstr.d) (n := l.length + m.length) (by simp)
            simp only [go_sem, Nat.reduceAdd, Nat.reduceMul, Nat.reduceSub, Nat.reduceLT, Nat.reduceLeDiff, Nat.reduceEqDiff, Nat.reduceBEq, Nat.reduceBeqDiff, Int.reduceEq, Int.reduceLT, Int.reduceLE, Int.reduceToNat, Int.reduceNeg, Int.reduceAdd, Int.reduceSub, Int.reduceMul, reduceIte, reduceCtorEq, Nat.reducePow, Nat.reduceDiv, Nat.reduceMod, Int.reduceBEq, Tavocetref10_Env.d, A, S1, F1, F2, VV, B1, B2, sizedI11, List.length_map, List.length_append, r1, r2, r3, r4, t1, t2]
            have t3 : List.take (1 + l.length) (D.agg [D.int IntKind.i64 2, D.int IntKind.i64 0, D.int IntKind.i64 0, D.int IntKind.u64 0, D.list []] :: List.map TInstr.d l) ++ [D.agg [D.int IntKind.i64 11, D.int IntKind.i64 0, D.int IntKind.i64 0, D.int IntKind.u64 0, D.list []]] = (inn l).map TInstr.d := by
              rw [take_all11 _ (n := 1 + l.length) (by simp; omega)]
              simp [inn, blk, fin_, TInstr.d]
            rw [t3]
            have t4 : l.map TInstr.d ++ m.map TInstr.d = (l ++ m).map TInstr.d := by simp
            rw [t4]
            rw [loop_some l.length (fun k => ⟨[(1, V.d (D.list (List.map TInstr.d l))), (3, V.ptr 256 0), (7, V.d (D.bool true)), (8, V.ptr 576 0), (9, V.row 2880 0 0 (l.length + m.length)), (10, V.row 3264 0 0 (1 + l.length + 1)), (11, V.d (D.bool ((l.take k).any retB))), (12, V.d (D.int IntKind.i64 k))],
                [(256, .cells [V.d (D.list (List.map TFuncType.d e.types)), V.d (D.list (List.map (D.int IntKind.i64) e.funcs)), V.d (D.int IntKind.i64 e.tables), V.d (D.int IntKind.i64 e.mems), V.d (D.list (List.map Tavocetref10_Glob.d e.globals)), V.d (D.list (List.map (D.int IntKind.u8) e.locals)), V.d (D.list (List.map (D.int IntKind.u8) e.results))]),
                 (576, .cells [V.d (D.list (List.map TFuncType.d e.types)), V.d (D.list (List.map (D.int IntKind.i64) e.funcs)), V.d (D.int IntKind.i64 e.tables), V.d (D.int IntKind.i64 e.mems), V.d (D.list (List.map Tavocetref10_Glob.d e.globals)), V.d (D.list (List.map (D.int IntKind.u8) e.locals)), V.nilsl]),
                 (2880, .row 5 ((l ++ m).map TInstr.d) 0 false true), (3264, .row 5 ((inn l).map TInstr.d) 0 false true)]⟩)
              (.exit 0, ⟨[(1, V.d (D.list (List.map TInstr.d l))), (3, V.ptr 256 0), (7, V.d (D.bool true)), (8, V.ptr 576 0), (9, V.row 2880 0 0 (l.length + m.length)), (10, V.row 3264 0 0 (1 + l.length + 1)), (11, V.d (D.bool (l.any retB)))],
                [(256, .cells [V.d (D.list (List.map TFuncType.d e.types)), V.d (D.list (List.map (D.int IntKind.i64) e.funcs)), V.d (D.int IntKind.i64 e.tables), V.d (D.int IntKind.i64 e.mems), V.d (D.list (List.map Tavocetref10_Glob.d e.globals)), V.d (D.list (List.map (D.int IntKind.u8) e.locals)), V.d (D.list (List.map (D.int IntKind.u8) e.results))]),
                 (576, .cells [V.d (D.list (List.map TFuncType.d e.types)), V.d (D.list (List.map (D.int IntKind.i64) e.funcs)), V.d (D.int IntKind.i64 e.tables), V.d (D.int IntKind.i64 e.mems), V.d (D.list (List.map Tavocetref10_Glob.d e.globals)), V.d (D.list (List.map (D.int IntKind.u8) e.locals)), V.nilsl]),
                 (2880, .row 5 ((l ++ m).map TInstr.d) 0 false true), (3264, .row 5 ((inn l).map TInstr.d) 0 false true)]⟩) trivial hfl ?_]
            case hs =>
              intro k hk
              have hi : (l.map TInstr.d)[k]? = some (l.getD k in0).d := getD_map hk
              have hst := any_step hk
              have W := wrap_i64 (show -9223372036854775808 ≤ (k : Int) + 1 by omega) (by omega)
              have hkI : (k : Int) < l.length := by omega
              generalize l.getD k in0 = y at *
              rw [hst]
              generalize (l.take k).any retB = b
              unfold retB
              simp only [TInstr.d] at hi
              cases b <;> by_cases c1 : 12 ≤ y.op <;> by_cases c2 : y.op ≤ 15 <;> simp only [go_sem, Nat.reduceAdd, Nat.reduceMul, Nat.reduceSub, Nat.reduceLT, Nat.reduceLeDiff, Nat.reduceEqDiff, Nat.reduceBEq, Nat.reduceBeqDiff, Int.reduceEq, Int.reduceLT, Int.reduceLE, Int.reduceToNat, Int.reduceNeg, Int.reduceAdd, Int.reduceSub, Int.reduceMul, reduceIte, reduceCtorEq, Nat.reducePow, Nat.reduceDiv, Nat.reduceMod, Int.reduceBEq, List.length_map, hkI, idx, hi, W, c1, c2]
              all_goals rfl
            case he =>
              have ht := List.take_length (l := l)
              simp only [go_sem, Nat.reduceAdd, Nat.reduceMul, Nat.reduceSub, Nat.reduceLT, Nat.reduceLeDiff, Nat.reduceEqDiff, Nat.reduceBEq, Nat.reduceBeqDiff, Int.reduceEq, Int.reduceLT, Int.reduceLE, Int.reduceToNat, Int.reduceNeg, Int.reduceAdd, Int.reduceSub, Int.reduceMul, reduceIte, reduceCtorEq, Nat.reducePow, Nat.reduceDiv, Nat.reduceMod, Int.reduceBEq, List.length_map, Int.lt_irrefl, ht]
            · have r5 : (l ++ m).length = l.length + m.length := List.length_append ..
              have r6 : (inn l).length = 1 + l.length + 1 := by rw [inn_len]; omega
              have t5 : D.agg [D.int IntKind.i64 0, D.int IntKind.i64 0, D.int IntKind.i64 0, D.int IntKind.u64 0, D.list []] :: List.map TInstr.d l = ([(⟨0, 0, 0, 0, []⟩ : TInstr)] ++ l).map TInstr.d := rfl
              have t6 := take_all11 ((l ++ m).map TInstr.d) (n := l.length + m.length) (by simp)
              have t7 := take_all11 ((inn l).map TInstr.d) (n := 1 + l.length + 1) (by simp [inn_len]; omega)
              have t8 := take_all11 (([(⟨0, 0, 0, 0, []⟩ : TInstr)] ++ l).map TInstr.d) (n := 1 + l.length) (by simp; omega)
              have b3 : ∀ i ∈ l ++ m, i.labels.length < fu ∧ i.labels.length < 1000000 := fun i hi => (List.mem_append.1 hi).elim (hbl i) (hbm i)
              have b4 : ∀ i ∈ inn l, i.labels.length < fu ∧ i.labels.length < 1000000 := fun i hi => by
                simp only [inn, List.mem_append, List.mem_singleton] at hi
                rcases hi with (rfl | hi) | rfl
                · simp [blk]; omega
                · exact hbl i hi
                · simp [fin_]; omega
              have b5 : ∀ i ∈ [(⟨0, 0, 0, 0, []⟩ : TInstr)] ++ l, i.labels.length < fu ∧ i.labels.length < 1000000 := fun i hi => by
                simp only [List.mem_append, List.mem_singleton] at hi
                rcases hi with rfl | hi
                · simp; omega
                · exact hbl i hi
              have y0 := eok_r hs (fu := fu) (by omega) [126] (by simp)
              have B3 := body_ev fu (n+1) (envR (envOf e) []) x0 (l ++ m) (by rw [r5]; omega) (by rw [r5]; omega) b3
              have B4 := body_ev fu (n+1) (envR (envOf e) []) x0 (inn l) (by rw [r6]; omega) (by rw [r6]; omega) b4
              have B5 := body_ev fu (n+1) (envR (envOf e) [126]) y0 ([(⟨0, 0, 0, 0, []⟩ : TInstr)] ++ l) (by simp; omega) (by simp; omega) b5
              simp only [env_dd, List.map_nil, List.map_cons] at B3 B4 B5
              rw [more_all rfl h1 h2] at B3
              cases hr : l.any retB with
              | true =>
                simp only [go_sem, Nat.reduceAdd, Nat.reduceMul, Nat.reduceSub, Nat.reduceLT, Nat.reduceLeDiff, Nat.reduceEqDiff, Nat.reduceBEq, Nat.reduceBeqDiff, Int.reduceEq, Int.reduceLT, Int.reduceLE, Int.reduceToNat, Int.reduceNeg, Int.reduceAdd, Int.reduceSub, Int.reduceMul, reduceIte, reduceCtorEq, Nat.reducePow, Nat.reduceDiv, Nat.reduceMod, Int.reduceBEq, List.length_map, sizedI11, r3]
                rw [t5]
                simp only [go_sem, Nat.reduceAdd, Nat.reduceMul, Nat.reduceSub, Nat.reduceLT, Nat.reduceLeDiff, Nat.reduceEqDiff, Nat.reduceBEq, Nat.reduceBeqDiff, Int.reduceEq, Int.reduceLT, Int.reduceLE, Int.reduceToNat, Int.reduceNeg, Int.reduceAdd, Int.reduceSub, Int.reduceMul, reduceIte, reduceCtorEq, Nat.reducePow, Nat.reduceDiv, Nat.reduceMod, Int.reduceBEq, VV, t6, t7, t8, B3, B4, B5]
              | false =>
                have hno : ∀ i ∈ l, ¬ (12 ≤ i.op ∧ i.op ≤ 15) := fun i hi => by
                  have := List.any_eq_false.1 hr i hi
                  simpa [retB] using this
                rw [more_in rfl h1 hno] at B4
                rw [more_dead (e := envR (envOf e) []) (e' := envR (envOf e) [126]) rfl rfl ⟨rfl, rfl, rfl, rfl, rfl, rfl⟩ h1 hno] at B5
                simp only [go_sem, Nat.reduceAdd, Nat.reduceMul, Nat.reduceSub, Nat.reduceLT, Nat.reduceLeDiff, Nat.reduceEqDiff, Nat.reduceBEq, Nat.reduceBeqDiff, Int.reduceEq, Int.reduceLT, Int.reduceLE, Int.reduceToNat, Int.reduceNeg, Int.reduceAdd, Int.reduceSub, Int.reduceMul, reduceIte, reduceCtorEq, Nat.reducePow, Nat.reduceDiv, Nat.reduceMod, Int.reduceBEq, List.length_map, sizedI11, r3]
                rw [t5]
                generalize [(⟨0, 0, 0, 0, []⟩ : TInstr)] ++ l = dl at *
                simp only [go_sem, Nat.reduceAdd, Nat.reduceMul, Nat.reduceSub, Nat.reduceLT, Nat.reduceLeDiff, Nat.reduceEqDiff, Nat.reduceBEq, Nat.reduceBeqDiff, Int.reduceEq, Int.reduceLT, Int.reduceLE, Int.reduceToNat, Int.reduceNeg, Int.reduceAdd, Int.reduceSub, Int.reduceMul, reduceIte, reduceCtorEq, Nat.reducePow, Nat.reduceDiv, Nat.reduceMod, Int.reduceBEq, VV, t6, t7, t8, B3, B4, B5]
            · rfl
          · simp only [go_sem, Nat.reduceAdd, Nat.reduceMul, Nat.reduceSub, Nat.reduceLT, Nat.reduceLeDiff, Nat.reduceEqDiff, Nat.reduceBEq, Nat.reduceBeqDiff, Int.reduceEq, Int.reduceLT, Int.reduceLE, Int.reduceToNat, Int.reduceNeg, Int.reduceAdd, Int.reduceSub, Int.reduceMul, reduceIte, reduceCtorEq, Nat.reducePow, Nat.reduceDiv, Nat.reduceMod, Int.reduceBEq, Tavocetref10_Env.d, A, S1, F1, F2, VV, B1, B2, h1, h2]
        · simp only [go_sem, Nat.reduceAdd, Nat.reduceMul, Nat.reduceSub, Nat.reduceLT, Nat.reduceLeDiff, Nat.reduceEqDiff, Nat.reduceBEq, Nat.reduceBeqDiff, Int.reduceEq, Int.reduceLT, Int.reduceLE, Int.reduceToNat, Int.reduceNeg, Int.reduceAdd, Int.reduceSub, Int.reduceMul, reduceIte, reduceCtorEq, Nat.reducePow, Nat.reduceDiv, Nat.reduceMod, Int.reduceBEq, Tavocetref10_Env.d, A, S1, F1, F2, VV, B1, B2, h1]
theorem CheckMore.pure (e : Tavocetref10_Env) (he : e.ok) (l : List TInstr) (hl : l.length ≤ maxLen ∧ ∀ z ∈ l, z.ok) (m : List TInstr) (hm : m.length ≤ maxLen ∧ ∀ z ∈ m, z.ok) :
    ∃ fu n, evF (G fu) n 4 [.d e.d, .d (.list (l.map TInstr.d)), .d (.list (m.map TInstr.d))] [] = some (.d (.bool true), []) :=
  ⟨20001 + l.length + m.length, 16, more_ev _ 0 e l m (by omega) (by omega) hl.1 (by omega) hm.1⟩
end Go.Proofs.YtfpioigggjnffaaDoor.E
