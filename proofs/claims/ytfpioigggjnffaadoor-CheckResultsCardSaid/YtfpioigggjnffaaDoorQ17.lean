/- Q17, F9, P06, F7, T06, T07. -/
import Derived.Test.YtfpioigggjnffaaDoorF4
import Derived.Test.YtfpioigggjnffaaDoorQ13
import Derived.Test.YtfpioigggjnffaaDoorF8
set_option linter.unnecessarySimpa false
set_option linter.unusedSimpArgs false
set_option linter.unusedVariables false
/- The reading of what the laws of chapter 10 share: env, small. -/
set_option autoImplicit false
set_option maxRecDepth 100000
set_option maxHeartbeats 4000000
set_option linter.unusedSimpArgs false
set_option linter.unusedVariables false
set_option pp.maxSteps 20000
namespace Go.Proofs.YtfpioigggjnffaaDoor.E
open Go.Ev
def tyOf (t : TFuncType) : List Int × List Int := (t.params, t.results)
def glOf (g : Tavocetref10_Glob) : Int × Bool := (g.val_, g.mut_)
def envOf (e : Tavocetref10_Env) : TEnv := ⟨e.types.map tyOf, e.funcs, e.tables, e.mems, e.globals.map glOf, e.locals, e.results⟩
def gl1 : Tavocetref10_Glob := ⟨0, false⟩
def gvE : Nat → V
  | 0 => .nilsl
  | k + 1 => .row 2688 0 0 (k + 1)
def ghE (gs : List D) : Nat → Map Go.Ev.Obj
  | 0 => []
  | k + 1 => [(2688, .row 2 (gs.take (k + 1)) 0 false (decide (0 < k)))]
theorem env_ev (fu n : Nat) (e : Tavocetref10_Env) (h : e.globals.length < fu) (h2 : e.globals.length < 1000000) : evF (G fu) (n+1) 11 [.d e.d] [] = some (.d (envOf e).dd, []) := by
  have eT : e.types.map TFuncType.d = (envOf e).types.map tyD := by simp [envOf, tyOf, tyD, TFuncType.d, Function.comp_def]
  have eG : (e.globals.map glOf).map glD = e.globals.map Tavocetref10_Glob.d := by simp [glOf, glD, Tavocetref10_Glob.d, Function.comp_def]
  have hdd : (envOf e).dd = .agg [.list (e.types.map TFuncType.d), .list (e.funcs.map (D.int .i64)), .int .i64 e.tables, .int .i64 e.mems, .list (e.globals.map Tavocetref10_Glob.d), .list (e.locals.map (D.int .u8)), .list (e.results.map (D.int .u8))] := by
    unfold TEnv.dd
    rw [← eT]
    simp only [envOf, eG]
  rw [hdd]
  rw [evF.eq_2, evX.eq_def, Gext, exts_no _ (f := 11) (by decide), GP, Tryd.func11]; simp only [Tryd.f11, evB]
  simp only [go_sem, Nat.reduceAdd, Nat.reduceMul, Nat.reduceSub, Nat.reduceLT, Nat.reduceLeDiff, Nat.reduceEqDiff, Nat.reduceBEq, Nat.reduceBeqDiff, Int.reduceEq, Int.reduceLT, Int.reduceLE, Int.reduceToNat, Int.reduceNeg, Int.reduceAdd, Int.reduceSub, Int.reduceMul, reduceIte, reduceCtorEq, Nat.reducePow, Nat.reduceDiv, Nat.reduceMod, Int.reduceBEq, Tavocetref10_Env.d, List.length_map]
  generalize e.types.map TFuncType.d = T
  generalize e.funcs.map (D.int .i64) = F
  generalize e.locals.map (D.int .u8) = L
  generalize e.results.map (D.int .u8) = R
  have hgs : ∀ k, k < e.globals.length → (e.globals.map Tavocetref10_Glob.d)[k]? = some (e.globals.getD k gl1).d := fun k hk => getD_map hk
  have hgl : (e.globals.map Tavocetref10_Glob.d).length = e.globals.length := List.length_map ..
  generalize hgd : e.globals.map Tavocetref10_Glob.d = gs at *
  generalize e.globals.length = N at *
  rw [loop_some N (fun k => ⟨[(1, V.ptr 128 0), (2, V.ptr 192 0), (3, V.ptr 256 0), (4, V.d (D.int .i64 k))], [(128, .cells [V.d (D.list T), V.d (D.list F), V.d (D.int .i64 e.tables), V.d (D.int .i64 e.mems), V.d (D.list gs), V.d (D.list L), V.d (D.list R)]), (192, .cells [V.nilsl, V.nilsl, V.d (D.int .i64 0), V.d (D.int .i64 0), V.nilsl, V.nilsl, V.nilsl]), (256, .cells [V.d (D.list T), V.d (D.list F), V.d (D.int .i64 e.tables), V.d (D.int .i64 e.mems), gvE k, V.d (D.list L), V.d (D.list R)])] ++ ghE gs k⟩)
    (.exit 0, ⟨[(2, V.ptr 192 0), (3, V.ptr 256 0)], [(192, .cells [V.nilsl, V.nilsl, V.d (D.int .i64 0), V.d (D.int .i64 0), V.nilsl, V.nilsl, V.nilsl]), (256, .cells [V.d (D.list T), V.d (D.list F), V.d (D.int .i64 e.tables), V.d (D.int .i64 e.mems), gvE N, V.d (D.list L), V.d (D.list R)])] ++ ghE gs N⟩) trivial h ?_]
  case hs =>
    intro k hk
    have hx := hgs k hk
    have hkI : (k : Int) < N := by omega
    have W := wrap_i64 (show -9223372036854775808 ≤ (k : Int) + 1 by omega) (by omega)
    have z1 : sizedAll 2 [D.agg [D.int .u8 (e.globals.getD k gl1).val_, D.bool (e.globals.getD k gl1).mut_]] = true := rfl
    have hst : gs.take (k + 1) = gs.take k ++ [D.agg [D.int .u8 (e.globals.getD k gl1).val_, D.bool (e.globals.getD k gl1).mut_]] := by
      rw [List.take_add_one, hx]; rfl
    simp only [Tavocetref10_Glob.d] at hx
    generalize (e.globals.getD k gl1).val_ = v at *
    generalize (e.globals.getD k gl1).mut_ = m at *
    cases k with
    | zero =>
      have hk0 : (0 : Int) < N := by omega
      have V1 := wrap_i64 (show -9223372036854775808 ≤ (1 : Int) by omega) (by omega)
      simp only [go_sem, Nat.reduceAdd, Nat.reduceMul, Nat.reduceSub, Nat.reduceLT, Nat.reduceLeDiff, Nat.reduceEqDiff, Nat.reduceBEq, Nat.reduceBeqDiff, Int.reduceEq, Int.reduceLT, Int.reduceLE, Int.reduceToNat, Int.reduceNeg, Int.reduceAdd, Int.reduceSub, Int.reduceMul, reduceIte, reduceCtorEq, Nat.reducePow, Nat.reduceDiv, Nat.reduceMod, Int.reduceBEq, gvE, ghE, hk0, idx, hx, z1, hgl, V1]
      (rw [cond_free]; rotate_left; · rfl)
      simp only [go_sem, Nat.reduceAdd, Nat.reduceMul, Nat.reduceSub, Nat.reduceLT, Nat.reduceLeDiff, Nat.reduceEqDiff, Nat.reduceBEq, Nat.reduceBeqDiff, Int.reduceEq, Int.reduceLT, Int.reduceLE, Int.reduceToNat, Int.reduceNeg, Int.reduceAdd, Int.reduceSub, Int.reduceMul, reduceIte, reduceCtorEq, Nat.reducePow, Nat.reduceDiv, Nat.reduceMod, Int.reduceBEq, V1, hst]
    | succ k =>
      have hr : k + 1 + 1 ≤ 1099511627776 := by omega
      have ht : (gs.take (k + 1)).take (k + 1) = gs.take (k + 1) := by rw [List.take_take]; simp
      simp only [go_sem, Nat.reduceAdd, Nat.reduceMul, Nat.reduceSub, Nat.reduceLT, Nat.reduceLeDiff, Nat.reduceEqDiff, Nat.reduceBEq, Nat.reduceBeqDiff, Int.reduceEq, Int.reduceLT, Int.reduceLE, Int.reduceToNat, Int.reduceNeg, Int.reduceAdd, Int.reduceSub, Int.reduceMul, reduceIte, reduceCtorEq, Nat.reducePow, Nat.reduceDiv, Nat.reduceMod, Int.reduceBEq, gvE, ghE, hkI, idx, hx, z1, hgl, hr, ht]
      (rw [cond_free]; rotate_left; · rfl)
      simp only [go_sem, Nat.reduceAdd, Nat.reduceMul, Nat.reduceSub, Nat.reduceLT, Nat.reduceLeDiff, Nat.reduceEqDiff, Nat.reduceBEq, Nat.reduceBeqDiff, Int.reduceEq, Int.reduceLT, Int.reduceLE, Int.reduceToNat, Int.reduceNeg, Int.reduceAdd, Int.reduceSub, Int.reduceMul, reduceIte, reduceCtorEq, Nat.reducePow, Nat.reduceDiv, Nat.reduceMod, Int.reduceBEq, W]
      have hd : decide (0 < k + 1) = true := by simp
      rw [hst, hd]; rfl
  case he =>
    cases N with
    | zero => simp only [go_sem, Nat.reduceAdd, Nat.reduceMul, Nat.reduceSub, Nat.reduceLT, Nat.reduceLeDiff, Nat.reduceEqDiff, Nat.reduceBEq, Nat.reduceBeqDiff, Int.reduceEq, Int.reduceLT, Int.reduceLE, Int.reduceToNat, Int.reduceNeg, Int.reduceAdd, Int.reduceSub, Int.reduceMul, reduceIte, reduceCtorEq, Nat.reducePow, Nat.reduceDiv, Nat.reduceMod, Int.reduceBEq, gvE, ghE, hgl, Int.lt_irrefl]
    | succ k => simp only [go_sem, Nat.reduceAdd, Nat.reduceMul, Nat.reduceSub, Nat.reduceLT, Nat.reduceLeDiff, Nat.reduceEqDiff, Nat.reduceBEq, Nat.reduceBeqDiff, Int.reduceEq, Int.reduceLT, Int.reduceLE, Int.reduceToNat, Int.reduceNeg, Int.reduceAdd, Int.reduceSub, Int.reduceMul, reduceIte, reduceCtorEq, Nat.reducePow, Nat.reduceDiv, Nat.reduceMod, Int.reduceBEq, gvE, ghE, hgl, Int.lt_irrefl]
  · cases N with
    | zero =>
      have : gs = [] := List.length_eq_zero_iff.1 hgl
      simp only [go_sem, Nat.reduceAdd, Nat.reduceMul, Nat.reduceSub, Nat.reduceLT, Nat.reduceLeDiff, Nat.reduceEqDiff, Nat.reduceBEq, Nat.reduceBeqDiff, Int.reduceEq, Int.reduceLT, Int.reduceLE, Int.reduceToNat, Int.reduceNeg, Int.reduceAdd, Int.reduceSub, Int.reduceMul, reduceIte, reduceCtorEq, Nat.reducePow, Nat.reduceDiv, Nat.reduceMod, Int.reduceBEq, gvE, ghE, this]
    | succ k =>
      have ht : gs.take (k + 1) = gs := List.take_of_length_le (by omega)
      simp only [go_sem, Nat.reduceAdd, Nat.reduceMul, Nat.reduceSub, Nat.reduceLT, Nat.reduceLeDiff, Nat.reduceEqDiff, Nat.reduceBEq, Nat.reduceBeqDiff, Int.reduceEq, Int.reduceLT, Int.reduceLE, Int.reduceToNat, Int.reduceNeg, Int.reduceAdd, Int.reduceSub, Int.reduceMul, reduceIte, reduceCtorEq, Nat.reducePow, Nat.reduceDiv, Nat.reduceMod, Int.reduceBEq, gvE, ghE, ht]
  · rfl
/-- few parts -/
def tySm (t : TFuncType) : Bool := decide ((t.params.length : Int) ≤ 40) && decide ((t.results.length : Int) ≤ 40)
def smallE (e : Tavocetref10_Env) : Bool := decide ((e.types.length : Int) ≤ 70) && decide ((e.funcs.length : Int) ≤ 130) && decide ((e.globals.length : Int) ≤ 70) && decide ((e.locals.length : Int) ≤ 100) && decide ((e.results.length : Int) ≤ 20) && e.types.all tySm
def ft0 : TFuncType := ⟨[], []⟩
theorem small_ev (fu n : Nat) (e : Tavocetref10_Env) (h : 100 < fu) : evF (G fu) (n+1) 8 [.d e.d] [] = some (.d (.bool (smallE e)), []) := by
  rw [evF.eq_2, evX.eq_def, Gext, exts_no _ (f := 8) (by decide), GP, Tryd.func8]; simp only [Tryd.f8, evB]
  unfold smallE
  by_cases c1 : (e.types.length : Int) ≤ 70
  · by_cases c2 : (e.funcs.length : Int) ≤ 130
    · by_cases c3 : (e.globals.length : Int) ≤ 70
      · by_cases c4 : (e.locals.length : Int) ≤ 100
        · by_cases c5 : (e.results.length : Int) ≤ 20
          · simp only [go_sem, Nat.reduceAdd, Nat.reduceMul, Nat.reduceSub, Nat.reduceLT, Nat.reduceLeDiff, Nat.reduceEqDiff, Nat.reduceBEq, Nat.reduceBeqDiff, Int.reduceEq, Int.reduceLT, Int.reduceLE, Int.reduceToNat, Int.reduceNeg, Int.reduceAdd, Int.reduceSub, Int.reduceMul, reduceIte, reduceCtorEq, Nat.reducePow, Nat.reduceDiv, Nat.reduceMod, Int.reduceBEq, Tavocetref10_Env.d, List.length_map, c1, c2, c3, c4, c5, show ¬ (70 : Int) < e.types.length by omega, show ¬ (130 : Int) < e.funcs.length by omega, show ¬ (70 : Int) < e.globals.length by omega, show ¬ (100 : Int) < e.locals.length by omega, show ¬ (20 : Int) < e.results.length by omega]
            generalize List.map (D.int IntKind.i64) e.funcs = F
            generalize List.map Tavocetref10_Glob.d e.globals = gs
            rw [loop_scan e.types.length (fun k => ⟨[(1, V.ptr 128 0), (3, V.d (D.int .i64 k))], [(128, .cells [V.d (D.list (List.map TFuncType.d e.types)), V.d (D.list F), V.d (D.int IntKind.i64 e.tables), V.d (D.int IntKind.i64 e.mems), V.d (D.list gs), V.d (D.list (List.map (D.int IntKind.u8) e.locals)), V.d (D.list (List.map (D.int IntKind.u8) e.results))])]⟩) (fun k => !tySm (e.types.getD k ft0)) (fun _ => (.ret, ⟨[(2, V.d (D.bool false))], []⟩)) (.exit 0, ⟨[], []⟩) (by omega) (fun _ => trivial) trivial ?_]
            case hs =>
              intro k hk
              have hx : (e.types.map TFuncType.d)[k]? = some (e.types.getD k ft0).d := getD_map hk
              have hkI : (k : Int) < e.types.length := by omega
              have W := wrap_i64 (show -9223372036854775808 ≤ (k : Int) + 1 by omega) (by omega)
              generalize e.types.getD k ft0 = t at *
              unfold tySm
              by_cases d1 : (t.params.length : Int) ≤ 40
              · by_cases d2 : (t.results.length : Int) ≤ 40
                · simp only [go_sem, Nat.reduceAdd, Nat.reduceMul, Nat.reduceSub, Nat.reduceLT, Nat.reduceLeDiff, Nat.reduceEqDiff, Nat.reduceBEq, Nat.reduceBeqDiff, Int.reduceEq, Int.reduceLT, Int.reduceLE, Int.reduceToNat, Int.reduceNeg, Int.reduceAdd, Int.reduceSub, Int.reduceMul, reduceIte, reduceCtorEq, Nat.reducePow, Nat.reduceDiv, Nat.reduceMod, Int.reduceBEq, List.length_map, hkI, idx, hx, TFuncType.d, d1, d2, W, show ¬ (40 : Int) < t.params.length by omega, show ¬ (40 : Int) < t.results.length by omega]
                  rfl
                · simp only [go_sem, Nat.reduceAdd, Nat.reduceMul, Nat.reduceSub, Nat.reduceLT, Nat.reduceLeDiff, Nat.reduceEqDiff, Nat.reduceBEq, Nat.reduceBeqDiff, Int.reduceEq, Int.reduceLT, Int.reduceLE, Int.reduceToNat, Int.reduceNeg, Int.reduceAdd, Int.reduceSub, Int.reduceMul, reduceIte, reduceCtorEq, Nat.reducePow, Nat.reduceDiv, Nat.reduceMod, Int.reduceBEq, List.length_map, hkI, idx, hx, TFuncType.d, d1, d2, W, show ¬ (40 : Int) < t.params.length by omega, show (40 : Int) < t.results.length by omega]
              · simp only [go_sem, Nat.reduceAdd, Nat.reduceMul, Nat.reduceSub, Nat.reduceLT, Nat.reduceLeDiff, Nat.reduceEqDiff, Nat.reduceBEq, Nat.reduceBeqDiff, Int.reduceEq, Int.reduceLT, Int.reduceLE, Int.reduceToNat, Int.reduceNeg, Int.reduceAdd, Int.reduceSub, Int.reduceMul, reduceIte, reduceCtorEq, Nat.reducePow, Nat.reduceDiv, Nat.reduceMod, Int.reduceBEq, List.length_map, hkI, idx, hx, TFuncType.d, d1, W, show (40 : Int) < t.params.length by omega]
            case he => simp only [go_sem, Nat.reduceAdd, Nat.reduceMul, Nat.reduceSub, Nat.reduceLT, Nat.reduceLeDiff, Nat.reduceEqDiff, Nat.reduceBEq, Nat.reduceBeqDiff, Int.reduceEq, Int.reduceLT, Int.reduceLE, Int.reduceToNat, Int.reduceNeg, Int.reduceAdd, Int.reduceSub, Int.reduceMul, reduceIte, reduceCtorEq, Nat.reducePow, Nat.reduceDiv, Nat.reduceMod, Int.reduceBEq, List.length_map, Int.lt_irrefl]
            · have hA := any_false (p := tySm) (d := ft0) e.types
              unfold scan
              cases hf : first (fun k => !tySm (e.types.getD k ft0)) 0 e.types.length with
              | some k => rw [hf] at hA; simp only [go_sem, Nat.reduceAdd, Nat.reduceMul, Nat.reduceSub, Nat.reduceLT, Nat.reduceLeDiff, Nat.reduceEqDiff, Nat.reduceBEq, Nat.reduceBeqDiff, Int.reduceEq, Int.reduceLT, Int.reduceLE, Int.reduceToNat, Int.reduceNeg, Int.reduceAdd, Int.reduceSub, Int.reduceMul, reduceIte, reduceCtorEq, Nat.reducePow, Nat.reduceDiv, Nat.reduceMod, Int.reduceBEq, ← hA]
              | none => rw [hf] at hA; simp only [go_sem, Nat.reduceAdd, Nat.reduceMul, Nat.reduceSub, Nat.reduceLT, Nat.reduceLeDiff, Nat.reduceEqDiff, Nat.reduceBEq, Nat.reduceBeqDiff, Int.reduceEq, Int.reduceLT, Int.reduceLE, Int.reduceToNat, Int.reduceNeg, Int.reduceAdd, Int.reduceSub, Int.reduceMul, reduceIte, reduceCtorEq, Nat.reducePow, Nat.reduceDiv, Nat.reduceMod, Int.reduceBEq, ← hA]
            · rfl
          · simp only [go_sem, Nat.reduceAdd, Nat.reduceMul, Nat.reduceSub, Nat.reduceLT, Nat.reduceLeDiff, Nat.reduceEqDiff, Nat.reduceBEq, Nat.reduceBeqDiff, Int.reduceEq, Int.reduceLT, Int.reduceLE, Int.reduceToNat, Int.reduceNeg, Int.reduceAdd, Int.reduceSub, Int.reduceMul, reduceIte, reduceCtorEq, Nat.reducePow, Nat.reduceDiv, Nat.reduceMod, Int.reduceBEq, Tavocetref10_Env.d, List.length_map, c1, c2, c3, c4, c5, show ¬ (70 : Int) < e.types.length by omega, show ¬ (130 : Int) < e.funcs.length by omega, show ¬ (70 : Int) < e.globals.length by omega, show ¬ (100 : Int) < e.locals.length by omega, show (20 : Int) < e.results.length by omega]
        · simp only [go_sem, Nat.reduceAdd, Nat.reduceMul, Nat.reduceSub, Nat.reduceLT, Nat.reduceLeDiff, Nat.reduceEqDiff, Nat.reduceBEq, Nat.reduceBeqDiff, Int.reduceEq, Int.reduceLT, Int.reduceLE, Int.reduceToNat, Int.reduceNeg, Int.reduceAdd, Int.reduceSub, Int.reduceMul, reduceIte, reduceCtorEq, Nat.reducePow, Nat.reduceDiv, Nat.reduceMod, Int.reduceBEq, Tavocetref10_Env.d, List.length_map, c1, c2, c3, c4, show ¬ (70 : Int) < e.types.length by omega, show ¬ (130 : Int) < e.funcs.length by omega, show ¬ (70 : Int) < e.globals.length by omega, show (100 : Int) < e.locals.length by omega]
      · simp only [go_sem, Nat.reduceAdd, Nat.reduceMul, Nat.reduceSub, Nat.reduceLT, Nat.reduceLeDiff, Nat.reduceEqDiff, Nat.reduceBEq, Nat.reduceBeqDiff, Int.reduceEq, Int.reduceLT, Int.reduceLE, Int.reduceToNat, Int.reduceNeg, Int.reduceAdd, Int.reduceSub, Int.reduceMul, reduceIte, reduceCtorEq, Nat.reducePow, Nat.reduceDiv, Nat.reduceMod, Int.reduceBEq, Tavocetref10_Env.d, List.length_map, c1, c2, c3, show ¬ (70 : Int) < e.types.length by omega, show ¬ (130 : Int) < e.funcs.length by omega, show (70 : Int) < e.globals.length by omega]
    · simp only [go_sem, Nat.reduceAdd, Nat.reduceMul, Nat.reduceSub, Nat.reduceLT, Nat.reduceLeDiff, Nat.reduceEqDiff, Nat.reduceBEq, Nat.reduceBeqDiff, Int.reduceEq, Int.reduceLT, Int.reduceLE, Int.reduceToNat, Int.reduceNeg, Int.reduceAdd, Int.reduceSub, Int.reduceMul, reduceIte, reduceCtorEq, Nat.reducePow, Nat.reduceDiv, Nat.reduceMod, Int.reduceBEq, Tavocetref10_Env.d, List.length_map, c1, c2, show ¬ (70 : Int) < e.types.length by omega, show (130 : Int) < e.funcs.length by omega]
  · simp only [go_sem, Nat.reduceAdd, Nat.reduceMul, Nat.reduceSub, Nat.reduceLT, Nat.reduceLeDiff, Nat.reduceEqDiff, Nat.reduceBEq, Nat.reduceBeqDiff, Int.reduceEq, Int.reduceLT, Int.reduceLE, Int.reduceToNat, Int.reduceNeg, Int.reduceAdd, Int.reduceSub, Int.reduceMul, reduceIte, reduceCtorEq, Nat.reducePow, Nat.reduceDiv, Nat.reduceMod, Int.reduceBEq, Tavocetref10_Env.d, List.length_map, c1, show (70 : Int) < e.types.length by omega]
def in65 : TInstr := ⟨65, 0, 0, 0, []⟩
def in26 : TInstr := ⟨26, 0, 0, 0, []⟩
def env0 : TEnv := ⟨[], [], 0, 0, [], [], []⟩
def env1 : TEnv := ⟨[], [], 0, 0, [], [], [127]⟩
theorem awake10_ev (fu n : Nat) (h : 1000 < fu) : evF (G fu) (n+15) 7 [] [] = some (.d (.bool true), []) := by
  have e0 : EOk fu env0 := ⟨by simp [env0]; omega, by simp [env0], by simp [env0]; omega, by simp [env0], by simp [env0], by simp [env0]; omega, by omega⟩
  have e1 : EOk fu env1 := ⟨by simp [env1]; omega, by simp [env1], by simp [env1]; omega, by simp [env1], by simp [env1], by simp [env1]; omega, by omega⟩
  have hb : ∀ i ∈ [in65, in26], i.labels.length < fu ∧ i.labels.length < 1000000 := by
    intro i hi
    simp only [List.mem_cons, List.not_mem_nil, or_false] at hi
    rcases hi with rfl | rfl <;> simp [in65, in26] <;> omega
  have hb1 : ∀ i ∈ [in65], i.labels.length < fu ∧ i.labels.length < 1000000 := fun i hi => hb i (by simp only [List.mem_singleton] at hi; subst hi; simp)
  have P1 := path_ev fu (n+1) env0 e0 [in65, in26] (by simp; omega) (by simp) hb
  have P2 := body_ev fu n env0 e0 [in65, in26] (by simp; omega) (by simp) hb
  have P3 := body_ev fu n env1 e1 [in65, in26] (by simp; omega) (by simp) hb
  have P4 := body_ev fu n env1 e1 [in65] (by simp; omega) (by simp) hb1
  obtain ⟨p, hp, hl⟩ : ∃ p, pathF env0 [in65, in26] = .ok p ∧ p.length = 3 := ⟨_, by rfl, rfl⟩
  have r2 : bodyF env0 [in65, in26] = 0 := by rfl
  have r3 : bodyF env1 [in65, in26] = 5 := by rfl
  have r4 : bodyF env1 [in65] = 0 := by rfl
  rw [hp] at P1
  rw [r2] at P2
  rw [r3] at P3
  rw [r4] at P4
  simp only [pathR, hl] at P1
  simp only [TEnv.dd, env0, env1, in65, in26, TInstr.d, List.map_nil, List.map_cons, byt0, byt1] at P1 P2 P3 P4
  have t1 : (stkds p).take 3 = stkds p := List.take_of_length_le (by simp [hl])
  rw [evF.eq_2, evX.eq_def, Gext, exts_no _ (f := 7) (by decide), GP, Tryd.func7]; simp only [Tryd.f7, evB]
  simp only [go_sem, Nat.reduceAdd, Nat.reduceMul, Nat.reduceSub, Nat.reduceLT, Nat.reduceLeDiff, Nat.reduceEqDiff, Nat.reduceBEq, Nat.reduceBeqDiff, Int.reduceEq, Int.reduceLT, Int.reduceLE, Int.reduceToNat, Int.reduceNeg, Int.reduceAdd, Int.reduceSub, Int.reduceMul, reduceIte, reduceCtorEq, Nat.reducePow, Nat.reduceDiv, Nat.reduceMod, Int.reduceBEq, P1, P2, P3, P4, t1]
end Go.Proofs.YtfpioigggjnffaaDoor.E

/- The reading of body.Sane. -/
set_option autoImplicit false
set_option maxRecDepth 100000
set_option maxHeartbeats 4000000
set_option linter.unusedSimpArgs false
set_option linter.unusedVariables false
set_option pp.maxSteps 20000
namespace Go.Proofs.YtfpioigggjnffaaDoor.E
open Go.Ev
def findS (l : List TInstr) : Int := match first (fun i => !saneF (l.getD i in0)) 0 l.length with
  | some i => i
  | none => -1
/-- Few labels each. -/
def lab (fu : Nat) (l : List TInstr) : Prop := ∀ i ∈ l, i.labels.length < fu ∧ i.labels.length < 1000000
theorem findS_iff (l : List TInstr) : (0 ≤ findS l) ↔ l.all saneF = false := by
  unfold findS
  have := first_list (p := fun x => !saneF x) (d := in0) l
  cases hf : first (fun i => !saneF (l.getD i in0)) 0 l.length with
  | none =>
    have := this.1 hf
    simp only [show ¬ (0 : Int) ≤ -1 by omega, false_iff]
    intro h
    rw [List.any_eq_false] at this
    rw [List.all_eq_false] at h
    obtain ⟨x, h1, h2⟩ := h
    have := this x h1
    simp_all
  | some i =>
    simp only [show (0 : Int) ≤ i by omega, true_iff]
    rw [List.all_eq_false]
    have : l.any (fun x => !saneF x) = true := by
      cases h : l.any (fun x => !saneF x) with
      | true => rfl
      | false => rw [this.2 h] at hf; cases hf
    obtain ⟨x, h1, h2⟩ := List.any_eq_true.1 this
    exact ⟨x, h1, by simpa using h2⟩
/-- How deep at most. -/
def deepF (l : List TInstr) : Int := match walkG tellS 0 l l.length with
  | some (_, s) => s
  | none => 0
def bodySane (l : List TInstr) : Bool := walkOk l && decide (deepF l ≤ 32) && decide ((l.length : Int) ≤ 4096) && l.all saneF
end Go.Proofs.YtfpioigggjnffaaDoor.E

/- Bodies in others: what the walk tells of a part of a list. Plain Lean. -/
set_option autoImplicit false
set_option linter.unusedSimpArgs false
set_option linter.unusedVariables false
namespace Go.Proofs.YtfpioigggjnffaaDoor.E
open Go.Ev
/-- A nest, so much farther. -/
def sh (n : Nat) (p : Nest) : Nest := (p.1 + n, if p.2 = -1 then -1 else p.2 + n)
section
variable {p m q : List TInstr} {base : List Nest}
theorem getD_mid {k : Nat} (h : k < m.length) : (p ++ m ++ q).getD (p.length + k) in0 = m.getD k in0 := by
  simp only [List.getD_eq_getElem?_getD]
  rw [List.append_assoc, List.getElem?_append_right (by omega), List.getElem?_append_left (by omega)]
  congr 2
  omega
theorem ifAt_mid {a : Int} (h0 : 0 ≤ a) (h : a < m.length) : ifAt (p ++ m ++ q) (a + p.length) = ifAt m a := by
  unfold ifAt
  rw [show (a + p.length).toNat = p.length + a.toNat by omega, getD_mid (by omega)]
theorem step_mid {st st' : List Nest} {k : Nat} {op d : Int} {e : Nest} (hk : k < m.length) (hs : ∀ x ∈ st, nestIn k x) (h : stepF m st k op = some (st', d, e)) :
    ∃ e', stepF (p ++ m ++ q) (st.map (sh p.length) ++ base) (p.length + k) op = some (st'.map (sh p.length) ++ base, d + base.length, e') := by
  unfold stepF at h ⊢
  by_cases ho : opensB op = true
  · simp only [ho, if_true, Option.some.injEq, Prod.mk.injEq] at h ⊢
    obtain ⟨rfl, rfl, _⟩ := h
    refine ⟨(0, 0), ?_, by simp, rfl⟩
    simp only [List.map_cons, List.cons_append, sh, if_true]
    congr 1
    simp; omega
  · simp only [ho, if_false, Bool.false_eq_true] at h ⊢
    by_cases h5 : op ≠ 5 ∧ op ≠ 11
    · rw [if_pos h5] at h ⊢
      simp only [Option.some.injEq, Prod.mk.injEq] at h ⊢
      obtain ⟨rfl, rfl, _⟩ := h
      exact ⟨(0, 0), rfl, by simp, rfl⟩
    · rw [if_neg h5] at h ⊢
      cases st with
      | nil => cases h
      | cons t r =>
        simp only [List.map_cons, List.cons_append] at h ⊢
        by_cases h11 : op = 11
        · rw [if_pos h11] at h ⊢
          simp only [Option.some.injEq, Prod.mk.injEq] at h ⊢
          obtain ⟨rfl, rfl, _⟩ := h
          exact ⟨sh p.length t, by simp⟩
        · rw [if_neg h11] at h ⊢
          have ht := hs t (by simp)
          unfold nestIn at ht
          by_cases hh : t.2 = -1 ∧ ifAt m t.1 = true
          · rw [if_pos hh] at h
            simp only [Option.some.injEq, Prod.mk.injEq] at h
            obtain ⟨rfl, rfl, _⟩ := h
            have : (sh p.length t).2 = -1 ∧ ifAt (p ++ m ++ q) (sh p.length t).1 = true := ⟨by simp [sh, hh.1], by simp only [sh]; rw [ifAt_mid ht.1 (by omega)]; exact hh.2⟩
            rw [if_pos this]
            refine ⟨sh p.length t, ?_⟩
            simp only [Option.some.injEq, Prod.mk.injEq]
            refine ⟨?_, by simp, trivial⟩
            simp only [List.map_cons, List.cons_append]
            congr 1
            simp only [sh]
            rw [if_neg (by omega)]
            congr 1
            omega
          · rw [if_neg hh] at h; cases h
variable {σ : Type} {f : Int → σ → σ} {s0 s1 : σ}
/-- The walk of a part is the walk of the whole, there. -/
theorem walk_mid (h0 : walkG (fun _ d _ s => f d s) s0 (p ++ m ++ q) p.length = some (base, s1)) : ∀ (j : Nat), j ≤ m.length → ∀ st s, walkG (fun _ d _ s => f (d + base.length) s) s1 m j = some (st, s) →
    walkG (fun _ d _ s => f d s) s0 (p ++ m ++ q) (p.length + j) = some (st.map (sh p.length) ++ base, s)
  | 0, hj, st, s, h => by
    simp only [walkG, Option.some.injEq, Prod.mk.injEq] at h
    obtain ⟨rfl, rfl⟩ := h
    simpa using h0
  | j + 1, hj, st, s, h => by
    simp only [walkG] at h
    split at h
    · cases h
    · rename_i st0 s2 hw
      split at h
      · cases h
      · rename_i st1 d e h1
        simp only [Option.some.injEq, Prod.mk.injEq] at h
        obtain ⟨rfl, rfl⟩ := h
        have ih := walk_mid h0 j (by omega) st0 s2 hw
        obtain ⟨e', q1⟩ := step_mid (p := p) (q := q) (base := base) (show j < m.length by omega) (walkG_in hw).1 h1
        rw [show p.length + (j + 1) = (p.length + j) + 1 from rfl]
        simp only [walkG, ih]
        rw [getD_mid (by omega), q1]
end
theorem walkD_pre {m : List TInstr} {n : Int} {s1 : List Int} : ∀ j, walkG (fun _ d _ s => s ++ [d + n]) s1 m j = (walkG tellD [] m j).map (fun x => (x.1, s1 ++ x.2.map (· + n)))
  | 0 => by simp [walkG]
  | j + 1 => by
    simp only [walkG, walkD_pre (m := m) (n := n) (s1 := s1) j]
    cases walkG tellD [] m j with
    | none => rfl
    | some x =>
      obtain ⟨st, s⟩ := x
      simp only [Option.map_some]
      cases stepF m st j (m.getD j in0).op with
      | none => rfl
      | some y => simp [tellD]
theorem tellD_eq : tellD = (fun _ d _ s => (fun (d : Int) s => s ++ [d]) d s) := rfl
theorem tellS_eq : tellS = (fun _ d _ s => (fun (d : Int) s => max s d) d s) := rfl
theorem walkS_nonneg {l : List TInstr} {s0 : Int} : ∀ {k : Nat} {st : List Nest} {s : Int}, walkG tellS s0 l k = some (st, s) → s0 ≤ s
  | 0, st, s, h => by
    simp only [walkG, Option.some.injEq, Prod.mk.injEq] at h
    omega
  | k + 1, st, s, h => by
    simp only [walkG] at h
    split at h
    · cases h
    · rename_i st0 s2 hw
      split at h
      · cases h
      · rename_i st1 d e h1
        simp only [Option.some.injEq, Prod.mk.injEq] at h
        obtain ⟨rfl, rfl⟩ := h
        have := walkS_nonneg hw
        unfold tellS
        omega
theorem walkS_pre {m : List TInstr} {s1 : Int} (h1 : 0 ≤ s1) : ∀ j, walkG tellS s1 m j = (walkG tellS 0 m j).map (fun x => (x.1, max s1 x.2))
  | 0 => by simp [walkG]; omega
  | j + 1 => by
    simp only [walkG, walkS_pre h1 j]
    cases walkG tellS 0 m j with
    | none => rfl
    | some x =>
      obtain ⟨st, s⟩ := x
      simp only [Option.map_some]
      cases stepF m st j (m.getD j in0).op with
      | none => rfl
      | some y =>
        simp only [tellS, Option.map_some]
        congr 2
        omega
theorem walk_some {σ : Type} (tell : Nat → Int → Nest → σ → σ) (s0 : σ) {l : List TInstr} (h : walkOk l = true) : ∃ s, walkG tell s0 l l.length = some ([], s) := by
  cases hw : walkG tell s0 l l.length with
  | none => rw [walkOk_none hw] at h; cases h
  | some x =>
    obtain ⟨st, s⟩ := x
    rw [walkOk_of hw] at h
    cases st with
    | nil => exact ⟨s, rfl⟩
    | cons _ _ => cases h
theorem depthsF_of {l : List TInstr} {s : List Int} (h : walkG tellD [] l l.length = some ([], s)) : depthsF l = s := by simp [depthsF, h]
theorem walkOk_some {σ : Type} {tell : Nat → Int → Nest → σ → σ} {s0 s : σ} {l : List TInstr} (h : walkG tell s0 l l.length = some ([], s)) : walkOk l = true := walkOk_of h

/-- Two bodies, one behind the other. -/
theorem walk_two {σ : Type} {f : Int → σ → σ} {s0 s1 s2 : σ} {l m : List TInstr} (h1 : walkG (fun _ d _ s => f d s) s0 l l.length = some ([], s1)) (h2 : walkG (fun _ d _ s => f d s) s1 m m.length = some ([], s2)) :
    walkG (fun _ d _ s => f d s) s0 (l ++ m) (l ++ m).length = some ([], s2) := by
  have a := walk_mid (p := []) (m := l) (q := m) (base := []) (f := f) (s0 := s0) (s1 := s0) rfl l.length (Nat.le_refl _) [] s1 (by simpa using h1)
  simp only [List.nil_append, List.length_nil, Nat.zero_add, List.map_nil] at a
  have b := walk_mid (p := l) (m := m) (q := []) (base := []) (f := f) (s0 := s0) (s1 := s1) (by simpa using a) m.length (Nat.le_refl _) [] s2 (by simpa using h2)
  simpa using b
theorem rows_depths {l m : List TInstr} (hl : walkOk l = true) (hm : walkOk m = true) : walkOk (l ++ m) = true ∧ depthsF (l ++ m) = depthsF l ++ depthsF m := by
  obtain ⟨s1, h1⟩ := walk_some tellD [] hl
  obtain ⟨s2, h2⟩ := walk_some tellD [] hm
  have h3 : walkG (fun _ d _ s => (fun (d : Int) s => s ++ [d]) d s) s1 m m.length = some ([], s1 ++ s2) := by
    have := walkD_pre (m := m) (n := 0) (s1 := s1) m.length
    simp only [Int.add_zero] at this
    rw [this, h2]
    simp
  have h4 := walk_two (f := fun (d : Int) s => s ++ [d]) (s0 := []) h1 h3
  exact ⟨walkOk_some h4, by rw [depthsF_of h4, depthsF_of h1, depthsF_of h2]⟩
theorem rows_deep {l m : List TInstr} (hl : walkOk l = true) (hm : walkOk m = true) : deepF (l ++ m) = max (deepF l) (deepF m) := by
  obtain ⟨s1, h1⟩ := walk_some tellS 0 hl
  obtain ⟨s2, h2⟩ := walk_some tellS 0 hm
  have h3 : walkG (fun _ d _ s => (fun (d : Int) s => max s d) d s) s1 m m.length = some ([], max s1 s2) := by
    have := walkS_pre (m := m) (s1 := s1) (walkS_nonneg h1) m.length
    rw [h2] at this
    exact this
  have h4 := walk_two (f := fun (d : Int) s => max s d) (s0 := 0) h1 h3
  have h4' : walkG tellS 0 (l ++ m) (l ++ m).length = some ([], max s1 s2) := h4
  simp only [deepF, h1, h2, h4']
theorem rows_sane {l m : List TInstr} (hl : walkOk l = true) (hm : walkOk m = true) (h1 : l.length ≤ 60) (h2 : m.length ≤ 60) : bodySane (l ++ m) = (bodySane l && bodySane m) := by
  obtain ⟨h3, _⟩ := rows_depths hl hm
  simp only [bodySane, hl, hm, h3, rows_deep hl hm, List.all_append, List.length_append]
  have a : decide (((l.length + m.length : Nat) : Int) ≤ 4096) = true := by simp; omega
  have b : decide ((l.length : Int) ≤ 4096) = true := by simp; omega
  have c : decide ((m.length : Int) ≤ 4096) = true := by simp; omega
  rw [a, b, c]
  have d : decide (max (deepF l) (deepF m) ≤ 32) = (decide (deepF l ≤ 32) && decide (deepF m ≤ 32)) := by
    rw [← Bool.decide_and, decide_eq_decide]
    omega
  rw [d]
  cases decide (deepF l ≤ 32) <;> cases decide (deepF m ≤ 32) <;> cases l.all saneF <;> cases m.all saneF <;> rfl
end Go.Proofs.YtfpioigggjnffaaDoor.E

/- The reading of body.Target. -/
set_option autoImplicit false
set_option maxRecDepth 100000
set_option maxHeartbeats 4000000
set_option linter.unusedSimpArgs false
set_option linter.unusedVariables false
set_option pp.maxSteps 20000
namespace Go.Proofs.YtfpioigggjnffaaDoor.E
open Go.Ev
def n0 : Nest := (-1, -1)
/-- Where a branch goes on, from the place k down. -/
def tgtGo (l : List TInstr) (M : List Nest) (at_ : Int) : Nat → Int → Int × Bool
  | 0, left => if 0 < left then (0, false) else (l.length, true)
  | k + 1, left =>
    if opensB (l.getD k in0).op = false ∨ (M.getD k n0).2 ≤ at_ ∨ (M.getD k n0).1 = at_ then tgtGo l M at_ k left
    else if 0 < left then tgtGo l M at_ k (left - 1)
    else if (l.getD k in0).op = 3 then (k, true) else ((M.getD k n0).2, true)
def targetF (l : List TInstr) (at_ label : Int) : Int × Bool :=
  if walkOk l = false ∨ at_ < 0 ∨ (l.length : Int) ≤ at_ ∨ label < 0 then (0, false) else tgtGo l (matchesF l) at_ at_.toNat label
end Go.Proofs.YtfpioigggjnffaaDoor.E

/- Where blocks end: the walk's stacks, told for all places. Plain Lean. -/
set_option autoImplicit false
set_option linter.unusedSimpArgs false
set_option linter.unusedVariables false
namespace Go.Proofs.YtfpioigggjnffaaDoor.E
open Go.Ev
abbrev opAt (l : List TInstr) (k : Nat) : Int := (l.getD k in0).op
/-- At place k the block of place j is open, on what was open ahead of it. -/
def inBlk (l : List TInstr) (j : Nat) (base : List Nest) (k : Nat) : Prop := ∃ inner o, walkSt l k = some (inner ++ ((j : Int), o) :: base)
/-- What is told of the else of the block of place j, up to the place k. -/
def elseIs (l : List TInstr) (j : Nat) (base : List Nest) (k : Nat) (o : Int) : Prop :=
  (o = -1 ∨ ∃ m : Nat, o = m ∧ j < m ∧ m < k ∧ opAt l m = 5 ∧ opAt l j = 4 ∧ ∃ o', walkSt l m = some (((j : Int), o') :: base)) ∧
  ∀ m, j < m → m < k → opAt l m = 5 → ∀ o', walkSt l m = some (((j : Int), o') :: base) → o = m
/-- The block of place j is shut. -/
structure Shut (l : List TInstr) (M : List Nest) (j : Nat) (base : List Nest) (k : Nat) : Prop where
  ex : ∃ e : Nat, ∃ o : Int, j < e ∧ e < k ∧ opAt l e = 11 ∧ walkSt l e = some (((j : Int), o) :: base) ∧ M.getD j n0 = (o, (e : Int)) ∧ elseIs l j base e o ∧ ∀ m, j < m → m ≤ e → inBlk l j base m
theorem walkSt_of {σ : Type} {tell : Nat → Int → Nest → σ → σ} {s0 s : σ} {l : List TInstr} {k : Nat} {st : List Nest} (h : walkG tell s0 l k = some (st, s)) : walkSt l k = some st := by
  rw [← walkG_st tell s0 l k, h]; rfl
theorem walkSt_succ {l : List TInstr} {k : Nat} {st : List Nest} (h : walkSt l k = some st) : walkSt l (k + 1) = (stepF l st k (opAt l k)).map (·.1) := by
  unfold walkSt at h ⊢
  simp only [walkG]
  cases hw : walkG (fun _ _ _ _ => ()) () l k with
  | none => rw [hw] at h; cases h
  | some x =>
    obtain ⟨st', u⟩ := x
    rw [hw] at h
    obtain rfl := Option.some.inj h
    simp only
    cases stepF l st' k (l.getD k in0).op <;> rfl
theorem walkSt_in {l : List TInstr} {k : Nat} {st : List Nest} (h : walkSt l k = some st) : ∀ p ∈ st, nestIn k p := by
  unfold walkSt at h
  cases hw : walkG (fun _ _ _ _ => ()) () l k with
  | none => rw [hw] at h; cases h
  | some x =>
    obtain ⟨st', u⟩ := x
    rw [hw] at h
    obtain rfl := Option.some.inj h
    exact (walkG_in hw).1
/-- What a step does, told by cases. -/
theorem stepF_cases {l : List TInstr} {st st' : List Nest} {k : Nat} {op d : Int} {e : Nest} (h : stepF l st k op = some (st', d, e)) :
    (opensB op = true ∧ st' = ((k : Int), -1) :: st ∧ d = st.length) ∨ (opensB op = false ∧ op ≠ 5 ∧ op ≠ 11 ∧ st' = st ∧ d = st.length) ∨
    (∃ t, op = 11 ∧ st = t :: st' ∧ d = st'.length ∧ e = t) ∨ (∃ t r, op = 5 ∧ st = t :: r ∧ t.2 = -1 ∧ ifAt l t.1 = true ∧ st' = (t.1, (k : Int)) :: r ∧ d = r.length) := by
  unfold stepF at h
  by_cases ho : opensB op = true
  · simp only [ho, if_true, Option.some.injEq, Prod.mk.injEq] at h
    exact .inl ⟨ho, h.1.symm, h.2.1.symm⟩
  · simp only [ho, if_false, Bool.false_eq_true] at h
    have ho' : opensB op = false := by simpa using ho
    by_cases h5 : op ≠ 5 ∧ op ≠ 11
    · rw [if_pos h5] at h
      simp only [Option.some.injEq, Prod.mk.injEq] at h
      exact .inr (.inl ⟨ho', h5.1, h5.2, h.1.symm, h.2.1.symm⟩)
    · rw [if_neg h5] at h
      cases st with
      | nil => cases h
      | cons t r =>
        simp only at h
        by_cases h11 : op = 11
        · rw [if_pos h11] at h
          simp only [Option.some.injEq, Prod.mk.injEq] at h
          obtain ⟨rfl, rfl, rfl⟩ := h
          exact .inr (.inr (.inl ⟨_, h11, rfl, rfl, rfl⟩))
        · rw [if_neg h11] at h
          by_cases hh : t.2 = -1 ∧ ifAt l t.1 = true
          · rw [if_pos hh] at h
            simp only [Option.some.injEq, Prod.mk.injEq] at h
            obtain ⟨rfl, rfl, rfl⟩ := h
            exact .inr (.inr (.inr ⟨_, r, by omega, rfl, hh.1, hh.2, rfl, rfl⟩))
          · rw [if_neg hh] at h; cases h
/-- What holds of the walk at each place. -/
structure WInv (l : List TInstr) (k : Nat) (st M : List Nest) : Prop where
  len : M.length = l.length
  op : ∀ p ∈ st, opensB (opAt l p.1.toNat) = true ∧ (p.2 = -1 ∨ opAt l p.2.toNat = 5)
  all : ∀ j, j < k → opensB (opAt l j) = true → ∀ base, walkSt l j = some base →
    ((∃ inner o, st = inner ++ ((j : Int), o) :: base ∧ elseIs l j base k o ∧ ∀ m, j < m → m ≤ k → inBlk l j base m) ∨ ((∀ p ∈ st, p.1 ≠ j) ∧ Shut l M j base k))
theorem elseIs.up {l : List TInstr} {j k : Nat} {base : List Nest} {o : Int} (h : elseIs l j base k o) (hk : opAt l k ≠ 5 ∨ ∀ o', walkSt l k ≠ some (((j : Int), o') :: base)) : elseIs l j base (k + 1) o := by
  refine ⟨h.1.imp id (fun ⟨m, h1, h2, h3, h4⟩ => ⟨m, h1, h2, by omega, h4⟩), fun m h1 h2 h3 o' h4 => ?_⟩
  by_cases e : m = k
  · subst e
    exact absurd h4 (hk.elim (fun q => absurd h3 q) (fun q => q o'))
  · exact h.2 m h1 (by omega) h3 o' h4
theorem Shut.up {l : List TInstr} {M M' : List Nest} {j k : Nat} {base : List Nest} (h : Shut l M j base k) (hM : M'.getD j n0 = M.getD j n0) : Shut l M' j base (k + 1) := by
  obtain ⟨e, o, h1, h2, h3, h4, h5, h6⟩ := h.ex
  exact ⟨e, o, h1, by omega, h3, h4, by rw [hM]; exact h5, h6⟩
theorem winv (l : List TInstr) : ∀ (k : Nat), k ≤ l.length → ∀ st M, walkG (tellM l) (List.replicate l.length (-1, -1)) l k = some (st, M) → WInv l k st M
  | 0, _, st, M, h => by
    simp only [walkG, Option.some.injEq, Prod.mk.injEq] at h
    obtain ⟨rfl, rfl⟩ := h
    exact ⟨by simp, fun p hp => by simp at hp, fun j hj => by omega⟩
  | k + 1, hk, st', M', h => by
    have h0 := h
    simp only [walkG] at h
    split at h
    · cases h
    · rename_i st M hw
      split at h
      · cases h
      · rename_i st1 d e h1
        simp only [Option.some.injEq, Prod.mk.injEq] at h
        obtain ⟨rfl, hM'⟩ := h
        have I := winv l k (by omega) st M hw
        have hst := walkSt_of hw
        have hst' := walkSt_of h0
        have hin := (walkG_in hw).1
        have hlen : M'.length = l.length := by rw [← hM', tellM_length]; exact I.len
        -- M' at an opener that is shut is M
        have hkeep : ∀ j, opensB (opAt l j) = true → (∀ p ∈ st, p.1 ≠ j) → M'.getD j n0 = M.getD j n0 := fun j hj hp => by
          rw [← hM']
          unfold tellM
          split
          · rename_i h11
            rcases stepF_cases h1 with ⟨q, _⟩ | ⟨_, _, q, _⟩ | ⟨t, _, rfl, _, rfl⟩ | ⟨t, r, q, _⟩
            · rw [h11] at q; cases q
            · exact absurd h11 q
            · have ha := hp e (by simp)
              have hb := (I.op e (by simp)).2
              have hin' := hin e (by simp)
              unfold nestIn at hin'
              have na : e.1.toNat ≠ j := by omega
              split
              · simp only [List.getD_eq_getElem?_getD, List.getElem?_set_ne na]
              · rename_i hne
                have hb' := hb.resolve_left hne
                have nb : e.2.toNat ≠ j := fun q => by rw [q] at hb'; unfold opAt at hb' hj; rw [hb'] at hj; cases hj
                simp only [List.getD_eq_getElem?_getD, List.getElem?_set_ne nb, List.getElem?_set_ne na]
            · omega
          · rfl
        refine ⟨hlen, ?_, fun j hj hjo base hb => ?_⟩
        · rcases stepF_cases h1 with ⟨q, rfl, _⟩ | ⟨_, _, _, rfl, _⟩ | ⟨t, _, rfl, _, _⟩ | ⟨t, r, q, rfl, _, _, rfl, _⟩
          · intro p hp
            rcases List.mem_cons.1 hp with rfl | hp
            · exact ⟨by show opensB (opAt l ((k : Int)).toNat) = true; rw [Int.toNat_natCast]; exact q, .inl rfl⟩
            · exact I.op p hp
          · exact I.op
          · exact fun p hp => I.op p (by simp [hp])
          · intro p hp
            rcases List.mem_cons.1 hp with rfl | hp
            · exact ⟨(I.op t (by simp)).1, .inr (by show opAt l ((k : Int)).toNat = 5; rw [Int.toNat_natCast]; exact q)⟩
            · exact I.op p (by simp [hp])
        · by_cases ej : j = k
          · -- it opens here
            subst ej
            obtain rfl := Option.some.inj (hst.symm.trans hb)
            left
            rcases stepF_cases h1 with ⟨q, rfl, _⟩ | ⟨q, _⟩ | ⟨t, q, _⟩ | ⟨t, r, q, _⟩
            · refine ⟨[], -1, rfl, ⟨.inl rfl, fun m h1 h2 => by omega⟩, fun m h1 h2 => ?_⟩
              obtain rfl : m = j + 1 := by omega
              exact ⟨[], -1, hst'⟩
            · rw [q] at hjo; cases hjo
            · unfold opAt at hjo; rw [q] at hjo; cases hjo
            · unfold opAt at hjo; rw [q] at hjo; cases hjo
          · rcases I.all j (by omega) hjo base hb with ⟨inner, o, rfl, he, hbl⟩ | ⟨hno, hsh⟩
            · have hbl' : ∀ {inner' : List Nest} {o' : Int}, st1 = inner' ++ ((j : Int), o') :: base → ∀ m, j < m → m ≤ k + 1 → inBlk l j base m := fun {inner' o'} e m h1 h2 => by
                by_cases em : m = k + 1
                · subst em; exact ⟨inner', o', by rw [hst', e]⟩
                · exact hbl m h1 (by omega)
              rcases stepF_cases h1 with ⟨q, rfl, _⟩ | ⟨_, q5, _, rfl, _⟩ | ⟨t, q11, hs, _, he'⟩ | ⟨t, r, q5, hs, ht2, hif, rfl, _⟩
              · exact .inl ⟨((k : Int), -1) :: inner, o, rfl, he.up (.inl (fun e => by unfold opAt at e; rw [e] at q; cases q)), hbl' (inner' := ((k : Int), -1) :: inner) rfl⟩
              · exact .inl ⟨inner, o, rfl, he.up (.inl q5), hbl' rfl⟩
              · cases inner with
                | nil =>
                  simp only [List.nil_append, List.cons.injEq] at hs
                  obtain ⟨rfl, rfl⟩ := hs
                  right
                  have hbi := walkSt_in hb
                  refine ⟨fun p hp => by have := hbi p hp; unfold nestIn at this; omega, ⟨k, o, by omega, by omega, q11, hst, ?_, he, fun m h1 h2 => hbl m h1 (by omega)⟩⟩
                  have hjl : j < M.length := by rw [I.len]; omega
                  rw [← hM', he']
                  unfold tellM
                  have q11' : (l.getD k in0).op = 11 := q11
                  rw [if_pos q11']
                  have hget : (M.set j (o, (k : Int))).getD j n0 = (o, (k : Int)) := by simp [List.getD_eq_getElem?_getD, hjl]
                  split
                  · simpa using hget
                  · rename_i hne
                    have hb5 := (I.op ((j : Int), o) (by simp)).2.resolve_left hne
                    have nb : o.toNat ≠ j := fun e => by simp only at hb5; rw [e] at hb5; unfold opAt at hb5 hjo; rw [hb5] at hjo; cases hjo
                    rw [List.getD_eq_getElem?_getD, List.getElem?_set_ne nb, ← List.getD_eq_getElem?_getD]
                    simpa using hget
                | cons t' inner =>
                  simp only [List.cons_append, List.cons.injEq] at hs
                  obtain ⟨rfl, rfl⟩ := hs
                  refine .inl ⟨inner, o, rfl, he.up (.inl (fun e => by unfold opAt at e; omega)), hbl' rfl⟩
              · cases inner with
                | nil =>
                  simp only [List.nil_append, List.cons.injEq] at hs
                  obtain ⟨rfl, rfl⟩ := hs
                  refine .inl ⟨[], (k : Int), rfl, ⟨.inr ⟨k, rfl, by omega, by omega, q5, ?_, o, hst⟩, fun m h1 h2 h3 o' h4 => ?_⟩, hbl' (inner' := []) rfl⟩
                  · unfold ifAt at hif
                    have hd : (l.getD ((j : Int)).toNat in0).op = 4 := of_decide_eq_true hif
                    rw [Int.toNat_natCast] at hd
                    exact hd
                  · by_cases em : m = k
                    · rw [em]
                    · have := he.2 m h1 (by omega) h3 o' h4
                      simp only at ht2
                      omega
                | cons t' inner =>
                  simp only [List.cons_append, List.cons.injEq] at hs
                  obtain ⟨rfl, rfl⟩ := hs
                  refine .inl ⟨(t'.1, (k : Int)) :: inner, o, rfl, he.up (.inr (fun o' e => ?_)), hbl' (inner' := (t'.1, (k : Int)) :: inner) rfl⟩
                  rw [hst] at e
                  have := congrArg List.length (Option.some.inj e)
                  simp at this
                  omega
            · right
              refine ⟨?_, hsh.up (hkeep j hjo hno)⟩
              rcases stepF_cases h1 with ⟨q, rfl, _⟩ | ⟨_, _, _, rfl, _⟩ | ⟨t, _, rfl, _, _⟩ | ⟨t, r, q, rfl, _, _, rfl, _⟩
              · intro p hp
                rcases List.mem_cons.1 hp with rfl | hp
                · simp; omega
                · exact hno p hp
              · exact hno
              · exact fun p hp => hno p (by simp [hp])
              · intro p hp
                rcases List.mem_cons.1 hp with rfl | hp
                · exact hno t (by simp)
                · exact hno p (by simp [hp])
/-- In a body all blocks are shut. -/
theorem all_shut {l : List TInstr} (h : walkOk l = true) {j : Nat} (hj : j < l.length) (ho : opensB (opAt l j) = true) {base : List Nest} (hb : walkSt l j = some base) : Shut l (matchesF l) j base l.length := by
  obtain ⟨M, hM⟩ := walk_some (tellM l) (List.replicate l.length (-1, -1)) h
  have hmf : matchesF l = M := by simp [matchesF, hM]
  rw [hmf]
  rcases (winv l l.length (Nat.le_refl _) [] M hM).all j hj ho base hb with ⟨inner, o, e, _⟩ | ⟨_, hs⟩
  · have := congrArg List.length e; simp at this
  · exact hs
theorem walkSt_ok {l : List TInstr} (h : walkOk l = true) {k : Nat} (hk : k ≤ l.length) : ∃ st, walkSt l k = some st := by
  cases hw : walkG (fun _ _ _ _ => ()) () l k with
  | none =>
    have := walkG_none hw l.length hk
    rw [walkOk_none this] at h; cases h
  | some x => exact ⟨x.1, by unfold walkSt; rw [hw]; rfl⟩
end Go.Proofs.YtfpioigggjnffaaDoor.E

/- Where branches go on, out of the walk's stacks. Plain Lean. -/
set_option autoImplicit false
set_option linter.unusedSimpArgs false
set_option linter.unusedVariables false
namespace Go.Proofs.YtfpioigggjnffaaDoor.E
open Go.Ev
theorem walkSt_step {l : List TInstr} {k : Nat} {st st' : List Nest} (h : walkSt l k = some st) (h' : walkSt l (k + 1) = some st') : ∃ d e, stepF l st k (opAt l k) = some (st', d, e) := by
  rw [walkSt_succ h] at h'
  cases hs : stepF l st k (opAt l k) with
  | none => rw [hs] at h'; cases h'
  | some x =>
    obtain ⟨s, d, e⟩ := x
    rw [hs] at h'
    obtain rfl := Option.some.inj h'
    exact ⟨d, e, rfl⟩
theorem walkSt_back {l : List TInstr} {k : Nat} {st' : List Nest} (h' : walkSt l (k + 1) = some st') : ∃ st, walkSt l k = some st := by
  cases hw : walkSt l k with
  | some st => exact ⟨st, rfl⟩
  | none =>
    unfold walkSt at hw h'
    cases hg : walkG (fun _ _ _ _ => ()) () l k with
    | some x => rw [hg] at hw; cases hw
    | none =>
      have := walkG_none hg (k + 1) (by omega)
      rw [this] at h'; cases h'
theorem walkSt_sorted {l : List TInstr} : ∀ {k : Nat} {st : List Nest}, walkSt l k = some st → st.Pairwise (fun p q => q.1 < p.1)
  | 0, st, h => by
    obtain rfl : [] = st := by simpa [walkSt, walkG] using h
    exact .nil
  | k + 1, st', h => by
    obtain ⟨st, h0⟩ := walkSt_back h
    have ih := walkSt_sorted h0
    have hin := walkSt_in h0
    obtain ⟨d, e, hs⟩ := walkSt_step h0 h
    rcases stepF_cases hs with ⟨_, rfl, _⟩ | ⟨_, _, _, rfl, _⟩ | ⟨t, _, rfl, _, _⟩ | ⟨t, r, _, rfl, _, _, rfl, _⟩
    · exact .cons (fun p hp => by have := hin p hp; unfold nestIn at this; show p.1 < (k : Int); omega) ih
    · exact ih
    · exact (List.pairwise_cons.1 ih).2
    · exact .cons (List.pairwise_cons.1 ih).1 (List.pairwise_cons.1 ih).2
/-- What an instruction stands in. -/
def encl (l : List TInstr) (k : Nat) (st : List Nest) : List Nest := if opAt l k = 5 ∨ opAt l k = 11 then st.tail else st
theorem encl_mem {l : List TInstr} (h : walkOk l = true) {j k : Nat} (hjk : j < k) (hk : k < l.length) (ho : opensB (opAt l j) = true) {st : List Nest} (hst : walkSt l k = some st) :
    (¬ (((matchesF l).getD j n0).2 ≤ (k : Int) ∨ ((matchesF l).getD j n0).1 = (k : Int))) ↔ ∃ p ∈ encl l k st, p.1 = (j : Int) := by
  obtain ⟨base, hb⟩ := walkSt_ok h (k := j) (by omega)
  obtain ⟨e, o, he1, he2, he3, he4, he5, he6, he7⟩ := (all_shut h (by omega) ho hb).ex
  have hbi := walkSt_in hb
  have hbase : ∀ p ∈ base, p.1 ≠ (j : Int) := fun p hp => by have := hbi p hp; unfold nestIn at this; omega
  obtain ⟨st1, hst1⟩ := walkSt_ok h (k := k + 1) (by omega)
  -- behind its end it is off
  have hoff : walkSt l (e + 1) = some base := by
    rw [walkSt_succ he4, he3]; rfl
  rw [he5]
  rcases Nat.lt_trichotomy e k with hlt | rfl | hgt
  · -- shut ahead
    have : ¬ ¬ (((o, (e : Int)) : Nest).2 ≤ (k : Int) ∨ ((o, (e : Int)) : Nest).1 = (k : Int)) := fun q => q (.inl (by show (e : Int) ≤ k; omega))
    refine ⟨fun q => absurd q this, fun ⟨p, hp, hpj⟩ => ?_⟩
    exfalso
    have hps : p ∈ st := by
      unfold encl at hp
      split at hp
      · exact List.mem_of_mem_tail hp
      · exact hp
    obtain ⟨M, hM⟩ := walk_some (tellM l) (List.replicate l.length (-1, -1)) h
    obtain ⟨Mk, hMk⟩ : ∃ Mk, walkG (tellM l) (List.replicate l.length (-1, -1)) l k = some (st, Mk) := by
      have := walkG_st (tellM l) (List.replicate l.length (-1, -1)) l k
      rw [hst] at this
      obtain ⟨⟨a, b⟩, h1, h2⟩ := Option.map_eq_some_iff.1 this
      simp only at h2
      subst h2
      exact ⟨b, h1⟩
    rcases (winv l k (by omega) st Mk hMk).all j hjk ho base hb with ⟨inner, o', _, _, hall⟩ | ⟨hno, _⟩
    · obtain ⟨inner', o2, h2⟩ := hall (e + 1) (by omega) (by omega)
      rw [hoff] at h2
      have := congrArg List.length (Option.some.inj h2)
      simp at this
      omega
    · exact hno p hps hpj
  · -- its own end
    refine ⟨fun q => absurd (.inl (Int.le_refl _)) q, fun ⟨p, hp, hpj⟩ => ?_⟩
    exfalso
    obtain rfl := Option.some.inj (hst.symm.trans he4)
    unfold encl at hp
    rw [if_pos (.inr he3)] at hp
    exact hbase p hp hpj
  · -- it stands in it
    obtain ⟨inner, o', hi⟩ := he7 k hjk (by omega)
    obtain rfl := Option.some.inj (hst.symm.trans hi)
    have hmem : ∀ t inner', inner = t :: inner' → ∃ p ∈ (inner ++ ((j : Int), o') :: base).tail, p.1 = (j : Int) := fun t inner' e => by subst e; exact ⟨((j : Int), o'), by simp, rfl⟩
    have hno : inner ≠ [] → o ≠ (k : Int) := fun hne e => by
      rcases he6.1 with q | ⟨m, q1, q2, q3, q4, _, o3, q6⟩
      · omega
      · obtain rfl : m = k := by omega
        rw [hst] at q6
        have := congrArg List.length (Option.some.inj q6)
        cases inner with
        | nil => exact hne rfl
        | cons => simp at this; omega
    by_cases h5 : opAt l k = 5
    · unfold encl
      rw [if_pos (.inl h5)]
      cases inner with
      | nil =>
        have := he6.2 k hjk hgt h5 o' hst
        refine ⟨fun q => absurd (.inr this) q, fun ⟨p, hp, hpj⟩ => absurd hpj (hbase p hp)⟩
      | cons t inner' =>
        refine ⟨fun _ => hmem t inner' rfl, fun _ q => q.elim (fun q => by simp only at q; omega) (fun q => hno (by simp) q)⟩
    · by_cases h11 : opAt l k = 11
      · unfold encl
        rw [if_pos (.inr h11)]
        cases inner with
        | nil =>
          exfalso
          obtain ⟨inner2, o2, h2⟩ := he7 (k + 1) (by omega) (by omega)
          have : walkSt l (k + 1) = some base := by rw [walkSt_succ hst, h11]; rfl
          rw [this] at h2
          have := congrArg List.length (Option.some.inj h2)
          simp at this
          omega
        | cons t inner' =>
          refine ⟨fun _ => hmem t inner' rfl, fun _ q => q.elim (fun q => by simp only at q; omega) (fun q => hno (by simp) q)⟩
      · unfold encl
        rw [if_neg (by simp [h5, h11])]
        refine ⟨fun _ => ⟨((j : Int), o'), by simp, rfl⟩, fun _ q => q.elim (fun q => by simp only at q; omega) (fun q => ?_)⟩
        rcases he6.1 with q' | ⟨m, q1, q2, q3, q4, _⟩
        · simp only at q; omega
        · simp only at q
          obtain rfl : m = k := by omega
          exact h5 q4
/-- The one that a branch goes out of. -/
def pick (l : List TInstr) (M : List Nest) : List Nest → Int → Int × Bool
  | [], left => if 0 < left then (0, false) else (l.length, true)
  | p :: r, left => if 0 < left then pick l M r (left - 1) else if opAt l p.1.toNat = 3 then (p.1, true) else ((M.getD p.1.toNat n0).2, true)
theorem filter_succ {L : List Nest} {j : Nat} (hs : L.Pairwise (fun p q => q.1 < p.1)) : (∃ p ∈ L, p.1 = (j : Int) ∧ L.filter (fun p => decide (p.1 < ((j + 1 : Nat) : Int))) = p :: L.filter (fun p => decide (p.1 < (j : Int)))) ∨
    ((∀ p ∈ L, p.1 ≠ (j : Int)) ∧ L.filter (fun p => decide (p.1 < ((j + 1 : Nat) : Int))) = L.filter (fun p => decide (p.1 < (j : Int)))) := by
  induction L with
  | nil => exact .inr ⟨fun p hp => by simp at hp, rfl⟩
  | cons p L ih =>
    obtain ⟨h1, h2⟩ := List.pairwise_cons.1 hs
    by_cases hp : p.1 = (j : Int)
    · left
      refine ⟨p, by simp, hp, ?_⟩
      have a : decide (p.1 < ((j + 1 : Nat) : Int)) = true := by simp; omega
      have b : decide (p.1 < (j : Int)) = false := by simp; omega
      simp only [List.filter_cons, a, b, if_true, Bool.false_eq_true, if_false]
      congr 1
      apply List.filter_congr
      intro q hq
      have := h1 q hq
      rw [decide_eq_decide]
      omega
    · rcases ih h2 with ⟨q, hq, hqj, e⟩ | ⟨hno, e⟩
      · left
        have := h1 q hq
        refine ⟨q, by simp [hq], hqj, ?_⟩
        have a : decide (p.1 < ((j + 1 : Nat) : Int)) = false := by simp; omega
        have b : decide (p.1 < (j : Int)) = false := by simp; omega
        simp only [List.filter_cons, a, b, Bool.false_eq_true, if_false]
        exact e
      · right
        refine ⟨fun q hq => (List.mem_cons.1 hq).elim (fun e => e ▸ hp) (hno q), ?_⟩
        have a : decide (p.1 < ((j + 1 : Nat) : Int)) = decide (p.1 < (j : Int)) := by rw [decide_eq_decide]; omega
        simp only [List.filter_cons, a, e]
theorem encl_sub {l : List TInstr} {k : Nat} {st : List Nest} {p : Nest} (h : p ∈ encl l k st) : p ∈ st := by
  unfold encl at h
  split at h
  · exact List.mem_of_mem_tail h
  · exact h
theorem encl_sorted {l : List TInstr} {k : Nat} {st : List Nest} (h : walkSt l k = some st) : (encl l k st).Pairwise (fun p q => q.1 < p.1) := by
  have := walkSt_sorted h
  unfold encl
  split
  · cases st with
    | nil => exact .nil
    | cons p r => exact (List.pairwise_cons.1 this).2
  · exact this
theorem walkSt_opens {l : List TInstr} (h : walkOk l = true) {k : Nat} (hk : k ≤ l.length) {st : List Nest} (hst : walkSt l k = some st) : ∀ p ∈ st, opensB (opAt l p.1.toNat) = true := by
  have := walkG_st (tellM l) (List.replicate l.length (-1, -1)) l k
  rw [hst] at this
  obtain ⟨⟨a, b⟩, h1, h2⟩ := Option.map_eq_some_iff.1 this
  simp only at h2
  subst h2
  exact fun p hp => ((winv l k hk a b h1).op p hp).1
theorem tgt_pick {l : List TInstr} (h : walkOk l = true) {k : Nat} (hk : k < l.length) {st : List Nest} (hst : walkSt l k = some st) : ∀ (j : Nat), j ≤ k → ∀ left, tgtGo l (matchesF l) (k : Int) j left = pick l (matchesF l) ((encl l k st).filter (fun p => decide (p.1 < (j : Int)))) left
  | 0, hj, left => by
    have : (encl l k st).filter (fun p => decide (p.1 < ((0 : Nat) : Int))) = [] := by
      rw [List.filter_eq_nil_iff]
      intro p hp
      have := walkSt_in hst p (encl_sub hp)
      unfold nestIn at this
      simp; omega
    rw [this]
    rfl
  | j + 1, hj, left => by
    have ih := tgt_pick h hk hst j (by omega)
    rw [tgtGo]
    rcases filter_succ (j := j) (encl_sorted hst) with ⟨p, hp, hpj, e⟩ | ⟨hno, e⟩
    · rw [e]
      have hpo := walkSt_opens h (by omega) hst p (encl_sub hp)
      rw [hpj, Int.toNat_natCast] at hpo
      have hc := (encl_mem h (by omega) hk hpo hst).2 ⟨p, hp, hpj⟩
      rw [if_neg (fun q => q.elim (fun q => by unfold opAt at hpo; rw [hpo] at q; cases q) hc)]
      rw [pick, hpj, Int.toNat_natCast]
      split
      · exact ih _
      · rfl
    · rw [e]
      by_cases ho : opensB (opAt l j) = true
      · have hc : ((matchesF l).getD j n0).2 ≤ (k : Int) ∨ ((matchesF l).getD j n0).1 = (k : Int) := by
          rcases Classical.em (((matchesF l).getD j n0).2 ≤ (k : Int) ∨ ((matchesF l).getD j n0).1 = (k : Int)) with q | q
          · exact q
          · obtain ⟨p, hp, hpj⟩ := (encl_mem h (by omega) hk ho hst).1 q
            exact absurd hpj (hno p hp)
        rw [if_pos (.inr hc)]
        exact ih _
      · rw [if_pos (.inl (show opensB (opAt l j) = false from Bool.eq_false_iff.2 ho))]
        exact ih _
theorem tgt_encl {l : List TInstr} (h : walkOk l = true) {k : Nat} (hk : k < l.length) {st : List Nest} (hst : walkSt l k = some st) {left : Int} (hl : 0 ≤ left) : targetF l (k : Int) left = pick l (matchesF l) (encl l k st) left := by
  unfold targetF
  rw [if_neg (by rw [h]; simp; omega), Int.toNat_natCast, tgt_pick h hk hst k (Nat.le_refl _)]
  congr 1
  rw [List.filter_eq_self]
  intro p hp
  have := walkSt_in hst p (encl_sub hp)
  unfold nestIn at this
  simp; omega
/-- How deep: as much as it stands in. -/
theorem depthsF_get {l : List TInstr} (h : walkOk l = true) {k : Nat} (hk : k < l.length) {st : List Nest} (hst : walkSt l k = some st) : (depthsF l).getD k 0 = ((encl l k st).length : Int) := by
  obtain ⟨s, hs⟩ := walk_some tellD [] h
  rw [depthsF_of hs]
  -- what was told stays
  have stay : ∀ m, k + 1 ≤ m → m ≤ l.length → ∀ st' s', walkG tellD [] l m = some (st', s') → s'.getD k 0 = ((encl l k st).length : Int) := by
    intro m
    induction m with
    | zero => intro h1; omega
    | succ m ih =>
      intro h1 h2 st' s' hm
      have hm0 := hm
      simp only [walkG] at hm
      split at hm
      · cases hm
      · rename_i st0 s0 hw
        split at hm
        · cases hm
        · rename_i st1 d e h3
          simp only [Option.some.injEq, Prod.mk.injEq] at hm
          obtain ⟨rfl, rfl⟩ := hm
          have hlen := tellD_len hw
          simp only [List.length_nil, Nat.zero_add] at hlen
          by_cases em : m = k
          · subst em
            obtain rfl := Option.some.inj ((walkSt_of hw).symm.trans hst)
            have : (tellD m d e s0).getD m 0 = d := by simp [tellD, List.getD_eq_getElem?_getD, ← hlen]
            rw [this]
            unfold encl
            rcases stepF_cases h3 with ⟨q, rfl, rfl⟩ | ⟨q0, q5, q11, rfl, rfl⟩ | ⟨t, q11, rfl, rfl, _⟩ | ⟨t, r, q5, rfl, _, _, rfl, rfl⟩
            · rw [if_neg (fun z => z.elim (fun z => by unfold opAt at z; rw [z] at q; cases q) (fun z => by unfold opAt at z; rw [z] at q; cases q))]
            · rw [if_neg (fun z => z.elim q5 q11)]
            · rw [if_pos (.inr q11)]; rfl
            · rw [if_pos (.inl q5)]; rfl
          · have := ih (by omega) (by omega) st0 s0 hw
            rw [← this]
            simp only [tellD, List.getD_eq_getElem?_getD]
            rw [List.getElem?_append_left (by omega)]
  exact stay l.length (by omega) (Nat.le_refl _) [] s hs
theorem pick_ok {l : List TInstr} {M : List Nest} : ∀ {L : List Nest} {left : Int}, 0 ≤ left → (pick l M L left).2 = decide (left ≤ L.length) ∧ ((L.length : Int) < left → (pick l M L left).1 = 0) ∧ (left = L.length → (pick l M L left).1 = l.length) ∧
    (left < L.length → ∃ p, L[left.toNat]? = some p ∧ (pick l M L left).1 = if opAt l p.1.toNat = 3 then p.1 else (M.getD p.1.toNat n0).2)
  | [], left, h => by
    simp only [pick, List.length_nil]
    by_cases h0 : 0 < left
    · rw [if_pos h0]
      refine ⟨by simp; omega, fun _ => rfl, fun e => by simp at e; omega, fun e => by simp at e; omega⟩
    · rw [if_neg h0]
      refine ⟨by simp; omega, fun e => by simp at e; omega, fun _ => rfl, fun e => by simp at e; omega⟩
  | p :: r, left, h => by
    simp only [pick, List.length_cons]
    by_cases h0 : 0 < left
    · rw [if_pos h0]
      obtain ⟨a, b, c, d⟩ := pick_ok (l := l) (M := M) (L := r) (left := left - 1) (by omega)
      refine ⟨?_, fun e => b (by omega), fun e => c (by omega), fun e => ?_⟩
      · rw [a, decide_eq_decide]; omega
      · obtain ⟨q, q1, q2⟩ := d (by omega)
        refine ⟨q, ?_, q2⟩
        rw [show left.toNat = (left - 1).toNat + 1 by omega, List.getElem?_cons_succ]
        exact q1
    · rw [if_neg h0]
      obtain rfl : left = 0 := by omega
      refine ⟨?_, fun e => by omega, fun e => by omega, fun e => ⟨p, rfl, ?_⟩⟩
      · split <;> simp <;> omega
      · split <;> rfl
end Go.Proofs.YtfpioigggjnffaaDoor.E
