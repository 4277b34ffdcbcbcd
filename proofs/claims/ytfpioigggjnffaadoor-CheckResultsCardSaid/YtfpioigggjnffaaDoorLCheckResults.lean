/- THE LAW CheckResults, read. -/
import Derived.Test.YtfpioigggjnffaaDoorLCheckMore
import Derived.Test.YtfpioigggjnffaaDoorLCheckLeaves
import Derived.Test.YtfpioigggjnffaaDoorC23
set_option linter.unnecessarySimpa false
set_option linter.unusedSimpArgs false
set_option linter.unusedVariables false
set_option autoImplicit false
set_option maxRecDepth 100000
set_option maxHeartbeats 4000000
set_option linter.unusedSimpArgs false
set_option linter.unusedVariables false
set_option pp.maxSteps 20000
namespace Go.Proofs.YtfpioigggjnffaaDoor.E
open Go.Ev
/-- come to its end, it fits -/
def liveB (e : TEnv) (l : List TInstr) (r : List Int) : Bool := match pathF (envR e r) l with
  | .error _ => false
  | .ok p => decide (bodyF (envR e r) l = 0) && !(match p[l.length]? with
    | some x => match x.ctrls with
      | c :: _ => c.dead
      | [] => true
    | none => true)
def cnt (e : TEnv) (l : List TInstr) (rs : List (List Int)) : Nat := (rs.filter (liveB e l)).length
theorem cnt_step (e : TEnv) (l : List TInstr) {rs : List (List Int)} {k : Nat} (h : k < rs.length) : cnt e l (rs.take (k + 1)) = cnt e l (rs.take k) + if liveB e l (rs.getD k []) then 1 else 0 := by
  unfold cnt
  rw [List.take_add_one, List.filter_append, List.length_append]
  obtain ⟨x, hx⟩ : ∃ x, rs[k]? = some x := ⟨_, List.getElem?_eq_getElem h⟩
  have h2 : rs.getD k [] = x := by rw [List.getD_eq_getElem?_getD, hx]; rfl
  rw [hx, h2]
  cases hl : liveB e l x <;> simp [hl]
theorem live_spec {e : TEnv} {l : List TInstr} {r : List Int} (h : liveB e l r = true) : ∃ p x q, pathF (envR e r) l = .ok p ∧ p.getLast? = some x ∧ closeS x = .ok q ∧ x.ctrls.length = 1 ∧ ∀ c, x.ctrls[0]? = some c → c.dead = false := by
  unfold liveB at h
  cases hp : pathF (envR e r) l with
  | error f => rw [hp] at h; cases h
  | ok p =>
    rw [hp] at h
    simp only [Bool.and_eq_true, decide_eq_true_eq] at h
    obtain ⟨hb, hd⟩ := h
    obtain ⟨p', q, hp', hc⟩ := body_fits hb
    rw [hp] at hp'
    cases hp'
    obtain ⟨hw, hs, hps⟩ := pathF_ok hp
    obtain ⟨hEnv, hfin⟩ := envOk_of hs
    have hl := pathS_len hps
    have hi := start_inv hfin
    have hk : l.length < p.length := by omega
    have hx := List.getElem?_eq_getElem hk
    have hg : p.getLast? = some p[l.length] := by rw [List.getLast?_eq_getElem?, show p.length - 1 = l.length by omega, hx]
    rw [getLastD_of hg] at hc
    have h1 : (p[l.length]).ctrls.length = 1 := by
      rw [path_open tabOk hEnv hi hps _ _ hx]
      exact open_last hw
    refine ⟨p, _, q, rfl, hg, hc, h1, fun c hcc => ?_⟩
    rw [hx] at hd
    simp only at hd
    generalize p[l.length] = x at *
    obtain ⟨v, cs⟩ := x
    cases cs with
    | nil => simp at hcc
    | cons c0 cs =>
      simp only [List.getElem?_cons_zero, Option.some.injEq] at hcc
      subst hcc
      simpa using hd
theorem live_one {e : TEnv} {l : List TInstr} {r r' : List Int} (h : liveB e l r = true) (h' : liveB e l r' = true) : r = r' := by
  obtain ⟨p, x, q, a1, a2, a3, a4, a5⟩ := live_spec h
  obtain ⟨p', x', q', b1, b2, b3, b4, b5⟩ := live_spec h'
  obtain ⟨hw, hs, hps⟩ := pathF_ok a1
  obtain ⟨hw', hs', hps'⟩ := pathF_ok b1
  obtain ⟨hEnv, hfin⟩ := envOk_of hs
  obtain ⟨hEnv', hfin'⟩ := envOk_of hs'
  exact results_one (env := envR e r) (env' := envR e r') tabOk ⟨rfl, rfl, rfl, rfl, rfl, rfl⟩ hEnv hEnv' hfin hfin' hps hps' a2 b2 a3 b3 a4 a5
abbrev rs3 : List (List Int) := [[], [126], [127]]
theorem cnt_le (e : TEnv) (l : List TInstr) : cnt e l rs3 ≤ 1 := by
  have h1 : liveB e l [] = true → liveB e l [126] = true → False := fun a b => by have := live_one a b; cases this
  have h2 : liveB e l [] = true → liveB e l [127] = true → False := fun a b => by have := live_one a b; cases this
  have h3 : liveB e l [126] = true → liveB e l [127] = true → False := fun a b => by have := live_one a b; cases this
  unfold cnt
  cases a : liveB e l [] <;> cases b : liveB e l [126] <;> cases c : liveB e l [127] <;> simp_all
theorem results_ev (fu n : Nat) (e : Tavocetref10_Env) (l : List TInstr) (hf : 20000 < fu) (hfl : l.length < fu) (hl9 : l.length ≤ maxLen) :
    evF (G fu) (n+16) 6 [.d e.d, .d (.list (l.map TInstr.d))] [] = some (.d (.bool true), []) := by
  have A := awake10_ev fu n (by omega)
  have F1 := few_ev fu (n+14) l 100 hfl hl9
  have S1 := small_ev fu (n+14) e (by omega)
  simp only [Tavocetref10_Env.d] at S1
  rw [evF.eq_2, evX.eq_def, Gext, exts_no _ (f := 6) (by decide), GP, Tryd.func6]; simp only [Tryd.f6, evB]
  cases hs : smallE e with
  | false =>
    rw [hs] at S1
    simp only [go_sem, Nat.reduceAdd, Nat.reduceMul, Nat.reduceSub, Nat.reduceLT, Nat.reduceLeDiff, Nat.reduceEqDiff, Nat.reduceBEq, Nat.reduceBeqDiff, Int.reduceEq, Int.reduceLT, Int.reduceLE, Int.reduceToNat, Int.reduceNeg, Int.reduceAdd, Int.reduceSub, Int.reduceMul, reduceIte, reduceCtorEq, Nat.reducePow, Nat.reduceDiv, Nat.reduceMod, Int.reduceBEq, Tavocetref10_Env.d, A, S1]
  | true =>
    rw [hs] at S1
    cases hw : few l 100 with
    | false =>
      rw [hw] at F1
      simp only [go_sem, Nat.reduceAdd, Nat.reduceMul, Nat.reduceSub, Nat.reduceLT, Nat.reduceLeDiff, Nat.reduceEqDiff, Nat.reduceBEq, Nat.reduceBeqDiff, Int.reduceEq, Int.reduceLT, Int.reduceLE, Int.reduceToNat, Int.reduceNeg, Int.reduceAdd, Int.reduceSub, Int.reduceMul, reduceIte, reduceCtorEq, Nat.reducePow, Nat.reduceDiv, Nat.reduceMod, Int.reduceBEq, Tavocetref10_Env.d, A, S1, F1]
    | true =>
      rw [hw] at F1
      obtain ⟨hlen, hlab⟩ := few_of hw
      have hbl : ∀ i ∈ l, i.labels.length < fu ∧ i.labels.length < 1000000 := fun i hi => by have := hlab i hi; omega
      have hg : e.globals.length ≤ 70 := by
        unfold smallE at hs
        simp only [Bool.and_eq_true, decide_eq_true_eq] at hs
        omega
      have VV := env_ev fu (n+14) e (by omega) (by omega)
      rw [env_dd0] at VV
      simp only [Tavocetref10_Env.d] at VV
      simp only [go_sem, Nat.reduceAdd, Nat.reduceMul, Nat.reduceSub, Nat.reduceLT, Nat.reduceLeDiff, Nat.reduceEqDiff, Nat.reduceBEq, Nat.reduceBeqDiff, Int.reduceEq, Int.reduceLT, Int.reduceLE, Int.reduceToNat, Int.reduceNeg, Int.reduceAdd, Int.reduceSub, Int.reduceMul, reduceIte, reduceCtorEq, Nat.reducePow, Nat.reduceDiv, Nat.reduceMod, Int.reduceBEq, Tavocetref10_Env.d, A, S1, F1, VV]
      rw [loop_some 3 (fun k => ⟨[(1, V.d (D.list (List.map TInstr.d l))), (5, V.d (D.bool true)), (6, V.d (D.int .i64 (cnt (envOf e) l (rs3.take k) : Nat))), (7, V.ptr 512 0), (8, V.row 1792 0 0 3), (9, V.d (D.int IntKind.i64 k))],
          [(512, .cells [V.d (D.list (List.map TFuncType.d e.types)), V.d (D.list (List.map (D.int IntKind.i64) e.funcs)), V.d (D.int IntKind.i64 e.tables), V.d (D.int IntKind.i64 e.mems), V.d (D.list (List.map Tavocetref10_Glob.d e.globals)), V.d (D.list (List.map (D.int IntKind.u8) e.locals)), V.d (D.list (List.map (D.int IntKind.u8) ((e.results :: rs3).getD k [])))]),
           (1792, Obj.row 1 [D.list [], D.list [D.int IntKind.u8 126], D.list [D.int IntKind.u8 127]] 0 false false)]⟩)
        (.exit 0, ⟨[(5, V.d (D.bool true)), (6, V.d (D.int .i64 (cnt (envOf e) l rs3 : Nat)))], []⟩) trivial (by omega) ?_]
      case hs =>
        intro k hk
        have hcs := cnt_step (envOf e) l (rs := rs3) (k := k) hk
        have hx : [D.list [], D.list [D.int IntKind.u8 126], D.list [D.int IntKind.u8 127]][k]? = some (D.list (byt (rs3.getD k []))) := by
          match k, hk with
          | 0, _ => rfl
          | 1, _ => rfl
          | 2, _ => rfl
        have hx2 : (e.results :: rs3).getD (k + 1) [] = rs3.getD k [] := rfl
        have hlR : (rs3.getD k []).length ≤ 1 := by
          match k, hk with
          | 0, _ => decide
          | 1, _ => decide
          | 2, _ => decide
        have hkI : (k : Int) < 3 := by omega
        have W := wrap_i64 (show -9223372036854775808 ≤ (k : Int) + 1 by omega) (by omega)
        have hcl : cnt (envOf e) l (rs3.take k) ≤ 3 := by
          unfold cnt
          exact Nat.le_trans (List.length_filter_le ..) (by rw [List.length_take]; exact Nat.min_le_right ..)
        rw [hcs, hx2]
        generalize (e.results :: rs3).getD k [] = R0
        generalize cnt (envOf e) l (rs3.take k) = c at *
        have W2 := wrap_i64 (show -9223372036854775808 ≤ (c : Int) + 1 by omega) (by omega)
        generalize rs3.getD k [] = R at *
        have y0 := eok_r hs (fu := fu) (by omega) R hlR
        have B := body_ev fu (n+1) (envR (envOf e) R) y0 l (by omega) (by omega) hbl
        have P := path_ev fu (n+2) (envR (envOf e) R) y0 l (by omega) (by omega) hbl
        simp only [env_dd] at B P
        by_cases hb : bodyF (envR (envOf e) R) l = 0
        · obtain ⟨p, q, hp, hc⟩ := body_fits hb
          obtain ⟨hwk, hsn, hps⟩ := pathF_ok hp
          obtain ⟨hEnv, hfin⟩ := envOk_of hsn
          have hpl := pathS_len hps
          obtain ⟨_, x, d, hxx, hcx, hvl, hvd⟩ := leaves_facts hEnv hfin y0.sm hwk hps hc
          have hlv : liveB (envOf e) l R = !d := by
            unfold liveB
            rw [hp]
            simp only [hb, hxx, hcx, decide_true, Bool.true_and]
          rw [hp] at P
          rw [hb] at B
          simp only [pathR] at P
          have hpI : (p.length : Int) = (l.length : Int) + 1 := by omega
          have W1 := wrap_i64 (show -9223372036854775808 ≤ (l.length : Int) + 1 by omega) (by omega)
          have k2 : (l.length : Int) < l.length + 1 := by omega
          have hxs : (stkds p)[l.length]? = some (.agg [.list (byt x.vals), .list [.agg [.int .i64 2, .list (byt R), .int .i64 0, .bool d]]]) := by
            simp only [stkds, List.getElem?_map, hxx, Option.map_some, Stk.dd, hcx, List.map_cons, List.map_nil, Ctl.dd, envR]
          rw [hlv]
          cases d <;> simp only [go_sem, Nat.reduceAdd, Nat.reduceMul, Nat.reduceSub, Nat.reduceLT, Nat.reduceLeDiff, Nat.reduceEqDiff, Nat.reduceBEq, Nat.reduceBeqDiff, Int.reduceEq, Int.reduceLT, Int.reduceLE, Int.reduceToNat, Int.reduceNeg, Int.reduceAdd, Int.reduceSub, Int.reduceMul, reduceIte, reduceCtorEq, Nat.reducePow, Nat.reduceDiv, Nat.reduceMod, Int.reduceBEq, hkI, idx, hx, B, P, W, List.length_map, hpI, W1, W2, k2, hxs, List.getElem?_cons_zero]
          all_goals rfl
        · have hlv : liveB (envOf e) l R = false := by
            unfold liveB
            cases pathF (envR (envOf e) R) l <;> simp [hb]
          rw [hlv]
          simp only [go_sem, Nat.reduceAdd, Nat.reduceMul, Nat.reduceSub, Nat.reduceLT, Nat.reduceLeDiff, Nat.reduceEqDiff, Nat.reduceBEq, Nat.reduceBeqDiff, Int.reduceEq, Int.reduceLT, Int.reduceLE, Int.reduceToNat, Int.reduceNeg, Int.reduceAdd, Int.reduceSub, Int.reduceMul, reduceIte, reduceCtorEq, Nat.reducePow, Nat.reduceDiv, Nat.reduceMod, Int.reduceBEq, hkI, idx, hx, B, hb, W]
          rfl
      case he =>
        simp only [go_sem, Nat.reduceAdd, Nat.reduceMul, Nat.reduceSub, Nat.reduceLT, Nat.reduceLeDiff, Nat.reduceEqDiff, Nat.reduceBEq, Nat.reduceBeqDiff, Int.reduceEq, Int.reduceLT, Int.reduceLE, Int.reduceToNat, Int.reduceNeg, Int.reduceAdd, Int.reduceSub, Int.reduceMul, reduceIte, reduceCtorEq, Nat.reducePow, Nat.reduceDiv, Nat.reduceMod, Int.reduceBEq, Int.lt_irrefl]
      · have hle : ((cnt (envOf e) l rs3 : Nat) : Int) ≤ 1 := by have := cnt_le (envOf e) l; omega
        simp only [go_sem, Nat.reduceAdd, Nat.reduceMul, Nat.reduceSub, Nat.reduceLT, Nat.reduceLeDiff, Nat.reduceEqDiff, Nat.reduceBEq, Nat.reduceBeqDiff, Int.reduceEq, Int.reduceLT, Int.reduceLE, Int.reduceToNat, Int.reduceNeg, Int.reduceAdd, Int.reduceSub, Int.reduceMul, reduceIte, reduceCtorEq, Nat.reducePow, Nat.reduceDiv, Nat.reduceMod, Int.reduceBEq, hle]
      · rfl
theorem CheckResults.pure (e : Tavocetref10_Env) (he : e.ok) (l : List TInstr) (hl : l.length ≤ maxLen ∧ ∀ z ∈ l, z.ok) :
    ∃ fu n, evF (G fu) n 6 [.d e.d, .d (.list (l.map TInstr.d))] [] = some (.d (.bool true), []) :=
  ⟨20001 + l.length, 16, results_ev _ 0 e l (by omega) (by omega) hl.1⟩
end Go.Proofs.YtfpioigggjnffaaDoor.E
