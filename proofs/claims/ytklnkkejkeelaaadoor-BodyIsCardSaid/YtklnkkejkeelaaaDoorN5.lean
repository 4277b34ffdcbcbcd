/- The reading of the document's Matches (avocetref06.Matches). -/
import Derived.Test.YtklnkkejkeelaaaDoorN4
set_option linter.unnecessarySimpa false
set_option linter.unusedSimpArgs false
set_option linter.unusedVariables false
set_option autoImplicit false
set_option maxRecDepth 100000
set_option maxHeartbeats 8000000
set_option linter.unusedSimpArgs false
set_option linter.unusedVariables false
set_option pp.maxSteps 20000
namespace Go.Proofs.YtklnkkejkeelaaaDoor.E
open Go.Ev
theorem rep_get {N i : Nat} {x z : D} (h : i < N) : (rep N i x z)[i]? = some z := by
  unfold rep
  rw [List.getElem?_append_right (by simp)]
  simp [List.getElem?_replicate]
  omega
theorem rep_set {N i : Nat} {x z : D} (h : i < N) : (rep N i x z).set i x = rep N (i + 1) x z := by
  unfold rep
  apply List.ext_getElem?
  intro m
  by_cases e : i = m
  · subst e
    rw [List.getElem?_set_self (by simp; omega), List.getElem?_append_left (by simp)]
    simp
  · rw [List.getElem?_set_ne e]
    by_cases h2 : m < i
    · rw [List.getElem?_append_left (by simp; omega), List.getElem?_append_left (by simp; omega)]
      simp [List.getElem?_replicate, h2]; omega
    · rw [List.getElem?_append_right (by simp; omega), List.getElem?_append_right (by simp; omega)]
      simp only [List.getElem?_replicate, List.length_replicate]
      split <;> split <;> first | rfl | omega
theorem rep_full {N : Nat} {x z : D} : rep N N x z = List.replicate N x := by simp [rep]
structure RmS where
  j : Nat
  k : Nat
  M : List Nest
  U : List Bool
def rmSt (L : List D) (N k : Nat) (X Y : List D) : St := ⟨[(0, .d (.list L)), (4, .row 896 0 0 N), (5, .row 1088 0 0 N), (7, .d (.int .i64 k))], [(896, .row 2 X 0 false false), (1088, .row 1 Y 0 false false)]⟩
def rmJ (L : List D) (N : Nat) (r : Option (List Nest × List Bool)) (y : Ex) (s : St) : Prop := match r with
  | none => y = .ret ∧ s = ⟨[(2, .nilsl), (3, .d (.bool false))], []⟩
  | some (M, U) => y = .exit 2 ∧ M.length = N ∧ U.length = N ∧ s = ⟨[(0, .d (.list L)), (4, .row 896 0 0 N), (5, .row 1088 0 0 N)], [(896, .row 2 (M.map nestD) 0 false false), (1088, .row 1 (U.map D.bool) 0 false false)]⟩
theorem rMatches_ev (fu n : Nat) (l : List TInstr) (hf : l.length < fu) (hs : l.length < 100000) :
    evF (G fu) (n+3) 40 [.d (.list (l.map TInstr.d))] [] = some (.tup [.row 0 0 0 (matchesF l).length, .d (.bool (walkOk l))], [.row 2 ((matchesF l).map nestD) 0 false false]) := by
  have hm := rMatches_is l
  unfold rMatches at hm
  rw [evF.eq_2, evX.eq_def, Gext, exts_no _ (f := 40) (by decide), GP, Tryd.func40]; simp only [Tryd.f40, evB]
  simp only [go_sem, Nat.reduceAdd, Nat.reduceMul, Nat.reduceSub, Nat.reduceLT, Nat.reduceLeDiff, Nat.reduceEqDiff, Nat.reduceBEq, Nat.reduceBeqDiff, Int.reduceEq, Int.reduceLT, Int.reduceLE, Int.reduceToNat, Int.reduceNeg, Int.reduceAdd, Int.reduceSub, Int.reduceMul, reduceIte, reduceCtorEq, Nat.reducePow, Nat.reduceDiv, Nat.reduceMod, Int.reduceBEq, List.length_map, show l.length * 17 ≤ 1099511627776 by omega, show l.length * 2 ≤ 1099511627776 by omega]
  rw [loop_some l.length (fun i => ⟨[(0, .d (.list (l.map TInstr.d))), (4, .row 896 0 0 l.length), (5, .row 1088 0 0 l.length), (6, .d (.int .i64 i))], [(896, .row 2 (rep l.length i (nestD (-1, -1)) (nestD (0, 0))) 0 false false), (1088, .row 1 (List.replicate l.length (.bool false)) 0 false false)]⟩)
    (.exit 0, ⟨[(0, .d (.list (l.map TInstr.d))), (4, .row 896 0 0 l.length), (5, .row 1088 0 0 l.length)], [(896, .row 2 (rep l.length l.length (nestD (-1, -1)) (nestD (0, 0))) 0 false false), (1088, .row 1 (List.replicate l.length (.bool false)) 0 false false)]⟩) trivial hf ?_]
  case hs =>
    intro i hi
    have hiI : (i : Int) < l.length := by omega
    have hg := rep_get (x := nestD (-1, -1)) (z := nestD (0, 0)) hi
    have hset := rep_set (x := nestD (-1, -1)) (z := nestD (0, 0)) hi
    have Wi := wrap_i64 (show -9223372036854775808 ≤ (i : Int) + 1 by omega) (by omega)
    simp only [nestD] at hg hset ⊢
    simp only [go_sem, Nat.reduceAdd, Nat.reduceMul, Nat.reduceSub, Nat.reduceLT, Nat.reduceLeDiff, Nat.reduceEqDiff, Nat.reduceBEq, Nat.reduceBeqDiff, Int.reduceEq, Int.reduceLT, Int.reduceLE, Int.reduceToNat, Int.reduceNeg, Int.reduceAdd, Int.reduceSub, Int.reduceMul, reduceIte, reduceCtorEq, Nat.reducePow, Nat.reduceDiv, Nat.reduceMod, Int.reduceBEq, List.length_map, hiI, hg, hset, Wi]
    rfl
  case he => simp only [go_sem, Nat.reduceAdd, Nat.reduceMul, Nat.reduceSub, Nat.reduceLT, Nat.reduceLeDiff, Nat.reduceEqDiff, Nat.reduceBEq, Nat.reduceBeqDiff, Int.reduceEq, Int.reduceLT, Int.reduceLE, Int.reduceToNat, Int.reduceNeg, Int.reduceAdd, Int.reduceSub, Int.reduceMul, reduceIte, reduceCtorEq, Nat.reducePow, Nat.reduceDiv, Nat.reduceMod, Int.reduceBEq, List.length_map, Int.lt_irrefl]
  rotate_left
  · simp [rep, nestD]
  rw [rep_full]
  simp only [go_sem, Nat.reduceAdd, Nat.reduceMul, Nat.reduceSub, Nat.reduceLT, Nat.reduceLeDiff, Nat.reduceEqDiff, Nat.reduceBEq, Nat.reduceBeqDiff, Int.reduceEq, Int.reduceLT, Int.reduceLE, Int.reduceToNat, Int.reduceNeg, Int.reduceAdd, Int.reduceSub, Int.reduceMul, reduceIte, reduceCtorEq, Nat.reducePow, Nat.reduceDiv, Nat.reduceMod, Int.reduceBEq]
  generalize hr : loopN _ _ _ _ _ = r
  obtain ⟨y, s1, rfl, hy, hJ⟩ : ∃ y s1, r = some (y, s1) ∧ leaves y ∧ rmJ (l.map TInstr.d) l.length (rmGo l l.length 0 (List.replicate l.length (-1, -1)) (List.replicate l.length false)) y s1 := by
    rw [← hr]
    clear hr r
    refine loop_rel (σ := RmS) (fun e s => e.k + e.j = l.length ∧ e.M.length = l.length ∧ e.U.length = l.length ∧ ∃ X Y, X = e.M.map nestD ∧ Y = e.U.map D.bool ∧ s = rmSt (l.map TInstr.d) l.length e.k X Y)
      (fun e y s1 => rmJ (l.map TInstr.d) l.length (rmGo l e.j e.k e.M e.U) y s1) (fun e => e.j) ?_ fu ⟨l.length, 0, List.replicate l.length (-1, -1), List.replicate l.length false⟩ _ hf ⟨by show 0 + l.length = _; omega, by simp, by simp, _, _, rfl, rfl, by simp [rmSt]⟩
    rintro ⟨j, k, M, U⟩ s ⟨h1, h2, h3, X, Y, hX, hY, rfl⟩
    simp only at h1 h2 h3 hX hY
    unfold rmSt
    cases j with
    | zero =>
      have hk : ¬ (k : Int) < l.length := by omega
      simp only [go_sem, Nat.reduceAdd, Nat.reduceMul, Nat.reduceSub, Nat.reduceLT, Nat.reduceLeDiff, Nat.reduceEqDiff, Nat.reduceBEq, Nat.reduceBeqDiff, Int.reduceEq, Int.reduceLT, Int.reduceLE, Int.reduceToNat, Int.reduceNeg, Int.reduceAdd, Int.reduceSub, Int.reduceMul, reduceIte, reduceCtorEq, Nat.reducePow, Nat.reduceDiv, Nat.reduceMod, Int.reduceBEq, List.length_map, hk]
      exact ⟨_, _, rfl, rfl, h2, h3, by rw [hX, hY]⟩
    | succ j =>
      have hkl : k < l.length := by omega
      have hk : (k : Int) < l.length := by omega
      have hg : (l.map TInstr.d)[k]? = some (l.getD k in0).d := getD_map hkl
      have q := rOpens_ev fu (n+1) (l.getD k in0)
      have ho : (l.getD k in0).op = opAt l k := rfl
      have E := rEnd_ev fu n l k hkl hf hs
      have Wk := wrap_i64 (show -9223372036854775808 ≤ (k : Int) + 1 by omega) (by omega)
      have go : ∀ (M' : List Nest) (U' : List Bool) (X' Y' : List D) (he : rmGo l (j + 1) k M U = rmGo l j (k + 1) M' U') (hM : M'.length = l.length) (hU : U'.length = l.length) (hX' : X' = M'.map nestD) (hY' : Y' = U'.map D.bool), ∃ x s1, some (Ex.normal, rmSt (l.map TInstr.d) l.length (k + 1) X' Y') = some (x, s1) ∧ match x with
          | .normal => ∃ e' : RmS, (e'.k + e'.j = l.length ∧ e'.M.length = l.length ∧ e'.U.length = l.length ∧ ∃ X Y, X = e'.M.map nestD ∧ Y = e'.U.map D.bool ∧ s1 = rmSt (l.map TInstr.d) l.length e'.k X Y) ∧ e'.j < j + 1 ∧ ∀ (y : Ex) (s : St), rmJ (l.map TInstr.d) l.length (rmGo l e'.j e'.k e'.M e'.U) y s → rmJ (l.map TInstr.d) l.length (rmGo l (j + 1) k M U) y s
          | x => rmJ (l.map TInstr.d) l.length (rmGo l (j + 1) k M U) x s1 :=
        fun M' U' X' Y' he hM hU hX' hY' => ⟨.normal, _, rfl, ⟨j, k + 1, M', U'⟩, ⟨by show k + 1 + j = _; omega, hM, hU, X', Y', hX', hY', rfl⟩, by show j < j + 1; omega, fun y s h => by rw [he]; exact h⟩
      unfold rmSt at go
      have hRM : rmGo l (j + 1) k M U = if opensB (opAt l k) then (if (endF l k).1 < 0 then none else rmGo l j (k + 1) (rmPut k (endF l k) M) (rmUse (endF l k) U)) else rmGo l j (k + 1) M U := rfl
      simp only [TInstr.d] at q hg
      rw [ho] at q hg
      generalize hop : opAt l k = op at *
      cases hb : opensB op with
      | false =>
        rw [hb] at q hRM
        simp only [go_sem, Nat.reduceAdd, Nat.reduceMul, Nat.reduceSub, Nat.reduceLT, Nat.reduceLeDiff, Nat.reduceEqDiff, Nat.reduceBEq, Nat.reduceBeqDiff, Int.reduceEq, Int.reduceLT, Int.reduceLE, Int.reduceToNat, Int.reduceNeg, Int.reduceAdd, Int.reduceSub, Int.reduceMul, reduceIte, reduceCtorEq, Nat.reducePow, Nat.reduceDiv, Nat.reduceMod, Int.reduceBEq, List.length_map, hk, idx, hg, q, Wk]
        exact go M U X Y hRM h2 h3 hX hY
      | true =>
        rw [hb] at q hRM
        rw [if_pos rfl] at hRM
        have hXk : X[k]? = some (nestD (M.getD k n0)) := by rw [hX]; exact getD_map (d := n0) (by omega)
        rcases endF_range l hkl with he | ⟨e, o, g1, g2, g3, g4, g5⟩
        · rw [he] at E hRM
          rw [if_pos (by decide)] at hRM
          simp only [go_sem, Nat.reduceAdd, Nat.reduceMul, Nat.reduceSub, Nat.reduceLT, Nat.reduceLeDiff, Nat.reduceEqDiff, Nat.reduceBEq, Nat.reduceBeqDiff, Int.reduceEq, Int.reduceLT, Int.reduceLE, Int.reduceToNat, Int.reduceNeg, Int.reduceAdd, Int.reduceSub, Int.reduceMul, reduceIte, reduceCtorEq, Nat.reducePow, Nat.reduceDiv, Nat.reduceMod, Int.reduceBEq, List.length_map, hk, idx, hg, q, E, Wk]
          exact ⟨.ret, _, rfl, by rw [hRM]; exact ⟨rfl, rfl⟩⟩
        · rw [g1] at E hRM
          rw [if_neg (by show ¬ (e : Int) < 0; omega)] at hRM
          have he0 : ¬ (e : Int) < 0 := by omega
          have heI : (e : Int) < l.length := by omega
          have hYe : Y[e]? = some (.bool (U.getD e false)) := by rw [hY]; exact getD_map (d := false) (by omega)
          simp only [nestD] at hXk
          rcases g5 with rfl | ⟨m, rfl, m1, m2, m3⟩
          · simp only [go_sem, Nat.reduceAdd, Nat.reduceMul, Nat.reduceSub, Nat.reduceLT, Nat.reduceLeDiff, Nat.reduceEqDiff, Nat.reduceBEq, Nat.reduceBeqDiff, Int.reduceEq, Int.reduceLT, Int.reduceLE, Int.reduceToNat, Int.reduceNeg, Int.reduceAdd, Int.reduceSub, Int.reduceMul, reduceIte, reduceCtorEq, Nat.reducePow, Nat.reduceDiv, Nat.reduceMod, Int.reduceBEq, List.length_map, hk, idx, hg, q, E, Wk, hXk, hYe, he0, heI]
            refine go _ _ _ _ hRM (by rw [rmPut_len]; exact h2) (by rw [rmUse_len]; exact h3) ?_ ?_
            · rw [hX]; simp [rmPut, List.map_set, nestD]
            · rw [hY]; simp [rmUse, List.map_set]
          · have hm0 : (0 : Int) ≤ m := by omega
            have hmI : (m : Int) < l.length := by omega
            have hXm : (X.set k (.agg [.int .i64 m, .int .i64 e]))[m]? = some (nestD (M.getD m n0)) := by
              rw [List.getElem?_set_ne (by omega), hX]; exact getD_map (d := n0) (by omega)
            have hYm : (Y.set e (.bool true))[m]? = some (.bool (U.getD m false)) := by
              rw [List.getElem?_set_ne (by omega), hY]; exact getD_map (d := false) (by omega)
            simp only [nestD] at hXm
            simp only [go_sem, Nat.reduceAdd, Nat.reduceMul, Nat.reduceSub, Nat.reduceLT, Nat.reduceLeDiff, Nat.reduceEqDiff, Nat.reduceBEq, Nat.reduceBeqDiff, Int.reduceEq, Int.reduceLT, Int.reduceLE, Int.reduceToNat, Int.reduceNeg, Int.reduceAdd, Int.reduceSub, Int.reduceMul, reduceIte, reduceCtorEq, Nat.reducePow, Nat.reduceDiv, Nat.reduceMod, Int.reduceBEq, List.length_map, hk, idx, hg, q, E, Wk, hXk, hYe, he0, heI, hXm, hYm, hmI]
            refine go _ _ _ _ hRM (by rw [rmPut_len]; exact h2) (by rw [rmUse_len]; exact h3) ?_ ?_
            · rw [hX]; simp [rmPut, List.map_set, nestD]
            · rw [hY]; simp [rmUse, List.map_set]
  cases hg : rmGo l l.length 0 (List.replicate l.length (-1, -1)) (List.replicate l.length false) with
  | none =>
    rw [hg] at hJ hm
    obtain ⟨rfl, rfl⟩ := hJ
    have hw : walkOk l = false := by
      cases hw : walkOk l with
      | false => rfl
      | true => rw [hw] at hm; cases hm
    simp only [go_sem, Nat.reduceAdd, Nat.reduceMul, Nat.reduceSub, Nat.reduceLT, Nat.reduceLeDiff, Nat.reduceEqDiff, Nat.reduceBEq, Nat.reduceBeqDiff, Int.reduceEq, Int.reduceLT, Int.reduceLE, Int.reduceToNat, Int.reduceNeg, Int.reduceAdd, Int.reduceSub, Int.reduceMul, reduceIte, reduceCtorEq, Nat.reducePow, Nat.reduceDiv, Nat.reduceMod, Int.reduceBEq, hw, matchesF_no l hw, List.map_nil, List.length_nil]
  | some p =>
    obtain ⟨M, U⟩ := p
    rw [hg] at hJ hm
    obtain ⟨rfl, j1, j2, rfl⟩ := hJ
    dsimp only at hm
    simp only [go_sem, Nat.reduceAdd, Nat.reduceMul, Nat.reduceSub, Nat.reduceLT, Nat.reduceLeDiff, Nat.reduceEqDiff, Nat.reduceBEq, Nat.reduceBeqDiff, Int.reduceEq, Int.reduceLT, Int.reduceLE, Int.reduceToNat, Int.reduceNeg, Int.reduceAdd, Int.reduceSub, Int.reduceMul, reduceIte, reduceCtorEq, Nat.reducePow, Nat.reduceDiv, Nat.reduceMod, Int.reduceBEq]
    rw [loop_scan l.length (fun k => ⟨[(0, .d (.list (l.map TInstr.d))), (4, .row 896 0 0 l.length), (5, .row 1088 0 0 l.length), (10, .d (.int .i64 k))], [(896, .row 2 (M.map nestD) 0 false false), (1088, .row 1 (U.map D.bool) 0 false false)]⟩) (notUsed l U) (fun _ => (.ret, ⟨[(2, .nilsl), (3, .d (.bool false))], []⟩)) (.exit 4, ⟨[(4, .row 896 0 0 l.length)], [(896, .row 2 (M.map nestD) 0 false false)]⟩) hf (fun _ => trivial) trivial ?_]
    case hs =>
      intro k hkl
      have hk : (k : Int) < l.length := by omega
      have hgk : (l.map TInstr.d)[k]? = some (l.getD k in0).d := getD_map hkl
      have hu : (U.map D.bool)[k]? = some (.bool (U.getD k false)) := getD_map (d := false) (by omega)
      have Wk := wrap_i64 (show -9223372036854775808 ≤ (k : Int) + 1 by omega) (by omega)
      have ho : (l.getD k in0).op = opAt l k := rfl
      unfold notUsed
      simp only [TInstr.d] at hgk
      rw [ho] at hgk
      generalize opAt l k = op at *
      generalize U.getD k false = u at *
      by_cases c5 : op = 5
      · subst c5
        cases u <;> simp only [go_sem, Nat.reduceAdd, Nat.reduceMul, Nat.reduceSub, Nat.reduceLT, Nat.reduceLeDiff, Nat.reduceEqDiff, Nat.reduceBEq, Nat.reduceBeqDiff, Int.reduceEq, Int.reduceLT, Int.reduceLE, Int.reduceToNat, Int.reduceNeg, Int.reduceAdd, Int.reduceSub, Int.reduceMul, reduceIte, reduceCtorEq, Nat.reducePow, Nat.reduceDiv, Nat.reduceMod, Int.reduceBEq, List.length_map, hk, idx, hgk, hu, Wk] <;> rfl
      · by_cases c11 : op = 11
        · subst c11
          cases u <;> simp only [go_sem, Nat.reduceAdd, Nat.reduceMul, Nat.reduceSub, Nat.reduceLT, Nat.reduceLeDiff, Nat.reduceEqDiff, Nat.reduceBEq, Nat.reduceBeqDiff, Int.reduceEq, Int.reduceLT, Int.reduceLE, Int.reduceToNat, Int.reduceNeg, Int.reduceAdd, Int.reduceSub, Int.reduceMul, reduceIte, reduceCtorEq, Nat.reducePow, Nat.reduceDiv, Nat.reduceMod, Int.reduceBEq, List.length_map, hk, idx, hgk, hu, Wk] <;> rfl
        · simp only [go_sem, Nat.reduceAdd, Nat.reduceMul, Nat.reduceSub, Nat.reduceLT, Nat.reduceLeDiff, Nat.reduceEqDiff, Nat.reduceBEq, Nat.reduceBeqDiff, Int.reduceEq, Int.reduceLT, Int.reduceLE, Int.reduceToNat, Int.reduceNeg, Int.reduceAdd, Int.reduceSub, Int.reduceMul, reduceIte, reduceCtorEq, Nat.reducePow, Nat.reduceDiv, Nat.reduceMod, Int.reduceBEq, List.length_map, hk, idx, hgk, hu, c5, c11, Wk]
          rfl
    case he => simp only [go_sem, Nat.reduceAdd, Nat.reduceMul, Nat.reduceSub, Nat.reduceLT, Nat.reduceLeDiff, Nat.reduceEqDiff, Nat.reduceBEq, Nat.reduceBeqDiff, Int.reduceEq, Int.reduceLT, Int.reduceLE, Int.reduceToNat, Int.reduceNeg, Int.reduceAdd, Int.reduceSub, Int.reduceMul, reduceIte, reduceCtorEq, Nat.reducePow, Nat.reduceDiv, Nat.reduceMod, Int.reduceBEq, List.length_map, Int.lt_irrefl]
    rotate_left
    · rfl
    unfold Go.Ev.scan
    cases hf : first (notUsed l U) 0 l.length with
    | none =>
      rw [hf] at hm
      have hw : walkOk l = true := by
        cases hw : walkOk l with
        | true => rfl
        | false => rw [hw] at hm; cases hm
      rw [hw] at hm
      simp only [if_true, Option.some.injEq] at hm
      rw [hw, ← hm, j1]
      simp only [go_sem, Nat.reduceAdd, Nat.reduceMul, Nat.reduceSub, Nat.reduceLT, Nat.reduceLeDiff, Nat.reduceEqDiff, Nat.reduceBEq, Nat.reduceBeqDiff, Int.reduceEq, Int.reduceLT, Int.reduceLE, Int.reduceToNat, Int.reduceNeg, Int.reduceAdd, Int.reduceSub, Int.reduceMul, reduceIte, reduceCtorEq, Nat.reducePow, Nat.reduceDiv, Nat.reduceMod, Int.reduceBEq]
    | some i =>
      rw [hf] at hm
      have hw : walkOk l = false := by
        cases hw : walkOk l with
        | false => rfl
        | true => rw [hw] at hm; cases hm
      simp only [go_sem, Nat.reduceAdd, Nat.reduceMul, Nat.reduceSub, Nat.reduceLT, Nat.reduceLeDiff, Nat.reduceEqDiff, Nat.reduceBEq, Nat.reduceBeqDiff, Int.reduceEq, Int.reduceLT, Int.reduceLE, Int.reduceToNat, Int.reduceNeg, Int.reduceAdd, Int.reduceSub, Int.reduceMul, reduceIte, reduceCtorEq, Nat.reducePow, Nat.reduceDiv, Nat.reduceMod, Int.reduceBEq, hw, matchesF_no l hw, List.map_nil, List.length_nil]
end Go.Proofs.YtklnkkejkeelaaaDoor.E
