/- The reading of the document's body: opens, end (avocetref06). -/
import Derived.Test.YtklnkkejkeelaaaDoorT07
import Derived.Test.YtklnkkejkeelaaaDoorL9
set_option linter.unnecessarySimpa false
set_option linter.unusedSimpArgs false
set_option linter.unusedVariables false
set_option autoImplicit false
set_option maxRecDepth 100000
set_option maxHeartbeats 40000000
set_option linter.unusedSimpArgs false
set_option linter.unusedVariables false
set_option pp.maxSteps 20000
namespace Go.Proofs.YtklnkkejkeelaaaDoor.E
open Go.Ev
theorem rOpens_ev (fu n : Nat) (i : TInstr) : evF (G fu) (n+1) 80 [.d i.d] [] = some (.d (.bool (opensB i.op)), []) := by
  simp only [TInstr.d]
  rw [evF.eq_2, evX.eq_def, Gext, exts_no _ (f := 80) (by decide), GP, Tryd.func80]; simp only [Tryd.f80, evB]
  by_cases h1 : 2 ≤ i.op <;> by_cases h2 : i.op ≤ 4 <;> simp only [go_sem, Nat.reduceAdd, Nat.reduceMul, Nat.reduceSub, Nat.reduceLT, Nat.reduceLeDiff, Nat.reduceEqDiff, Nat.reduceBEq, Nat.reduceBeqDiff, Int.reduceEq, Int.reduceLT, Int.reduceLE, Int.reduceToNat, Int.reduceNeg, Int.reduceAdd, Int.reduceSub, Int.reduceMul, reduceIte, reduceCtorEq, Nat.reducePow, Nat.reduceDiv, Nat.reduceMod, Int.reduceBEq, opensB, h1, h2]
/-- Where what opens at the place a ends, and its else: looked for from the place k on; f: the operators. -/
def endGo (f : Nat → Int) (a : Nat) : Nat → Nat → Int → Int → Int × Int
  | 0, _, _, _ => (-1, -1)
  | j + 1, k, deep, other =>
    if opensB (f k) then endGo f a j (k + 1) (deep + 1) other
    else if f k = 5 ∧ deep = 0 then (if 0 ≤ other ∨ f a ≠ 4 then (-1, -1) else endGo f a j (k + 1) deep k)
    else if f k = 11 ∧ deep = 0 then (k, other)
    else if f k = 11 then endGo f a j (k + 1) (deep - 1) other
    else endGo f a j (k + 1) deep other
def endF (l : List TInstr) (a : Nat) : Int × Int := endGo (opAt l) a (l.length - (a + 1)) (a + 1) 0 (-1)
section
variable {f : Nat → Int} {a j k : Nat} {deep other : Int}
theorem endGo_open (h : opensB (f k) = true) : endGo f a (j + 1) k deep other = endGo f a j (k + 1) (deep + 1) other := by rw [endGo, if_pos h]
theorem endGo_twice (h : f k = 5) (hd : deep = 0) (h2 : 0 ≤ other ∨ f a ≠ 4) : endGo f a (j + 1) k deep other = (-1, -1) := by rw [endGo, if_neg (by rw [h]; decide), if_pos ⟨h, hd⟩, if_pos h2]
theorem endGo_else (h : f k = 5) (hd : deep = 0) (h2 : ¬ 0 ≤ other) (h3 : f a = 4) : endGo f a (j + 1) k deep other = endGo f a j (k + 1) deep k := by rw [endGo, if_neg (by rw [h]; decide), if_pos ⟨h, hd⟩, if_neg (by omega)]
theorem endGo_else2 (h : f k = 5) (hd : ¬ deep = 0) : endGo f a (j + 1) k deep other = endGo f a j (k + 1) deep other := by rw [endGo, if_neg (by rw [h]; decide), if_neg (by omega), if_neg (by omega), if_neg (by omega)]
theorem endGo_end (h : f k = 11) (hd : deep = 0) : endGo f a (j + 1) k deep other = (↑k, other) := by rw [endGo, if_neg (by rw [h]; decide), if_neg (by omega), if_pos ⟨h, hd⟩]
theorem endGo_end2 (h : f k = 11) (hd : ¬ deep = 0) : endGo f a (j + 1) k deep other = endGo f a j (k + 1) (deep - 1) other := by rw [endGo, if_neg (by rw [h]; decide), if_neg (by omega), if_neg (by omega), if_pos h]
theorem endGo_plain (h : opensB (f k) = false) (h5 : ¬ f k = 5) (h11 : ¬ f k = 11) : endGo f a (j + 1) k deep other = endGo f a j (k + 1) deep other := by rw [endGo, if_neg (by rw [h]; decide), if_neg (by omega), if_neg (by omega), if_neg h11]
end
def endSt (L : List D) (a k : Nat) (deep other : Int) : St := ⟨[(0, .d (.list L)), (1, .d (.int .i64 a)), (6, .d (.int .i64 deep)), (7, .d (.int .i64 other)), (8, .d (.int .i64 k))], []⟩
def endJ (r : Int × Int) (y : Ex) (s : St) : Prop := (y = .exit 0 ∧ r = (-1, -1) ∧ s = ⟨[], []⟩) ∨ (y = .ret ∧ s = ⟨[(4, .d (.int .i64 r.1)), (5, .d (.int .i64 r.2))], []⟩)
structure EndS where
  j : Nat
  k : Nat
  deep : Int
  other : Int
theorem rEnd_ev (fu n : Nat) (l : List TInstr) (a : Nat) (ha : a < l.length) (hf : l.length < fu) (hs : l.length < 100000) :
    evF (G fu) (n+2) 81 [.d (.list (l.map TInstr.d)), .d (.int .i64 a)] [] = some (.tup [.d (.int .i64 (endF l a).1), .d (.int .i64 (endF l a).2)], []) := by
  have W0 := wrap_i64 (show -9223372036854775808 ≤ (a : Int) + 1 by omega) (by omega)
  have haI : (a : Int) < l.length := by omega
  have hga : (l.map TInstr.d)[a]? = some (l.getD a in0).d := getD_map ha
  obtain ⟨f, hfn⟩ : ∃ f, f = opAt l := ⟨_, rfl⟩
  have hfa : (l.getD a in0).op = f a := by rw [hfn]
  unfold endF
  rw [← hfn]
  rw [evF.eq_2, evX.eq_def, Gext, exts_no _ (f := 81) (by decide), GP, Tryd.func81]; simp only [Tryd.f81, evB]
  simp only [go_sem, Nat.reduceAdd, Nat.reduceMul, Nat.reduceSub, Nat.reduceLT, Nat.reduceLeDiff, Nat.reduceEqDiff, Nat.reduceBEq, Nat.reduceBeqDiff, Int.reduceEq, Int.reduceLT, Int.reduceLE, Int.reduceToNat, Int.reduceNeg, Int.reduceAdd, Int.reduceSub, Int.reduceMul, reduceIte, reduceCtorEq, Nat.reducePow, Nat.reduceDiv, Nat.reduceMod, Int.reduceBEq, W0]
  generalize hr : loopN _ _ _ _ _ = r
  obtain ⟨y, s1, rfl, hy, hJ⟩ : ∃ y s1, r = some (y, s1) ∧ leaves y ∧ endJ (endGo f a (l.length - (a + 1)) (a + 1) 0 (-1)) y s1 := by
    rw [← hr]
    clear hr r
    refine loop_rel (σ := EndS) (fun e s => e.k + e.j = l.length ∧ -(e.k : Int) ≤ e.deep ∧ e.deep ≤ e.k ∧ s = endSt (l.map TInstr.d) a e.k e.deep e.other)
      (fun e y s1 => endJ (endGo f a e.j e.k e.deep e.other) y s1) (fun e => e.j) ?_ fu ⟨l.length - (a + 1), a + 1, 0, -1⟩ _ (by show l.length - (a + 1) < fu; omega) ⟨by show a + 1 + (l.length - (a + 1)) = _; omega, by show -((a + 1 : Nat) : Int) ≤ 0; omega, by show (0 : Int) ≤ ((a + 1 : Nat) : Int); omega, rfl⟩
    rintro ⟨j, k, deep, other⟩ s ⟨h1, h2, h3, rfl⟩
    simp only at h1 h2 h3
    unfold endSt
    cases j with
    | zero =>
      have hk : ¬ (k : Int) < l.length := by omega
      simp only [go_sem, Nat.reduceAdd, Nat.reduceMul, Nat.reduceSub, Nat.reduceLT, Nat.reduceLeDiff, Nat.reduceEqDiff, Nat.reduceBEq, Nat.reduceBeqDiff, Int.reduceEq, Int.reduceLT, Int.reduceLE, Int.reduceToNat, Int.reduceNeg, Int.reduceAdd, Int.reduceSub, Int.reduceMul, reduceIte, reduceCtorEq, Nat.reducePow, Nat.reduceDiv, Nat.reduceMod, Int.reduceBEq, List.length_map, hk]
      exact ⟨_, _, rfl, .inl ⟨rfl, rfl, rfl⟩⟩
    | succ j =>
      have hkl : k < l.length := by omega
      have hk : (k : Int) < l.length := by omega
      have hg : (l.map TInstr.d)[k]? = some (l.getD k in0).d := getD_map hkl
      have q := rOpens_ev fu n (l.getD k in0)
      have hfk : (l.getD k in0).op = f k := by rw [hfn]
      have Wk := wrap_i64 (show -9223372036854775808 ≤ (k : Int) + 1 by omega) (by omega)
      have W1 := wrap_i64 (show -9223372036854775808 ≤ deep + 1 by omega) (by omega)
      have W2 := wrap_i64 (show -9223372036854775808 ≤ deep - 1 by omega) (by omega)
      have go : ∀ (d' o' : Int) (he : endGo f a (j + 1) k deep other = endGo f a j (k + 1) d' o') (hd0 : -((k + 1 : Nat) : Int) ≤ d') (hd1 : d' ≤ ((k + 1 : Nat) : Int)), ∃ x s1, some (Ex.normal, endSt (l.map TInstr.d) a (k + 1) d' o') = some (x, s1) ∧ match x with
          | .normal => ∃ e' : EndS, (e'.k + e'.j = l.length ∧ -(e'.k : Int) ≤ e'.deep ∧ e'.deep ≤ e'.k ∧ s1 = endSt (l.map TInstr.d) a e'.k e'.deep e'.other) ∧ e'.j < j + 1 ∧ ∀ (y : Ex) (s : St), endJ (endGo f a e'.j e'.k e'.deep e'.other) y s → endJ (endGo f a (j + 1) k deep other) y s
          | x => endJ (endGo f a (j + 1) k deep other) x s1 :=
        fun d' o' he hd0 hd1 => ⟨.normal, _, rfl, ⟨j, k + 1, d', o'⟩, ⟨by show k + 1 + j = _; omega, hd0, hd1, rfl⟩, by show j < j + 1; omega, fun y s h => by rw [he]; exact h⟩
      have bad : ∀ (r1 r2 : Int) (he : endGo f a (j + 1) k deep other = (r1, r2)), ∃ x s1, some (Ex.ret, (⟨[(4, .d (.int .i64 r1)), (5, .d (.int .i64 r2))], []⟩ : St)) = some (x, s1) ∧ match x with
          | .normal => ∃ e' : EndS, (e'.k + e'.j = l.length ∧ -(e'.k : Int) ≤ e'.deep ∧ e'.deep ≤ e'.k ∧ s1 = endSt (l.map TInstr.d) a e'.k e'.deep e'.other) ∧ e'.j < j + 1 ∧ ∀ (y : Ex) (s : St), endJ (endGo f a e'.j e'.k e'.deep e'.other) y s → endJ (endGo f a (j + 1) k deep other) y s
          | x => endJ (endGo f a (j + 1) k deep other) x s1 :=
        fun r1 r2 he => ⟨.ret, _, rfl, .inr ⟨rfl, by rw [he]⟩⟩
      unfold endSt at go
      simp only [TInstr.d] at q hg hga
      rw [hfk] at q hg
      rw [hfa] at hga
      generalize hop : f k = op at *
      generalize hoa : f a = oa at *
      by_cases c0 : opensB op = true
      · rw [c0] at q
        simp only [go_sem, Nat.reduceAdd, Nat.reduceMul, Nat.reduceSub, Nat.reduceLT, Nat.reduceLeDiff, Nat.reduceEqDiff, Nat.reduceBEq, Nat.reduceBeqDiff, Int.reduceEq, Int.reduceLT, Int.reduceLE, Int.reduceToNat, Int.reduceNeg, Int.reduceAdd, Int.reduceSub, Int.reduceMul, reduceIte, reduceCtorEq, Nat.reducePow, Nat.reduceDiv, Nat.reduceMod, Int.reduceBEq, List.length_map, hk, idx, hg, q, Wk, W1]
        exact go _ _ (endGo_open (by rw [hop]; exact c0)) (by omega) (by omega)
      · have c0' : opensB op = false := by simpa using c0
        rw [c0'] at q
        by_cases c5 : op = 5
        · subst c5
          by_cases d0 : deep = 0
          · subst d0
            by_cases o0 : 0 ≤ other
            · simp only [go_sem, Nat.reduceAdd, Nat.reduceMul, Nat.reduceSub, Nat.reduceLT, Nat.reduceLeDiff, Nat.reduceEqDiff, Nat.reduceBEq, Nat.reduceBeqDiff, Int.reduceEq, Int.reduceLT, Int.reduceLE, Int.reduceToNat, Int.reduceNeg, Int.reduceAdd, Int.reduceSub, Int.reduceMul, reduceIte, reduceCtorEq, Nat.reducePow, Nat.reduceDiv, Nat.reduceMod, Int.reduceBEq, List.length_map, hk, haI, idx, hg, hga, q, o0]
              exact bad _ _ (endGo_twice hop rfl (.inl o0))
            · by_cases a4 : oa = 4
              · subst a4
                simp only [go_sem, Nat.reduceAdd, Nat.reduceMul, Nat.reduceSub, Nat.reduceLT, Nat.reduceLeDiff, Nat.reduceEqDiff, Nat.reduceBEq, Nat.reduceBeqDiff, Int.reduceEq, Int.reduceLT, Int.reduceLE, Int.reduceToNat, Int.reduceNeg, Int.reduceAdd, Int.reduceSub, Int.reduceMul, reduceIte, reduceCtorEq, Nat.reducePow, Nat.reduceDiv, Nat.reduceMod, Int.reduceBEq, List.length_map, hk, haI, idx, hg, hga, q, o0, Wk]
                exact go _ _ (endGo_else hop rfl o0 hoa) (by omega) (by omega)
              · simp only [go_sem, Nat.reduceAdd, Nat.reduceMul, Nat.reduceSub, Nat.reduceLT, Nat.reduceLeDiff, Nat.reduceEqDiff, Nat.reduceBEq, Nat.reduceBeqDiff, Int.reduceEq, Int.reduceLT, Int.reduceLE, Int.reduceToNat, Int.reduceNeg, Int.reduceAdd, Int.reduceSub, Int.reduceMul, reduceIte, reduceCtorEq, Nat.reducePow, Nat.reduceDiv, Nat.reduceMod, Int.reduceBEq, List.length_map, hk, haI, idx, hg, hga, q, o0, a4]
                exact bad _ _ (endGo_twice hop rfl (.inr (by rw [hoa]; exact a4)))
          · simp only [go_sem, Nat.reduceAdd, Nat.reduceMul, Nat.reduceSub, Nat.reduceLT, Nat.reduceLeDiff, Nat.reduceEqDiff, Nat.reduceBEq, Nat.reduceBeqDiff, Int.reduceEq, Int.reduceLT, Int.reduceLE, Int.reduceToNat, Int.reduceNeg, Int.reduceAdd, Int.reduceSub, Int.reduceMul, reduceIte, reduceCtorEq, Nat.reducePow, Nat.reduceDiv, Nat.reduceMod, Int.reduceBEq, List.length_map, hk, haI, idx, hg, hga, q, d0, Wk]
            exact go _ _ (endGo_else2 hop d0) (by omega) (by omega)
        · by_cases c11 : op = 11
          · subst c11
            by_cases d0 : deep = 0
            · subst d0
              simp only [go_sem, Nat.reduceAdd, Nat.reduceMul, Nat.reduceSub, Nat.reduceLT, Nat.reduceLeDiff, Nat.reduceEqDiff, Nat.reduceBEq, Nat.reduceBeqDiff, Int.reduceEq, Int.reduceLT, Int.reduceLE, Int.reduceToNat, Int.reduceNeg, Int.reduceAdd, Int.reduceSub, Int.reduceMul, reduceIte, reduceCtorEq, Nat.reducePow, Nat.reduceDiv, Nat.reduceMod, Int.reduceBEq, List.length_map, hk, haI, idx, hg, hga, q]
              exact bad _ _ (endGo_end hop rfl)
            · simp only [go_sem, Nat.reduceAdd, Nat.reduceMul, Nat.reduceSub, Nat.reduceLT, Nat.reduceLeDiff, Nat.reduceEqDiff, Nat.reduceBEq, Nat.reduceBeqDiff, Int.reduceEq, Int.reduceLT, Int.reduceLE, Int.reduceToNat, Int.reduceNeg, Int.reduceAdd, Int.reduceSub, Int.reduceMul, reduceIte, reduceCtorEq, Nat.reducePow, Nat.reduceDiv, Nat.reduceMod, Int.reduceBEq, List.length_map, hk, haI, idx, hg, hga, q, d0, Wk, W2]
              exact go _ _ (endGo_end2 hop d0) (by omega) (by omega)
          · simp only [go_sem, Nat.reduceAdd, Nat.reduceMul, Nat.reduceSub, Nat.reduceLT, Nat.reduceLeDiff, Nat.reduceEqDiff, Nat.reduceBEq, Nat.reduceBeqDiff, Int.reduceEq, Int.reduceLT, Int.reduceLE, Int.reduceToNat, Int.reduceNeg, Int.reduceAdd, Int.reduceSub, Int.reduceMul, reduceIte, reduceCtorEq, Nat.reducePow, Nat.reduceDiv, Nat.reduceMod, Int.reduceBEq, List.length_map, hk, haI, idx, hg, hga, q, c5, c11, Wk]
            exact go _ _ (endGo_plain (by rw [hop]; exact c0') (by rw [hop]; exact c5) (by rw [hop]; exact c11)) (by omega) (by omega)
  generalize endGo f a (l.length - (a + 1)) (a + 1) 0 (-1) = r at *
  rcases hJ with ⟨rfl, rfl, rfl⟩ | ⟨rfl, rfl⟩
  · simp only [go_sem, Nat.reduceAdd, Nat.reduceMul, Nat.reduceSub, Nat.reduceLT, Nat.reduceLeDiff, Nat.reduceEqDiff, Nat.reduceBEq, Nat.reduceBeqDiff, Int.reduceEq, Int.reduceLT, Int.reduceLE, Int.reduceToNat, Int.reduceNeg, Int.reduceAdd, Int.reduceSub, Int.reduceMul, reduceIte, reduceCtorEq, Nat.reducePow, Nat.reduceDiv, Nat.reduceMod, Int.reduceBEq]
  · simp only [go_sem, Nat.reduceAdd, Nat.reduceMul, Nat.reduceSub, Nat.reduceLT, Nat.reduceLeDiff, Nat.reduceEqDiff, Nat.reduceBEq, Nat.reduceBeqDiff, Int.reduceEq, Int.reduceLT, Int.reduceLE, Int.reduceToNat, Int.reduceNeg, Int.reduceAdd, Int.reduceSub, Int.reduceMul, reduceIte, reduceCtorEq, Nat.reducePow, Nat.reduceDiv, Nat.reduceMod, Int.reduceBEq]
end Go.Proofs.YtklnkkejkeelaaaDoor.E
