/- The reading of the document's instr (avocetref05.Same, Sane). -/
import Derived.Test.YtklnkkejkeelaaaDoorM4
import Derived.Test.YtklnkkejkeelaaaDoorM5
import Derived.Test.YtklnkkejkeelaaaDoorL6
import Derived.Test.YtklnkkejkeelaaaDoorF8
import Derived.Test.YtklnkkejkeelaaaDoorEvD
set_option linter.unnecessarySimpa false
set_option linter.unusedSimpArgs false
set_option linter.unusedVariables false
set_option autoImplicit false
set_option maxRecDepth 100000
set_option maxHeartbeats 4000000
set_option linter.unusedSimpArgs false
set_option linter.unusedVariables false
set_option pp.maxSteps 20000
namespace Go.Proofs.YtklnkkejkeelaaaDoor.E
open Go.Ev
theorem rSame_ev (fu n : Nat) (x y : TInstr) (h : x.labels.length < fu) (hs : x.labels.length < 1000000) : evF (G fu) (n+1) 33 [.d x.d, .d y.d] [] = some (.d (.bool (decide (x = y))), []) := by
  obtain ⟨op, a, b, k, l⟩ := x
  obtain ⟨op', a', b', k', l'⟩ := y
  simp only at h hs
  have hd : decide ((⟨op, a, b, k, l⟩ : TInstr) = ⟨op', a', b', k', l'⟩) = decide (op = op' ∧ a = a' ∧ b = b' ∧ k = k' ∧ l = l') := decide_eq_decide.2 (TInstr.ext_iff _ _).symm
  rw [hd]
  simp only [TInstr.d]
  rw [evF.eq_2, evX.eq_def, Gext, exts_no _ (f := 33) (by decide), GP, Tryd.func33]; simp only [Tryd.f33, evB]
  by_cases h1 : op = op'
  · by_cases h2 : a = a'
    · by_cases h3 : b = b'
      · by_cases h4 : k = k'
        · by_cases h5 : l.length = l'.length
          · simp only [go_sem, Nat.reduceAdd, Nat.reduceMul, Nat.reduceSub, Nat.reduceLT, Nat.reduceLeDiff, Nat.reduceEqDiff, Nat.reduceBEq, Nat.reduceBeqDiff, Int.reduceEq, Int.reduceLT, Int.reduceLE, Int.reduceToNat, Int.reduceNeg, Int.reduceAdd, Int.reduceSub, Int.reduceMul, reduceIte, reduceCtorEq, Nat.reducePow, Nat.reduceDiv, Nat.reduceMod, Int.reduceBEq, h1, h2, h3, h4, List.length_map, h5]
            rw [loop_scan l'.length (fun i => ⟨[(2, .ptr 192 0), (3, .ptr 256 0), (5, .d (.int .i64 i))], [(192, .cells [.d (.int .i64 op'), .d (.int .i64 a'), .d (.int .i64 b'), .d (.int .u64 k'), .d (.list (l.map (D.int .i64)))]), (256, .cells [.d (.int .i64 op'), .d (.int .i64 a'), .d (.int .i64 b'), .d (.int .u64 k'), .d (.list (l'.map (D.int .i64)))])]⟩) (fun i => decide (l.getD i 0 ≠ l'.getD i 0)) (fun i => (.ret, ⟨[(4, V.d (D.bool false))], []⟩)) (.exit 0, ⟨[], []⟩) (by omega) (fun _ => trivial) trivial ?_]
            case hs =>
              intro i hi
              simp only [go_sem, Nat.reduceAdd, Nat.reduceMul, Nat.reduceSub, Nat.reduceLT, Nat.reduceLeDiff, Nat.reduceEqDiff, Nat.reduceBEq, Nat.reduceBeqDiff, Int.reduceEq, Int.reduceLT, Int.reduceLE, Int.reduceToNat, Int.reduceNeg, Int.reduceAdd, Int.reduceSub, Int.reduceMul, reduceIte, reduceCtorEq, Nat.reducePow, Nat.reduceDiv, Nat.reduceMod, Int.reduceBEq, List.length_map, h5, Int.ofNat_lt, hi, idx, getD_map (f := D.int .i64) (d := 0) (show i < l.length by omega), getD_map (f := D.int .i64) (d := 0) hi]
              by_cases hb : l.getD i 0 = l'.getD i 0 <;> simp only [go_sem, Nat.reduceAdd, Nat.reduceMul, Nat.reduceSub, Nat.reduceLT, Nat.reduceLeDiff, Nat.reduceEqDiff, Nat.reduceBEq, Nat.reduceBeqDiff, Int.reduceEq, Int.reduceLT, Int.reduceLE, Int.reduceToNat, Int.reduceNeg, Int.reduceAdd, Int.reduceSub, Int.reduceMul, reduceIte, reduceCtorEq, Nat.reducePow, Nat.reduceDiv, Nat.reduceMod, Int.reduceBEq, hb, ne_eq, wrap_i64 (show -9223372036854775808 ≤ (i : Int) + 1 by omega) (by omega)] <;> rfl
            case he => simp only [go_sem, Nat.reduceAdd, Nat.reduceMul, Nat.reduceSub, Nat.reduceLT, Nat.reduceLeDiff, Nat.reduceEqDiff, Nat.reduceBEq, Nat.reduceBeqDiff, Int.reduceEq, Int.reduceLT, Int.reduceLE, Int.reduceToNat, Int.reduceNeg, Int.reduceAdd, Int.reduceSub, Int.reduceMul, reduceIte, reduceCtorEq, Nat.reducePow, Nat.reduceDiv, Nat.reduceMod, Int.reduceBEq, List.length_map, h5, Int.ofNat_lt, Nat.lt_irrefl]
            · unfold Go.Ev.scan
              have := lists_same (d := 0) h5
              rw [h5] at this
              cases hf : first (fun i => decide (l.getD i 0 ≠ l'.getD i 0)) 0 l'.length with
              | none => simp only [go_sem, Nat.reduceAdd, Nat.reduceMul, Nat.reduceSub, Nat.reduceLT, Nat.reduceLeDiff, Nat.reduceEqDiff, Nat.reduceBEq, Nat.reduceBeqDiff, Int.reduceEq, Int.reduceLT, Int.reduceLE, Int.reduceToNat, Int.reduceNeg, Int.reduceAdd, Int.reduceSub, Int.reduceMul, reduceIte, reduceCtorEq, Nat.reducePow, Nat.reduceDiv, Nat.reduceMod, Int.reduceBEq, this.1 hf]
              | some i =>
                have hne : ¬ l = l' := fun e => by rw [this.2 e] at hf; cases hf
                simp only [go_sem, Nat.reduceAdd, Nat.reduceMul, Nat.reduceSub, Nat.reduceLT, Nat.reduceLeDiff, Nat.reduceEqDiff, Nat.reduceBEq, Nat.reduceBeqDiff, Int.reduceEq, Int.reduceLT, Int.reduceLE, Int.reduceToNat, Int.reduceNeg, Int.reduceAdd, Int.reduceSub, Int.reduceMul, reduceIte, reduceCtorEq, Nat.reducePow, Nat.reduceDiv, Nat.reduceMod, Int.reduceBEq, hne]
            · rfl
          · have hne : ¬ l = l' := fun e => h5 (by rw [e])
            have hl2 : ¬ ((l.length : Int) = l'.length) := by omega
            simp only [go_sem, Nat.reduceAdd, Nat.reduceMul, Nat.reduceSub, Nat.reduceLT, Nat.reduceLeDiff, Nat.reduceEqDiff, Nat.reduceBEq, Nat.reduceBeqDiff, Int.reduceEq, Int.reduceLT, Int.reduceLE, Int.reduceToNat, Int.reduceNeg, Int.reduceAdd, Int.reduceSub, Int.reduceMul, reduceIte, reduceCtorEq, Nat.reducePow, Nat.reduceDiv, Nat.reduceMod, Int.reduceBEq, h1, h2, h3, h4, List.length_map, hl2, hne]
        · simp only [go_sem, Nat.reduceAdd, Nat.reduceMul, Nat.reduceSub, Nat.reduceLT, Nat.reduceLeDiff, Nat.reduceEqDiff, Nat.reduceBEq, Nat.reduceBeqDiff, Int.reduceEq, Int.reduceLT, Int.reduceLE, Int.reduceToNat, Int.reduceNeg, Int.reduceAdd, Int.reduceSub, Int.reduceMul, reduceIte, reduceCtorEq, Nat.reducePow, Nat.reduceDiv, Nat.reduceMod, Int.reduceBEq, h1, h2, h3, h4]
      · simp only [go_sem, Nat.reduceAdd, Nat.reduceMul, Nat.reduceSub, Nat.reduceLT, Nat.reduceLeDiff, Nat.reduceEqDiff, Nat.reduceBEq, Nat.reduceBeqDiff, Int.reduceEq, Int.reduceLT, Int.reduceLE, Int.reduceToNat, Int.reduceNeg, Int.reduceAdd, Int.reduceSub, Int.reduceMul, reduceIte, reduceCtorEq, Nat.reducePow, Nat.reduceDiv, Nat.reduceMod, Int.reduceBEq, h1, h2, h3]
    · simp only [go_sem, Nat.reduceAdd, Nat.reduceMul, Nat.reduceSub, Nat.reduceLT, Nat.reduceLeDiff, Nat.reduceEqDiff, Nat.reduceBEq, Nat.reduceBeqDiff, Int.reduceEq, Int.reduceLT, Int.reduceLE, Int.reduceToNat, Int.reduceNeg, Int.reduceAdd, Int.reduceSub, Int.reduceMul, reduceIte, reduceCtorEq, Nat.reducePow, Nat.reduceDiv, Nat.reduceMod, Int.reduceBEq, h1, h2]
  · simp only [go_sem, Nat.reduceAdd, Nat.reduceMul, Nat.reduceSub, Nat.reduceLT, Nat.reduceLeDiff, Nat.reduceEqDiff, Nat.reduceBEq, Nat.reduceBeqDiff, Int.reduceEq, Int.reduceLT, Int.reduceLE, Int.reduceToNat, Int.reduceNeg, Int.reduceAdd, Int.reduceSub, Int.reduceMul, reduceIte, reduceCtorEq, Nat.reducePow, Nat.reduceDiv, Nat.reduceMod, Int.reduceBEq, h1]
/-- As the document has it. -/
def rSaneF (i : TInstr) : Bool :=
  let u := numB i.a && i.labels.all numB
  if (kindF i.op ≠ 4 ∧ 0 < i.labels.length) ∨ (kindF i.op ≠ 6 ∧ i.b ≠ 0) ∨ (kindF i.op ≠ 8 ∧ kindF i.op ≠ 9 ∧ i.k ≠ 0) then false
  else if kindF i.op = 1 ∨ kindF i.op = 7 ∨ kindF i.op = 9 then decide (i.a = 0)
  else if kindF i.op = 2 then decide (i.a = 0 ∨ i.a = 126 ∨ i.a = 127)
  else if kindF i.op = 3 ∨ kindF i.op = 5 then u
  else if kindF i.op = 4 then u && decide (i.labels.length ≤ 64)
  else if kindF i.op = 6 then u && numB i.b
  else if kindF i.op = 8 then decide (i.a = 0 ∧ i.k < 4294967296) else false
theorem rSane_same (i : TInstr) : rSaneF i = saneF i := by
  rw [Bool.eq_iff_iff, saneF_iff]
  unfold rSaneF San
  have hall : i.labels.all numB = true ↔ ∀ x ∈ i.labels, Num x := by
    rw [List.all_eq_true]
    exact ⟨fun h x hx => (numB_iff x).1 (h x hx), fun h x hx => (numB_iff x).2 (h x hx)⟩
  have hnil : i.labels = [] ↔ ¬ 0 < i.labels.length := by cases i.labels <;> simp
  have hN : ∀ x, Num x ↔ (0 ≤ x ∧ x ≤ 4294967295) := fun x => Iff.rfl
  have hall0 : i.labels = [] → i.labels.all numB = true := fun h => by rw [h]; rfl
  have e := kd_in i.op
  rcases e with e | e | e | e | e | e | e | e | e | e <;> simp [e, numB_iff, hall, hN] <;> grind
theorem rSane_ev (fu n : Nat) (i : TInstr) (hfu : i.labels.length < fu) (hs : i.labels.length < 1000000) : evF (G fu) (n+4) 34 [.d i.d] [] = some (.d (.bool (saneF i)), []) := by
  rw [← rSane_same]
  obtain ⟨op, a, b, k, ls⟩ := i
  simp only at hfu hs
  have hkk := rKind_ev fu n op
  have hkd := kd_in op
  have hRu : rSaneF ⟨op, a, b, k, ls⟩ = (let kk := kindF op
      let u := numB a && ls.all numB
      if (kk ≠ 4 ∧ 0 < ls.length) ∨ (kk ≠ 6 ∧ b ≠ 0) ∨ (kk ≠ 8 ∧ kk ≠ 9 ∧ k ≠ 0) then false
      else if kk = 1 ∨ kk = 7 ∨ kk = 9 then decide (a = 0)
      else if kk = 2 then decide (a = 0 ∨ a = 126 ∨ a = 127)
      else if kk = 3 ∨ kk = 5 then u
      else if kk = 4 then u && decide (ls.length ≤ 64)
      else if kk = 6 then u && numB b
      else if kk = 8 then decide (a = 0 ∧ k < 4294967296) else false) := rfl
  rw [hRu]
  simp only [TInstr.d]
  generalize kindF op = kk at *
  rw [evF.eq_2, evX.eq_def, Gext, exts_no _ (f := 34) (by decide), GP, Tryd.func34]; simp only [Tryd.f34, evB]
  simp only [go_sem, Nat.reduceAdd, Nat.reduceMul, Nat.reduceSub, Nat.reduceLT, Nat.reduceLeDiff, Nat.reduceEqDiff, Nat.reduceBEq, Nat.reduceBeqDiff, Int.reduceEq, Int.reduceLT, Int.reduceLE, Int.reduceToNat, Int.reduceNeg, Int.reduceAdd, Int.reduceSub, Int.reduceMul, reduceIte, reduceCtorEq, Nat.reducePow, Nat.reduceDiv, Nat.reduceMod, Int.reduceBEq, hkk]
  generalize hX : dropE _ _ = X
  obtain rfl : X = some (.normal, ⟨[(1, .ptr 128 0), (3, .d (.int .i64 kk)), (4, .d (.bool (numB a)))], [(128, .cells [.d (.int .i64 op), .d (.int .i64 a), .d (.int .i64 b), .d (.int .u64 k), .d (.list (ls.map (D.int .i64)))])]⟩) := by
    rw [← hX]
    by_cases a0 : 0 ≤ a <;> by_cases a1 : a ≤ 4294967295 <;> simp only [go_sem, Nat.reduceAdd, Nat.reduceMul, Nat.reduceSub, Nat.reduceLT, Nat.reduceLeDiff, Nat.reduceEqDiff, Nat.reduceBEq, Nat.reduceBeqDiff, Int.reduceEq, Int.reduceLT, Int.reduceLE, Int.reduceToNat, Int.reduceNeg, Int.reduceAdd, Int.reduceSub, Int.reduceMul, reduceIte, reduceCtorEq, Nat.reducePow, Nat.reduceDiv, Nat.reduceMod, Int.reduceBEq, numB, a0, a1]
  clear hX
  simp only [go_sem, Nat.reduceAdd, Nat.reduceMul, Nat.reduceSub, Nat.reduceLT, Nat.reduceLeDiff, Nat.reduceEqDiff, Nat.reduceBEq, Nat.reduceBeqDiff, Int.reduceEq, Int.reduceLT, Int.reduceLE, Int.reduceToNat, Int.reduceNeg, Int.reduceAdd, Int.reduceSub, Int.reduceMul, reduceIte, reduceCtorEq, Nat.reducePow, Nat.reduceDiv, Nat.reduceMod, Int.reduceBEq]
  generalize hX : dropE _ _ = X
  obtain rfl : X = some (.normal, ⟨[(1, .ptr 128 0), (3, .d (.int .i64 kk)), (4, .d (.bool (numB a))), (46, .d (.bool (decide ((kk ≠ 4 ∧ 0 < ls.length) ∨ (kk ≠ 6 ∧ b ≠ 0) ∨ (kk ≠ 8 ∧ kk ≠ 9 ∧ k ≠ 0)))))], [(128, .cells [.d (.int .i64 op), .d (.int .i64 a), .d (.int .i64 b), .d (.int .u64 k), .d (.list (ls.map (D.int .i64)))])]⟩) := by
    rw [← hX]
    have hl : (0 : Int) < ls.length ↔ 0 < ls.length := by omega
    by_cases q4 : kk = 4
    · simp only [go_sem, Nat.reduceAdd, Nat.reduceMul, Nat.reduceSub, Nat.reduceLT, Nat.reduceLeDiff, Nat.reduceEqDiff, Nat.reduceBEq, Nat.reduceBeqDiff, Int.reduceEq, Int.reduceLT, Int.reduceLE, Int.reduceToNat, Int.reduceNeg, Int.reduceAdd, Int.reduceSub, Int.reduceMul, reduceIte, reduceCtorEq, Nat.reducePow, Nat.reduceDiv, Nat.reduceMod, Int.reduceBEq, List.length_map, q4, ne_eq]
      by_cases qb : b = 0
      · by_cases qk : k = 0 <;> simp only [go_sem, Nat.reduceAdd, Nat.reduceMul, Nat.reduceSub, Nat.reduceLT, Nat.reduceLeDiff, Nat.reduceEqDiff, Nat.reduceBEq, Nat.reduceBeqDiff, Int.reduceEq, Int.reduceLT, Int.reduceLE, Int.reduceToNat, Int.reduceNeg, Int.reduceAdd, Int.reduceSub, Int.reduceMul, reduceIte, reduceCtorEq, Nat.reducePow, Nat.reduceDiv, Nat.reduceMod, Int.reduceBEq, List.length_map, qb, qk]
      · simp only [go_sem, Nat.reduceAdd, Nat.reduceMul, Nat.reduceSub, Nat.reduceLT, Nat.reduceLeDiff, Nat.reduceEqDiff, Nat.reduceBEq, Nat.reduceBeqDiff, Int.reduceEq, Int.reduceLT, Int.reduceLE, Int.reduceToNat, Int.reduceNeg, Int.reduceAdd, Int.reduceSub, Int.reduceMul, reduceIte, reduceCtorEq, Nat.reducePow, Nat.reduceDiv, Nat.reduceMod, Int.reduceBEq, List.length_map, qb]
    · by_cases ql : 0 < ls.length
      · simp only [go_sem, Nat.reduceAdd, Nat.reduceMul, Nat.reduceSub, Nat.reduceLT, Nat.reduceLeDiff, Nat.reduceEqDiff, Nat.reduceBEq, Nat.reduceBeqDiff, Int.reduceEq, Int.reduceLT, Int.reduceLE, Int.reduceToNat, Int.reduceNeg, Int.reduceAdd, Int.reduceSub, Int.reduceMul, reduceIte, reduceCtorEq, Nat.reducePow, Nat.reduceDiv, Nat.reduceMod, Int.reduceBEq, List.length_map, q4, hl, ql, ne_eq]
      · by_cases q6 : kk = 6
        · by_cases qk : k = 0 <;> simp only [go_sem, Nat.reduceAdd, Nat.reduceMul, Nat.reduceSub, Nat.reduceLT, Nat.reduceLeDiff, Nat.reduceEqDiff, Nat.reduceBEq, Nat.reduceBeqDiff, Int.reduceEq, Int.reduceLT, Int.reduceLE, Int.reduceToNat, Int.reduceNeg, Int.reduceAdd, Int.reduceSub, Int.reduceMul, reduceIte, reduceCtorEq, Nat.reducePow, Nat.reduceDiv, Nat.reduceMod, Int.reduceBEq, List.length_map, hl, ql, q6, qk, ne_eq]
        · by_cases qb : b = 0
          · by_cases q8 : kk = 8
            · simp only [go_sem, Nat.reduceAdd, Nat.reduceMul, Nat.reduceSub, Nat.reduceLT, Nat.reduceLeDiff, Nat.reduceEqDiff, Nat.reduceBEq, Nat.reduceBeqDiff, Int.reduceEq, Int.reduceLT, Int.reduceLE, Int.reduceToNat, Int.reduceNeg, Int.reduceAdd, Int.reduceSub, Int.reduceMul, reduceIte, reduceCtorEq, Nat.reducePow, Nat.reduceDiv, Nat.reduceMod, Int.reduceBEq, List.length_map, hl, ql, qb, q8, ne_eq]
            · by_cases q9 : kk = 9
              · simp only [go_sem, Nat.reduceAdd, Nat.reduceMul, Nat.reduceSub, Nat.reduceLT, Nat.reduceLeDiff, Nat.reduceEqDiff, Nat.reduceBEq, Nat.reduceBeqDiff, Int.reduceEq, Int.reduceLT, Int.reduceLE, Int.reduceToNat, Int.reduceNeg, Int.reduceAdd, Int.reduceSub, Int.reduceMul, reduceIte, reduceCtorEq, Nat.reducePow, Nat.reduceDiv, Nat.reduceMod, Int.reduceBEq, List.length_map, hl, ql, qb, q9, ne_eq]
              · by_cases qk : k = 0 <;> simp only [go_sem, Nat.reduceAdd, Nat.reduceMul, Nat.reduceSub, Nat.reduceLT, Nat.reduceLeDiff, Nat.reduceEqDiff, Nat.reduceBEq, Nat.reduceBeqDiff, Int.reduceEq, Int.reduceLT, Int.reduceLE, Int.reduceToNat, Int.reduceNeg, Int.reduceAdd, Int.reduceSub, Int.reduceMul, reduceIte, reduceCtorEq, Nat.reducePow, Nat.reduceDiv, Nat.reduceMod, Int.reduceBEq, List.length_map, hl, ql, q4, q6, qb, q8, q9, qk, ne_eq]
          · simp only [go_sem, Nat.reduceAdd, Nat.reduceMul, Nat.reduceSub, Nat.reduceLT, Nat.reduceLeDiff, Nat.reduceEqDiff, Nat.reduceBEq, Nat.reduceBeqDiff, Int.reduceEq, Int.reduceLT, Int.reduceLE, Int.reduceToNat, Int.reduceNeg, Int.reduceAdd, Int.reduceSub, Int.reduceMul, reduceIte, reduceCtorEq, Nat.reducePow, Nat.reduceDiv, Nat.reduceMod, Int.reduceBEq, List.length_map, hl, ql, q4, q6, qb, ne_eq]
  clear hX
  by_cases hd : (kk ≠ 4 ∧ 0 < ls.length) ∨ (kk ≠ 6 ∧ b ≠ 0) ∨ (kk ≠ 8 ∧ kk ≠ 9 ∧ k ≠ 0)
  · simp only [go_sem, Nat.reduceAdd, Nat.reduceMul, Nat.reduceSub, Nat.reduceLT, Nat.reduceLeDiff, Nat.reduceEqDiff, Nat.reduceBEq, Nat.reduceBeqDiff, Int.reduceEq, Int.reduceLT, Int.reduceLE, Int.reduceToNat, Int.reduceNeg, Int.reduceAdd, Int.reduceSub, Int.reduceMul, reduceIte, reduceCtorEq, Nat.reducePow, Nat.reduceDiv, Nat.reduceMod, Int.reduceBEq, hd]
  · simp only [go_sem, Nat.reduceAdd, Nat.reduceMul, Nat.reduceSub, Nat.reduceLT, Nat.reduceLeDiff, Nat.reduceEqDiff, Nat.reduceBEq, Nat.reduceBeqDiff, Int.reduceEq, Int.reduceLT, Int.reduceLE, Int.reduceToNat, Int.reduceNeg, Int.reduceAdd, Int.reduceSub, Int.reduceMul, reduceIte, reduceCtorEq, Nat.reducePow, Nat.reduceDiv, Nat.reduceMod, Int.reduceBEq, hd, List.length_map]
    rw [loop_some ls.length (fun j => ⟨[(1, .ptr 128 0), (3, .d (.int .i64 kk)), (4, .d (.bool (numB a && (ls.take j).all numB))), (5, .d (.int .i64 j))], [(128, .cells [.d (.int .i64 op), .d (.int .i64 a), .d (.int .i64 b), .d (.int .u64 k), .d (.list (ls.map (D.int .i64)))])]⟩) (.exit 0, ⟨[(1, .ptr 128 0), (3, .d (.int .i64 kk)), (4, .d (.bool (numB a && ls.all numB)))], [(128, .cells [.d (.int .i64 op), .d (.int .i64 a), .d (.int .i64 b), .d (.int .u64 k), .d (.list (ls.map (D.int .i64)))])]⟩) trivial hfu ?_]
    case hs =>
      intro j hj
      have hjI : (j : Int) < ls.length := by omega
      have hx : (ls.map (D.int .i64))[j]? = some (.int .i64 (ls.getD j 0)) := getD_map hj
      have Wj := wrap_i64 (show -9223372036854775808 ≤ (j : Int) + 1 by omega) (by omega)
      have hT : (ls.take (j + 1)).all numB = ((ls.take j).all numB && numB (ls.getD j 0)) := by
        rw [List.take_add_one, List.all_append, List.getD_eq_getElem?_getD, List.getElem?_eq_getElem hj]
        simp
      rw [hT, ← Bool.and_assoc]
      generalize (numB a && (ls.take j).all numB) = u
      generalize ls.getD j 0 = v at *
      cases u with
      | false =>
        simp only [go_sem, Nat.reduceAdd, Nat.reduceMul, Nat.reduceSub, Nat.reduceLT, Nat.reduceLeDiff, Nat.reduceEqDiff, Nat.reduceBEq, Nat.reduceBeqDiff, Int.reduceEq, Int.reduceLT, Int.reduceLE, Int.reduceToNat, Int.reduceNeg, Int.reduceAdd, Int.reduceSub, Int.reduceMul, reduceIte, reduceCtorEq, Nat.reducePow, Nat.reduceDiv, Nat.reduceMod, Int.reduceBEq, List.length_map, hjI, Wj]
        rfl
      | true =>
        by_cases a0 : 0 ≤ v <;> by_cases a1 : v ≤ 4294967295 <;> simp only [go_sem, Nat.reduceAdd, Nat.reduceMul, Nat.reduceSub, Nat.reduceLT, Nat.reduceLeDiff, Nat.reduceEqDiff, Nat.reduceBEq, Nat.reduceBeqDiff, Int.reduceEq, Int.reduceLT, Int.reduceLE, Int.reduceToNat, Int.reduceNeg, Int.reduceAdd, Int.reduceSub, Int.reduceMul, reduceIte, reduceCtorEq, Nat.reducePow, Nat.reduceDiv, Nat.reduceMod, Int.reduceBEq, List.length_map, hjI, idx, hx, numB, a0, a1, Wj] <;> rfl
    case he => simp only [go_sem, Nat.reduceAdd, Nat.reduceMul, Nat.reduceSub, Nat.reduceLT, Nat.reduceLeDiff, Nat.reduceEqDiff, Nat.reduceBEq, Nat.reduceBeqDiff, Int.reduceEq, Int.reduceLT, Int.reduceLE, Int.reduceToNat, Int.reduceNeg, Int.reduceAdd, Int.reduceSub, Int.reduceMul, reduceIte, reduceCtorEq, Nat.reducePow, Nat.reduceDiv, Nat.reduceMod, Int.reduceBEq, List.length_map, Int.lt_irrefl, List.take_length]
    · generalize (numB a && ls.all numB) = u
      rcases hkd with rfl | rfl | rfl | rfl | rfl | rfl | rfl | rfl | rfl | rfl
      · simp only [go_sem, Nat.reduceAdd, Nat.reduceMul, Nat.reduceSub, Nat.reduceLT, Nat.reduceLeDiff, Nat.reduceEqDiff, Nat.reduceBEq, Nat.reduceBeqDiff, Int.reduceEq, Int.reduceLT, Int.reduceLE, Int.reduceToNat, Int.reduceNeg, Int.reduceAdd, Int.reduceSub, Int.reduceMul, reduceIte, reduceCtorEq, Nat.reducePow, Nat.reduceDiv, Nat.reduceMod, Int.reduceBEq]
      · simp only [go_sem, Nat.reduceAdd, Nat.reduceMul, Nat.reduceSub, Nat.reduceLT, Nat.reduceLeDiff, Nat.reduceEqDiff, Nat.reduceBEq, Nat.reduceBeqDiff, Int.reduceEq, Int.reduceLT, Int.reduceLE, Int.reduceToNat, Int.reduceNeg, Int.reduceAdd, Int.reduceSub, Int.reduceMul, reduceIte, reduceCtorEq, Nat.reducePow, Nat.reduceDiv, Nat.reduceMod, Int.reduceBEq]
      · by_cases c0 : a = 0
        · simp only [go_sem, Nat.reduceAdd, Nat.reduceMul, Nat.reduceSub, Nat.reduceLT, Nat.reduceLeDiff, Nat.reduceEqDiff, Nat.reduceBEq, Nat.reduceBeqDiff, Int.reduceEq, Int.reduceLT, Int.reduceLE, Int.reduceToNat, Int.reduceNeg, Int.reduceAdd, Int.reduceSub, Int.reduceMul, reduceIte, reduceCtorEq, Nat.reducePow, Nat.reduceDiv, Nat.reduceMod, Int.reduceBEq, c0]
        · by_cases c1 : a = 126
          · simp only [go_sem, Nat.reduceAdd, Nat.reduceMul, Nat.reduceSub, Nat.reduceLT, Nat.reduceLeDiff, Nat.reduceEqDiff, Nat.reduceBEq, Nat.reduceBeqDiff, Int.reduceEq, Int.reduceLT, Int.reduceLE, Int.reduceToNat, Int.reduceNeg, Int.reduceAdd, Int.reduceSub, Int.reduceMul, reduceIte, reduceCtorEq, Nat.reducePow, Nat.reduceDiv, Nat.reduceMod, Int.reduceBEq, c1]
          · simp only [go_sem, Nat.reduceAdd, Nat.reduceMul, Nat.reduceSub, Nat.reduceLT, Nat.reduceLeDiff, Nat.reduceEqDiff, Nat.reduceBEq, Nat.reduceBeqDiff, Int.reduceEq, Int.reduceLT, Int.reduceLE, Int.reduceToNat, Int.reduceNeg, Int.reduceAdd, Int.reduceSub, Int.reduceMul, reduceIte, reduceCtorEq, Nat.reducePow, Nat.reduceDiv, Nat.reduceMod, Int.reduceBEq, c0, c1]
      · simp only [go_sem, Nat.reduceAdd, Nat.reduceMul, Nat.reduceSub, Nat.reduceLT, Nat.reduceLeDiff, Nat.reduceEqDiff, Nat.reduceBEq, Nat.reduceBeqDiff, Int.reduceEq, Int.reduceLT, Int.reduceLE, Int.reduceToNat, Int.reduceNeg, Int.reduceAdd, Int.reduceSub, Int.reduceMul, reduceIte, reduceCtorEq, Nat.reducePow, Nat.reduceDiv, Nat.reduceMod, Int.reduceBEq]
      · have hI : (ls.length : Int) ≤ 64 ↔ ls.length ≤ 64 := by omega
        cases u <;> simp only [go_sem, Nat.reduceAdd, Nat.reduceMul, Nat.reduceSub, Nat.reduceLT, Nat.reduceLeDiff, Nat.reduceEqDiff, Nat.reduceBEq, Nat.reduceBeqDiff, Int.reduceEq, Int.reduceLT, Int.reduceLE, Int.reduceToNat, Int.reduceNeg, Int.reduceAdd, Int.reduceSub, Int.reduceMul, reduceIte, reduceCtorEq, Nat.reducePow, Nat.reduceDiv, Nat.reduceMod, Int.reduceBEq, List.length_map, hI]
      · simp only [go_sem, Nat.reduceAdd, Nat.reduceMul, Nat.reduceSub, Nat.reduceLT, Nat.reduceLeDiff, Nat.reduceEqDiff, Nat.reduceBEq, Nat.reduceBeqDiff, Int.reduceEq, Int.reduceLT, Int.reduceLE, Int.reduceToNat, Int.reduceNeg, Int.reduceAdd, Int.reduceSub, Int.reduceMul, reduceIte, reduceCtorEq, Nat.reducePow, Nat.reduceDiv, Nat.reduceMod, Int.reduceBEq]
      · cases u with
        | false => simp only [go_sem, Nat.reduceAdd, Nat.reduceMul, Nat.reduceSub, Nat.reduceLT, Nat.reduceLeDiff, Nat.reduceEqDiff, Nat.reduceBEq, Nat.reduceBeqDiff, Int.reduceEq, Int.reduceLT, Int.reduceLE, Int.reduceToNat, Int.reduceNeg, Int.reduceAdd, Int.reduceSub, Int.reduceMul, reduceIte, reduceCtorEq, Nat.reducePow, Nat.reduceDiv, Nat.reduceMod, Int.reduceBEq]
        | true => by_cases a0 : 0 ≤ b <;> by_cases a1 : b ≤ 4294967295 <;> simp only [go_sem, Nat.reduceAdd, Nat.reduceMul, Nat.reduceSub, Nat.reduceLT, Nat.reduceLeDiff, Nat.reduceEqDiff, Nat.reduceBEq, Nat.reduceBeqDiff, Int.reduceEq, Int.reduceLT, Int.reduceLE, Int.reduceToNat, Int.reduceNeg, Int.reduceAdd, Int.reduceSub, Int.reduceMul, reduceIte, reduceCtorEq, Nat.reducePow, Nat.reduceDiv, Nat.reduceMod, Int.reduceBEq, numB, a0, a1]
      · simp only [go_sem, Nat.reduceAdd, Nat.reduceMul, Nat.reduceSub, Nat.reduceLT, Nat.reduceLeDiff, Nat.reduceEqDiff, Nat.reduceBEq, Nat.reduceBeqDiff, Int.reduceEq, Int.reduceLT, Int.reduceLE, Int.reduceToNat, Int.reduceNeg, Int.reduceAdd, Int.reduceSub, Int.reduceMul, reduceIte, reduceCtorEq, Nat.reducePow, Nat.reduceDiv, Nat.reduceMod, Int.reduceBEq]
      · by_cases c0 : a = 0 <;> simp only [go_sem, Nat.reduceAdd, Nat.reduceMul, Nat.reduceSub, Nat.reduceLT, Nat.reduceLeDiff, Nat.reduceEqDiff, Nat.reduceBEq, Nat.reduceBeqDiff, Int.reduceEq, Int.reduceLT, Int.reduceLE, Int.reduceToNat, Int.reduceNeg, Int.reduceAdd, Int.reduceSub, Int.reduceMul, reduceIte, reduceCtorEq, Nat.reducePow, Nat.reduceDiv, Nat.reduceMod, Int.reduceBEq, c0]
      · simp only [go_sem, Nat.reduceAdd, Nat.reduceMul, Nat.reduceSub, Nat.reduceLT, Nat.reduceLeDiff, Nat.reduceEqDiff, Nat.reduceBEq, Nat.reduceBeqDiff, Int.reduceEq, Int.reduceLT, Int.reduceLE, Int.reduceToNat, Int.reduceNeg, Int.reduceAdd, Int.reduceSub, Int.reduceMul, reduceIte, reduceCtorEq, Nat.reducePow, Nat.reduceDiv, Nat.reduceMod, Int.reduceBEq]
    · simp
end Go.Proofs.YtklnkkejkeelaaaDoor.E
