/- The reading of body.Sane. -/
import Derived.Test.YtklnkkejkeelaaaDoorF3
import Derived.Test.YtklnkkejkeelaaaDoorF8
set_option linter.unnecessarySimpa false
set_option linter.unusedSimpArgs false
set_option linter.unusedVariables false
set_option autoImplicit false
set_option maxRecDepth 100000
set_option maxHeartbeats 4000000
set_option linter.unusedSimpArgs false
set_option linter.unusedVariables false
set_option pp.maxSteps 20000
namespace Go.Proofs.YtklnkkejkeelaaaDoor.E
open Go.Ev
theorem sane2_ev (fu n : Nat) (i : TInstr) (h : 21 < fu) (hl : i.labels.length < fu) (hs : i.labels.length < 1000000) : evF (G fu) (n+6) 55 [.d i.d] [] = some (.d (.bool (!saneF i)), []) := by
  have q := sane_ev fu n i h hl hs
  simp only [TInstr.d] at q
  rw [evF.eq_2, evX.eq_def, Gext, exts_no _ (f := 55) (by decide), GP, Tryd.func55]; simp only [Tryd.f55, evB]
  simp only [go_sem, Nat.reduceAdd, Nat.reduceMul, Nat.reduceSub, Nat.reduceLT, Nat.reduceLeDiff, Nat.reduceEqDiff, Nat.reduceBEq, Nat.reduceBeqDiff, Int.reduceEq, Int.reduceLT, Int.reduceLE, Int.reduceToNat, Int.reduceNeg, Int.reduceAdd, Int.reduceSub, Int.reduceMul, reduceIte, reduceCtorEq, Nat.reducePow, Nat.reduceDiv, Nat.reduceMod, Int.reduceBEq, TInstr.d, q]
def findS (l : List TInstr) : Int := match first (fun i => !saneF (l.getD i in0)) 0 l.length with
  | some i => i
  | none => -1
/-- Few labels each. -/
def lab (fu : Nat) (l : List TInstr) : Prop := ∀ i ∈ l, i.labels.length < fu ∧ i.labels.length < 1000000
theorem indexS_ev (fu n : Nat) (l : List TInstr) (h : 21 < fu) (hl : l.length < fu) (hs : l.length < 1000000) (hb : lab fu l) : evF (G fu) (n+7) 85 [.d (.list (l.map TInstr.d)), .fn (.func 55) [] []] [] = some (.d (.int .i64 (findS l)), []) := by
  rw [evF.eq_2, evX.eq_def, Gext, exts_no _ (f := 85) (by decide), GP, Tryd.func85]; simp only [Tryd.f85, evB]
  simp only [go_sem, Nat.reduceAdd, Nat.reduceMul, Nat.reduceSub, Nat.reduceLT, Nat.reduceLeDiff, Nat.reduceEqDiff, Nat.reduceBEq, Nat.reduceBeqDiff, Int.reduceEq, Int.reduceLT, Int.reduceLE, Int.reduceToNat, Int.reduceNeg, Int.reduceAdd, Int.reduceSub, Int.reduceMul, reduceIte, reduceCtorEq, Nat.reducePow, Nat.reduceDiv, Nat.reduceMod, Int.reduceBEq, List.length_map]
  rw [loop_scan l.length (fun i => ⟨[(0, .d (.list (l.map TInstr.d))), (1, .fn (.func 55) [] []), (7, .d (.int .i64 l.length)), (8, .d (.int .i64 i))], []⟩) (fun i => !saneF (l.getD i in0)) (fun i => (.ret, ⟨[(4, V.d (D.int .i64 i))], []⟩)) (.exit 0, ⟨[], []⟩) (by omega) (fun _ => trivial) trivial ?_]
  case hs =>
    intro i hi
    have hm : l.getD i in0 ∈ l := by
      have : l.getD i in0 = l[i] := by simp [hi]
      rw [this]; exact List.getElem_mem hi
    have q := sane2_ev fu n (l.getD i in0) h (hb _ hm).1 (hb _ hm).2
    simp only [TInstr.d] at q
    simp only [go_sem, Nat.reduceAdd, Nat.reduceMul, Nat.reduceSub, Nat.reduceLT, Nat.reduceLeDiff, Nat.reduceEqDiff, Nat.reduceBEq, Nat.reduceBeqDiff, Int.reduceEq, Int.reduceLT, Int.reduceLE, Int.reduceToNat, Int.reduceNeg, Int.reduceAdd, Int.reduceSub, Int.reduceMul, reduceIte, reduceCtorEq, Nat.reducePow, Nat.reduceDiv, Nat.reduceMod, Int.reduceBEq, Int.ofNat_lt, hi, idx, getD_map (d := in0) hi, TInstr.d, q]
    cases saneF (l.getD i in0) <;> simp only [go_sem, Nat.reduceAdd, Nat.reduceMul, Nat.reduceSub, Nat.reduceLT, Nat.reduceLeDiff, Nat.reduceEqDiff, Nat.reduceBEq, Nat.reduceBeqDiff, Int.reduceEq, Int.reduceLT, Int.reduceLE, Int.reduceToNat, Int.reduceNeg, Int.reduceAdd, Int.reduceSub, Int.reduceMul, reduceIte, reduceCtorEq, Nat.reducePow, Nat.reduceDiv, Nat.reduceMod, Int.reduceBEq, wrap_i64 (show -9223372036854775808 ≤ (i : Int) + 1 by omega) (by omega)] <;> rfl
  case he => simp only [go_sem, Nat.reduceAdd, Nat.reduceMul, Nat.reduceSub, Nat.reduceLT, Nat.reduceLeDiff, Nat.reduceEqDiff, Nat.reduceBEq, Nat.reduceBeqDiff, Int.reduceEq, Int.reduceLT, Int.reduceLE, Int.reduceToNat, Int.reduceNeg, Int.reduceAdd, Int.reduceSub, Int.reduceMul, reduceIte, reduceCtorEq, Nat.reducePow, Nat.reduceDiv, Nat.reduceMod, Int.reduceBEq, Int.ofNat_lt, Nat.lt_irrefl]
  · unfold scan findS
    cases first (fun i => !saneF (l.getD i in0)) 0 l.length <;> simp only [go_sem, Nat.reduceAdd, Nat.reduceMul, Nat.reduceSub, Nat.reduceLT, Nat.reduceLeDiff, Nat.reduceEqDiff, Nat.reduceBEq, Nat.reduceBeqDiff, Int.reduceEq, Int.reduceLT, Int.reduceLE, Int.reduceToNat, Int.reduceNeg, Int.reduceAdd, Int.reduceSub, Int.reduceMul, reduceIte, reduceCtorEq, Nat.reducePow, Nat.reduceDiv, Nat.reduceMod, Int.reduceBEq]
  · rfl
theorem findS_iff (l : List TInstr) : (0 ≤ findS l) ↔ l.all saneF = false := by
  unfold findS
  have := first_list (p := fun x => !saneF x) (d := in0) l
  cases hf : first (fun i => !saneF (l.getD i in0)) 0 l.length with
  | none =>
    have := this.1 hf
    simp only [show ¬ (0 : Int) ≤ -1 by omega, false_iff]
    intro h
    rw [List.any_eq_false] at this
    rw [List.all_eq_false] at h
    obtain ⟨x, h1, h2⟩ := h
    have := this x h1
    simp_all
  | some i =>
    simp only [show (0 : Int) ≤ i by omega, true_iff]
    rw [List.all_eq_false]
    have : l.any (fun x => !saneF x) = true := by
      cases h : l.any (fun x => !saneF x) with
      | true => rfl
      | false => rw [this.2 h] at hf; cases hf
    obtain ⟨x, h1, h2⟩ := List.any_eq_true.1 this
    exact ⟨x, h1, by simpa using h2⟩
theorem containsS_ev (fu n : Nat) (l : List TInstr) (h : 21 < fu) (hl : l.length < fu) (hs : l.length < 1000000) (hb : lab fu l) : evF (G fu) (n+8) 54 [.d (.list (l.map TInstr.d)), .fn (.func 55) [] []] [] = some (.d (.bool (!l.all saneF)), []) := by
  rw [evF.eq_2, evX.eq_def, Gext, exts_no _ (f := 54) (by decide), GP, Tryd.func54]; simp only [Tryd.f54, evB]
  have := findS_iff l
  cases ha : l.all saneF <;> rw [ha] at this <;> simp only [iff_true, iff_false, reduceCtorEq] at this <;> simp only [go_sem, Nat.reduceAdd, Nat.reduceMul, Nat.reduceSub, Nat.reduceLT, Nat.reduceLeDiff, Nat.reduceEqDiff, Nat.reduceBEq, Nat.reduceBeqDiff, Int.reduceEq, Int.reduceLT, Int.reduceLE, Int.reduceToNat, Int.reduceNeg, Int.reduceAdd, Int.reduceSub, Int.reduceMul, reduceIte, reduceCtorEq, Nat.reducePow, Nat.reduceDiv, Nat.reduceMod, Int.reduceBEq, indexS_ev fu n l h hl hs hb, this, ha]
/-- How deep at most. -/
def deepF (l : List TInstr) : Int := match walkG tellS 0 l l.length with
  | some (_, s) => s
  | none => 0
def bodySane (l : List TInstr) : Bool := walkOk l && decide (deepF l ≤ 32) && decide ((l.length : Int) ≤ 4096) && l.all saneF
theorem bodySane_ev (fu n : Nat) (l : List TInstr) (h : 21 < fu) (hl : l.length < fu) (hs : l.length < 100000) (hb : lab fu l) : evF (G fu) (n+9) 19 [.d (.list (l.map TInstr.d))] [] = some (.d (.bool (bodySane l)), []) := by
  obtain ⟨mx, h1, h2⟩ := walkS_ev fu (n+4) l h hl hs 0
  rw [evF.eq_2, evX.eq_def, Gext, exts_no _ (f := 19) (by decide), GP, Tryd.func19]; simp only [Tryd.f19, evB]
  cases hk : walkOk l with
  | false =>
    rw [hk] at h1
    simp only [go_sem, Nat.reduceAdd, Nat.reduceMul, Nat.reduceSub, Nat.reduceLT, Nat.reduceLeDiff, Nat.reduceEqDiff, Nat.reduceBEq, Nat.reduceBeqDiff, Int.reduceEq, Int.reduceLT, Int.reduceLE, Int.reduceToNat, Int.reduceNeg, Int.reduceAdd, Int.reduceSub, Int.reduceMul, reduceIte, reduceCtorEq, Nat.reducePow, Nat.reduceDiv, Nat.reduceMod, Int.reduceBEq, h1, bodySane, hk]
  | true =>
    have hm : deepF l = mx := by
      unfold deepF
      cases hw : walkG tellS 0 l l.length with
      | none => rw [walkOk_none hw] at hk; cases hk
      | some q => obtain ⟨st, s⟩ := q; exact (h2 st s hw).symm
    rw [hk] at h1
    by_cases q1 : mx ≤ 32 <;> by_cases q2 : (l.length : Int) ≤ 4096 <;> simp only [go_sem, Nat.reduceAdd, Nat.reduceMul, Nat.reduceSub, Nat.reduceLT, Nat.reduceLeDiff, Nat.reduceEqDiff, Nat.reduceBEq, Nat.reduceBeqDiff, Int.reduceEq, Int.reduceLT, Int.reduceLE, Int.reduceToNat, Int.reduceNeg, Int.reduceAdd, Int.reduceSub, Int.reduceMul, reduceIte, reduceCtorEq, Nat.reducePow, Nat.reduceDiv, Nat.reduceMod, Int.reduceBEq, h1, bodySane, hk, hm, q1, q2, List.length_map, containsS_ev fu n l h hl (by omega) hb, Bool.not_not]
end Go.Proofs.YtklnkkejkeelaaaDoor.E
