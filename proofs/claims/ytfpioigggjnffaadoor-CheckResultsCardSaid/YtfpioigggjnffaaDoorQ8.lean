/- Q8, Q9, C7, C8, C9, C10. -/
import Derived.Test.YtfpioigggjnffaaDoorF8
import Derived.Test.YtfpioigggjnffaaDoorQ3
set_option linter.unnecessarySimpa false
set_option linter.unusedSimpArgs false
set_option linter.unusedVariables false
/- The reading of check's checker: what opens and closes, select, what names a local or a global. -/
set_option autoImplicit false
set_option maxRecDepth 100000
set_option maxHeartbeats 4000000
set_option linter.unusedSimpArgs false
set_option linter.unusedVariables false
set_option pp.maxSteps 20000
namespace Go.Proofs.YtfpioigggjnffaaDoor.E
open Go.Ev
/-! Room. -/
def Rm (b : Nat) (s : Stk) : Prop := s.vals.length ≤ b ∧ s.ctrls.length ≤ b
theorem Rm.ok {b fu : Nat} {s : Stk} (h : Rm b s) (hb : b < fu) (hm : b < 1000000) : SzOk fu s := ⟨by have := h.1; omega, by have := h.2; omega, by have := h.1; omega, by have := h.2; omega⟩
theorem Rm.up {b c : Nat} {s : Stk} (h : Rm b s) (hc : b ≤ c) : Rm c s := ⟨by have := h.1; omega, by have := h.2; omega⟩
theorem Rm.put {b : Nat} {w : WkS} {r : Except Int Stk} (h : Rm b w.s) (hr : ∀ s, r = .ok s → Rm b s) : Rm b (w.put r).s := by
  unfold WkS.put
  split
  · exact h
  · cases r with
    | ok s => exact hr s rfl
    | error e => exact h
theorem Rm.want {b : Nat} {w : WkS} (h : Rm b w.s) (l : List Int) : Rm b (w.want l).s := h.put fun s e => ⟨by have := (wantS_ok e).2.2.length_le; have := h.1; omega, by rw [(wantS_ok e).2.1]; exact h.2⟩
theorem Rm.push {b c : Nat} {w : WkS} (h : Rm b w.s) {l : List Int} (hl : b + l.length ≤ c) : Rm c (w.push l).s := (h.up (by omega)).put fun s e => ⟨by rw [(pushS_ok e).2.2, List.length_append]; have := h.1; omega, by rw [(pushS_ok e).2.1]; have := h.2; omega⟩
theorem Rm.opens {b c : Nat} {w : WkS} (h : Rm b w.s) (op : Int) (l : List Int) (hc : b + 1 ≤ c) : Rm c (w.opens op l).s := (h.up (by omega)).put fun s e => ⟨by rw [(openS_ok e).2.2]; have := h.1; omega, by rw [(openS_ok e).2.1, List.length_append]; have := h.2; simp; omega⟩
theorem Rm.kill {b : Nat} {w : WkS} (h : Rm b w.s) : Rm b w.kill.s := h.put fun s e => ⟨by have := (killS_ok e).2.2.1.length_le; have := h.1; omega, by rw [(killS_ok e).2.1]; exact h.2⟩
theorem Rm.must {b : Nat} {w : WkS} (h : Rm b w.s) (ok : Bool) (e : Int) : Rm b (w.must ok e).s := by
  unfold WkS.must
  split
  · exact h
  · exact h
theorem Rm.pop {b : Nat} {w : WkS} (h : Rm b w.s) : Rm b w.pop.2.s := by
  unfold WkS.pop
  cases hp : popS w.s with
  | ok r => obtain ⟨t, s'⟩ := r; exact h.put fun s e => by cases e; exact ⟨by have := (popS_ok hp).2.2.length_le; have := h.1; omega, by rw [(popS_ok hp).2.1]; exact h.2⟩
  | error e => exact h.put fun s x => by cases x
theorem Rm.closed {b : Nat} {w : WkS} (h : Rm b w.s) : Rm b w.closed.2.s := by
  unfold WkS.closed
  cases hp : closeS w.s with
  | ok r => obtain ⟨t, s'⟩ := r; exact h.put fun s e => by cases e; exact ⟨by have := (closeS_ok hp).2.2.2.1.length_le; have := h.1; omega, by rw [(closeS_ok hp).2.2.1, List.length_dropLast]; have := h.2; omega⟩
  | error e => exact h.put fun s x => by cases x
theorem Rm.label {b : Nat} {w : WkS} (h : Rm b w.s) (k : Int) : Rm b (w.label k).2.s := by
  unfold WkS.label
  cases labelS w.s k with
  | ok l => exact h
  | error e => exact h.must _ _
theorem fin_len {l : List Int} (h : finB l = true) : l.length ≤ 1 := by
  match l, h with
  | [], _ => simp
  | [_], _ => simp
theorem closed_len (w : WkS) : w.closed.1.fin.length ≤ 1 := by
  unfold WkS.closed
  cases hp : closeS w.s with
  | ok r => obtain ⟨t, s'⟩ := r; exact fin_len (closeS_ok hp).2.2.2.2.2
  | error e => simp
theorem label_fin (w : WkS) (k : Int) : finB (w.label k).1 = true := by
  unfold WkS.label labelS
  cases hs : saneS w.s with
  | false => rfl
  | true =>
    obtain ⟨m, r1, _⟩ := (saneS_iff w.s).1 hs
    simp only [Bool.not_true, Bool.false_eq_true, if_false]
    by_cases hk : k < 0 ∨ (w.s.ctrls.length : Int) ≤ k
    · rw [if_pos hk]; rfl
    · rw [if_neg hk]
      cases hc : w.s.ctrls[w.s.ctrls.length - 1 - k.toNat]? with
      | none => rfl
      | some c =>
        simp only
        split
        · rfl
        · exact rises_fin r1 c (List.mem_of_getElem? hc)
theorem renL_ck (fr : Nat → Option Nat) (fs : Nat → Nat → Option Nat) (e : TEnv) (w : WkS) : renL fr fs (ck e w) = ck e w := rfl
theorem refsL_ck (e : TEnv) (w : WkS) : refsL (ck e w) = [] := rfl
theorem ck_0 (e : TEnv) (w : WkS) : (ck e w)[0]? = some (.d (.list (e.types.map tyD))) := rfl
theorem ck_1 (e : TEnv) (w : WkS) : (ck e w)[1]? = some (.d (.list (e.funcs.map (D.int .i64)))) := rfl
theorem ck_2 (e : TEnv) (w : WkS) : (ck e w)[2]? = some (.d (.int .i64 e.tables)) := rfl
theorem ck_3 (e : TEnv) (w : WkS) : (ck e w)[3]? = some (.d (.int .i64 e.mems)) := rfl
theorem ck_4 (e : TEnv) (w : WkS) : (ck e w)[4]? = some (.d (.list (e.globals.map glD))) := rfl
theorem ck_5 (e : TEnv) (w : WkS) : (ck e w)[5]? = some (.d (.list (byt e.locs))) := rfl
theorem ck_6 (e : TEnv) (w : WkS) : (ck e w)[6]? = some (.d (.list (byt e.results))) := rfl
theorem ck_7 (e : TEnv) (w : WkS) : (ck e w)[7]? = some (.d (.list (byt w.s.vals))) := rfl
theorem ck_8 (e : TEnv) (w : WkS) : (ck e w)[8]? = some (.d (.list (ctlds w.s.ctrls))) := rfl
theorem ck_9 (e : TEnv) (w : WkS) : (ck e w)[9]? = some (.d (.int .i64 w.e)) := rfl
theorem ck_env (e : TEnv) (w : WkS) : takeN (ck e w) 7 = some [.d (.list (e.types.map tyD)), .d (.list (e.funcs.map (D.int .i64))), .d (.int .i64 e.tables), .d (.int .i64 e.mems), .d (.list (e.globals.map glD)), .d (.list (byt e.locs)), .d (.list (byt e.results))] := rfl
theorem ck_stk (e : TEnv) (w : WkS) : takeN ((ck e w).drop 7) 2 = some [.d (.list (byt w.s.vals)), .d (.list (ctlds w.s.ctrls))] := rfl
attribute [go_sem] renL_ck refsL_ck ck_0 ck_1 ck_2 ck_3 ck_4 ck_5 ck_6 ck_7 ck_8 ck_9 ck_env ck_stk
theorem byt1 (x : Int) : byt [x] = [D.int .u8 x] := rfl
theorem byt2 (x y : Int) : byt [x, y] = [D.int .u8 x, D.int .u8 y] := rfl
theorem byt0 : byt [] = [] := rfl
theorem chosen_ev (fu n b : Nat) (e : TEnv) (w : WkS) (hb : b + 100 < fu) (hm : b + 100 < 1000000) (h : Rm b w.s) (i : TInstr) (hi : i.op ≠ 26) : evF (G fu) (n+10) 77 [.ptr 0 0] [.cells (ck e w)] = some (.tup [], [.cells (ck e (chosenS w i))]) := by
  have P1 := ckwant_ev fu n e w [127] (h.ok (by omega) (by omega)) (by simp)
  have h1 := h.want [127]
  have P2 := ckpop_ev fu n e (w.want [127]) (h1.ok (by omega) (by omega))
  have P3 := ckpop_ev fu n e (w.want [127]).pop.2 (h1.pop.ok (by omega) (by omega))
  have P4 := must_ev fu (n+8) e (w.want [127]).pop.2.pop.2 ((w.want [127]).pop.1 == 0 || (w.want [127]).pop.2.pop.1 == 0 || (w.want [127]).pop.1 == (w.want [127]).pop.2.pop.1) 5
  have h4 : Rm b ((w.want [127]).pop.2.pop.2.must ((w.want [127]).pop.1 == 0 || (w.want [127]).pop.2.pop.1 == 0 || (w.want [127]).pop.1 == (w.want [127]).pop.2.pop.1) 5).s := (h1.pop.pop).must _ _
  have P5 := fun x => ckpush_ev fu n e ((w.want [127]).pop.2.pop.2.must ((w.want [127]).pop.1 == 0 || (w.want [127]).pop.2.pop.1 == 0 || (w.want [127]).pop.1 == (w.want [127]).pop.2.pop.1) 5) [x] (h4.ok (by omega) (by omega)) (by simp) (by simp; omega) (by omega)
  unfold chosenS
  rw [if_neg hi]
  rw [evF.eq_2, evX.eq_def, Gext, exts_no _ (f := 77) (by decide), GP, Tryd.func77]; simp only [Tryd.f77, evB]
  simp only [byt1] at P1 P5
  generalize (w.want [127]).pop.1 = x at *
  generalize (w.want [127]).pop.2.pop.1 = y at *
  by_cases hx : x = 0
  · subst hx
    simp only [beq_self_eq_true, Bool.true_or] at P4 P5
    simp only [go_sem, Nat.reduceAdd, Nat.reduceMul, Nat.reduceSub, Nat.reduceLT, Nat.reduceLeDiff, Nat.reduceEqDiff, Nat.reduceBEq, Nat.reduceBeqDiff, Int.reduceEq, Int.reduceLT, Int.reduceLE, Int.reduceToNat, Int.reduceNeg, Int.reduceAdd, Int.reduceSub, Int.reduceMul, reduceIte, reduceCtorEq, Nat.reducePow, Nat.reduceDiv, Nat.reduceMod, Int.reduceBEq, P1, P2, P3, P4, P5]
  · by_cases hy : y = 0
    · subst hy
      simp only [beq_self_eq_true, Bool.or_true, Bool.true_or] at P4 P5
      simp only [go_sem, Nat.reduceAdd, Nat.reduceMul, Nat.reduceSub, Nat.reduceLT, Nat.reduceLeDiff, Nat.reduceEqDiff, Nat.reduceBEq, Nat.reduceBeqDiff, Int.reduceEq, Int.reduceLT, Int.reduceLE, Int.reduceToNat, Int.reduceNeg, Int.reduceAdd, Int.reduceSub, Int.reduceMul, reduceIte, reduceCtorEq, Nat.reducePow, Nat.reduceDiv, Nat.reduceMod, Int.reduceBEq, P1, P2, P3, P4, P5, hx]
    · by_cases hxy : x = y
      · subst hxy
        have e1 : (x == 0) = false := by simpa using hx
        simp only [e1, beq_self_eq_true, Bool.or_true, Bool.false_or] at P4 P5
        simp only [go_sem, Nat.reduceAdd, Nat.reduceMul, Nat.reduceSub, Nat.reduceLT, Nat.reduceLeDiff, Nat.reduceEqDiff, Nat.reduceBEq, Nat.reduceBeqDiff, Int.reduceEq, Int.reduceLT, Int.reduceLE, Int.reduceToNat, Int.reduceNeg, Int.reduceAdd, Int.reduceSub, Int.reduceMul, reduceIte, reduceCtorEq, Nat.reducePow, Nat.reduceDiv, Nat.reduceMod, Int.reduceBEq, P1, P2, P3, P4, P5, hx, e1]
      · have e1 : (x == 0) = false := by simpa using hx
        have e2 : (y == 0) = false := by simpa using hy
        have e3 : (x == y) = false := by simpa using hxy
        simp only [e1, e2, e3, Bool.or_false] at P4 P5
        simp only [go_sem, Nat.reduceAdd, Nat.reduceMul, Nat.reduceSub, Nat.reduceLT, Nat.reduceLeDiff, Nat.reduceEqDiff, Nat.reduceBEq, Nat.reduceBeqDiff, Int.reduceEq, Int.reduceLT, Int.reduceLE, Int.reduceToNat, Int.reduceNeg, Int.reduceAdd, Int.reduceSub, Int.reduceMul, reduceIte, reduceCtorEq, Nat.reducePow, Nat.reduceDiv, Nat.reduceMod, Int.reduceBEq, P1, P2, P3, P4, P5, hx, hy, hxy, e1, e2, e3]
theorem topIf_get (s : Stk) : topIf s = (decide (0 < s.ctrls.length) && decide ((s.ctrls.getD (s.ctrls.length - 1) ctl0).op = 4)) := by
  unfold topIf
  cases hh : s.ctrls.getLast? with
  | none => rw [List.getLast?_eq_none_iff] at hh; rw [hh]; rfl
  | some c =>
    have hpos : 0 < s.ctrls.length := by
      cases hc : s.ctrls with
      | nil => rw [hc] at hh; cases hh
      | cons _ _ => simp
    rw [List.getLast?_eq_getElem?] at hh
    rw [List.getD_eq_getElem?_getD, hh]
    simp only [Option.getD_some, hpos, decide_true, Bool.true_and]
    by_cases h4 : c.op = 4 <;> simp [h4]
theorem else_ev (fu n b : Nat) (e : TEnv) (w : WkS) (hb : b + 100 < fu) (hm : b + 100 < 1000000) (h : Rm b w.s) (i : TInstr) (hi : i.op = 5) : evF (G fu) (n+10) 75 [.ptr 0 0, .d (.int .i64 5)] [.cells (ck e w)] = some (.tup [], [.cells (ck e (nestedS w i))]) := by
  have P1 := must_ev fu (n+8) e w (topIf w.s) 5
  have h1 : Rm b (w.must (topIf w.s) 5).s := h.must _ _
  have P2 := ckshut_ev fu n e (w.must (topIf w.s) 5) (h1.ok (by omega) (by omega))
  have h2 := h1.closed
  have hl := closed_len (w.must (topIf w.s) 5)
  have P3 := ckopen_ev fu n e (w.must (topIf w.s) 5).closed.2 5 (w.must (topIf w.s) 5).closed.1.fin (h2.ok (by omega) (by omega)) (by omega)
  unfold nestedS
  rw [if_neg (show ¬ i.op = 4 by omega), if_pos hi]
  simp only
  rw [evF.eq_2, evX.eq_def, Gext, exts_no _ (f := 75) (by decide), GP, Tryd.func75]; simp only [Tryd.f75, evB]
  generalize hw1 : w.must (topIf w.s) 5 = w1 at *
  rw [topIf_get] at P1
  by_cases hp : 0 < w.s.ctrls.length
  · have hx : (ctlds w.s.ctrls)[w.s.ctrls.length - 1]? = some (w.s.ctrls.getD (w.s.ctrls.length - 1) ctl0).dd := getD_map (by omega)
    have Wn : IntKind.wrap .i64 ((w.s.ctrls.length : Int) - 1) = ((w.s.ctrls.length - 1 : Nat) : Int) := by have := h.2; rw [wrap_i64 (by omega) (by omega)]; omega
    have hpI : (0 : Int) < w.s.ctrls.length := by omega
    generalize w.s.ctrls.getD (w.s.ctrls.length - 1) ctl0 = c at *
    simp only [hp, decide_true, Bool.true_and] at P1
    by_cases h4 : c.op = 4
    · simp only [h4, decide_true] at P1
      simp only [go_sem, Nat.reduceAdd, Nat.reduceMul, Nat.reduceSub, Nat.reduceLT, Nat.reduceLeDiff, Nat.reduceEqDiff, Nat.reduceBEq, Nat.reduceBeqDiff, Int.reduceEq, Int.reduceLT, Int.reduceLE, Int.reduceToNat, Int.reduceNeg, Int.reduceAdd, Int.reduceSub, Int.reduceMul, reduceIte, reduceCtorEq, Nat.reducePow, Nat.reduceDiv, Nat.reduceMod, Int.reduceBEq, ctlds_len, hpI, Wn, idx, hx, P1, P2, P3, Ctl.dd, h4]
    · simp only [h4, decide_false] at P1
      simp only [go_sem, Nat.reduceAdd, Nat.reduceMul, Nat.reduceSub, Nat.reduceLT, Nat.reduceLeDiff, Nat.reduceEqDiff, Nat.reduceBEq, Nat.reduceBeqDiff, Int.reduceEq, Int.reduceLT, Int.reduceLE, Int.reduceToNat, Int.reduceNeg, Int.reduceAdd, Int.reduceSub, Int.reduceMul, reduceIte, reduceCtorEq, Nat.reducePow, Nat.reduceDiv, Nat.reduceMod, Int.reduceBEq, ctlds_len, hpI, Wn, idx, hx, P1, P2, P3, Ctl.dd, h4]
  · have hpI : ¬ (0 : Int) < w.s.ctrls.length := by omega
    simp only [hp, decide_false, Bool.false_and] at P1
    simp only [go_sem, Nat.reduceAdd, Nat.reduceMul, Nat.reduceSub, Nat.reduceLT, Nat.reduceLeDiff, Nat.reduceEqDiff, Nat.reduceBEq, Nat.reduceBeqDiff, Int.reduceEq, Int.reduceLT, Int.reduceLE, Int.reduceToNat, Int.reduceNeg, Int.reduceAdd, Int.reduceSub, Int.reduceMul, reduceIte, reduceCtorEq, Nat.reducePow, Nat.reduceDiv, Nat.reduceMod, Int.reduceBEq, ctlds_len, hpI, P1, P2, P3, Ctl.dd]
theorem end_ev (fu n b : Nat) (e : TEnv) (w : WkS) (hb : b + 100 < fu) (hm : b + 100 < 1000000) (h : Rm b w.s) (i : TInstr) (hi : i.op = 11) : evF (G fu) (n+10) 75 [.ptr 0 0, .d (.int .i64 11)] [.cells (ck e w)] = some (.tup [], [.cells (ck e (nestedS w i))]) := by
  have P1 := must_ev fu (n+8) e w (decide (1 < w.s.ctrls.length)) 5
  have h1 : Rm b (w.must (decide (1 < w.s.ctrls.length)) 5).s := h.must _ _
  have P2 := ckshut_ev fu n e (w.must (decide (1 < w.s.ctrls.length)) 5) (h1.ok (by omega) (by omega))
  have h2 := h1.closed
  have hl := closed_len (w.must (decide (1 < w.s.ctrls.length)) 5)
  have P3 := must_ev fu (n+8) e (w.must (decide (1 < w.s.ctrls.length)) 5).closed.2 ((w.must (decide (1 < w.s.ctrls.length)) 5).closed.1.op != 4 || (w.must (decide (1 < w.s.ctrls.length)) 5).closed.1.fin.isEmpty) 5
  have h3 := h2.must ((w.must (decide (1 < w.s.ctrls.length)) 5).closed.1.op != 4 || (w.must (decide (1 < w.s.ctrls.length)) 5).closed.1.fin.isEmpty) 5
  have P4 := ckpush_ev fu n e ((w.must (decide (1 < w.s.ctrls.length)) 5).closed.2.must ((w.must (decide (1 < w.s.ctrls.length)) 5).closed.1.op != 4 || (w.must (decide (1 < w.s.ctrls.length)) 5).closed.1.fin.isEmpty) 5) (w.must (decide (1 < w.s.ctrls.length)) 5).closed.1.fin (h3.ok (by omega) (by omega)) (by omega) (by omega) (by omega)
  unfold nestedS
  rw [if_neg (show ¬ i.op = 4 by omega), if_neg (show ¬ i.op = 5 by omega), if_pos hi]
  simp only
  rw [evF.eq_2, evX.eq_def, Gext, exts_no _ (f := 75) (by decide), GP, Tryd.func75]; simp only [Tryd.f75, evB]
  have hd : decide ((1 : Int) < (w.s.ctrls.length : Int)) = decide (1 < w.s.ctrls.length) := by
    by_cases hc : 1 < w.s.ctrls.length
    · have : (1 : Int) < w.s.ctrls.length := by omega
      simp [hc, this]
    · have : ¬ (1 : Int) < w.s.ctrls.length := by omega
      simp [hc, this]
  generalize hw1 : w.must (decide (1 < w.s.ctrls.length)) 5 = w1 at *
  generalize w1.closed.1 = c at *
  by_cases h4 : c.op = 4
  · have e4 : (c.op != 4) = false := by simpa using h4
    by_cases h5 : c.fin = []
    · simp only [e4, h5, List.isEmpty_nil, Bool.or_true, byt0] at P3 P4
      simp only [go_sem, Nat.reduceAdd, Nat.reduceMul, Nat.reduceSub, Nat.reduceLT, Nat.reduceLeDiff, Nat.reduceEqDiff, Nat.reduceBEq, Nat.reduceBeqDiff, Int.reduceEq, Int.reduceLT, Int.reduceLE, Int.reduceToNat, Int.reduceNeg, Int.reduceAdd, Int.reduceSub, Int.reduceMul, reduceIte, reduceCtorEq, Nat.reducePow, Nat.reduceDiv, Nat.reduceMod, Int.reduceBEq, ctlds_len, hd, P1, P2, P3, P4, Ctl.dd, h4, h5, bne, List.map_nil, byt0]
    · have e5 : c.fin.isEmpty = false := by simpa using h5
      have e6 : ¬ (c.fin.length : Int) = 0 := by intro hh; exact h5 (List.length_eq_zero_iff.1 (by omega))
      simp only [e4, e5, Bool.or_false] at P3 P4
      simp only [go_sem, Nat.reduceAdd, Nat.reduceMul, Nat.reduceSub, Nat.reduceLT, Nat.reduceLeDiff, Nat.reduceEqDiff, Nat.reduceBEq, Nat.reduceBeqDiff, Int.reduceEq, Int.reduceLT, Int.reduceLE, Int.reduceToNat, Int.reduceNeg, Int.reduceAdd, Int.reduceSub, Int.reduceMul, reduceIte, reduceCtorEq, Nat.reducePow, Nat.reduceDiv, Nat.reduceMod, Int.reduceBEq, ctlds_len, hd, P1, P2, P3, P4, Ctl.dd, h4, e5, e6, byt_len, bne]
  · have e4 : (c.op != 4) = true := by simpa using h4
    simp only [e4, Bool.true_or] at P3 P4
    simp only [go_sem, Nat.reduceAdd, Nat.reduceMul, Nat.reduceSub, Nat.reduceLT, Nat.reduceLeDiff, Nat.reduceEqDiff, Nat.reduceBEq, Nat.reduceBeqDiff, Int.reduceEq, Int.reduceLT, Int.reduceLE, Int.reduceToNat, Int.reduceNeg, Int.reduceAdd, Int.reduceSub, Int.reduceMul, reduceIte, reduceCtorEq, Nat.reducePow, Nat.reduceDiv, Nat.reduceMod, Int.reduceBEq, ctlds_len, hd, P1, P2, P3, P4, Ctl.dd, h4, e4]
end Go.Proofs.YtfpioigggjnffaaDoor.E

/- The reading of check's checker: the instructions by kind. -/
set_option autoImplicit false
set_option maxRecDepth 100000
set_option maxHeartbeats 4000000
set_option linter.unusedSimpArgs false
set_option linter.unusedVariables false
set_option pp.maxSteps 20000
namespace Go.Proofs.YtfpioigggjnffaaDoor.E
open Go.Ev
theorem must_true' (w : WkS) (e : Int) : w.must true e = w := rfl
theorem block_ev (fu n b : Nat) (e : TEnv) (w : WkS) (hb : b + 100 < fu) (hm : b + 100 < 1000000) (h : Rm b w.s) (i : TInstr) (h5 : i.op ≠ 5) (h11 : i.op ≠ 11) : evF (G fu) (n+10) 44 [.ptr 0 0, .d i.d] [.cells (ck e w)] = some (.tup [], [.cells (ck e (nestedS w i))]) := by
  have P1 := ckwant_ev fu n e w [127] (h.ok (by omega) (by omega)) (by simp)
  have h1 := h.want [127]
  have P2 := fun l => ckopen_ev fu n e (w.want [127]) 4 l (h1.ok (by omega) (by omega))
  have P3 := fun l => ckopen_ev fu n e w i.op l (h.ok (by omega) (by omega))
  unfold nestedS leftOf
  rw [if_neg h5, if_neg h11]
  rw [evF.eq_2, evX.eq_def, Gext, exts_no _ (f := 44) (by decide), GP, Tryd.func44]; simp only [Tryd.f44, evB]
  simp only [byt1] at P1
  have W := wrap_u8_mod i.a
  by_cases h4 : i.op = 4
  · by_cases ha : i.a = 0
    · have P2 := P2 [] (by simp)
      simp only [byt0] at P2
      simp only [go_sem, Nat.reduceAdd, Nat.reduceMul, Nat.reduceSub, Nat.reduceLT, Nat.reduceLeDiff, Nat.reduceEqDiff, Nat.reduceBEq, Nat.reduceBeqDiff, Int.reduceEq, Int.reduceLT, Int.reduceLE, Int.reduceToNat, Int.reduceNeg, Int.reduceAdd, Int.reduceSub, Int.reduceMul, reduceIte, reduceCtorEq, Nat.reducePow, Nat.reduceDiv, Nat.reduceMod, Int.reduceBEq, TInstr.d, h4, ha, P1, P2]
    · have P2 := P2 [i.a % 256] (by simp)
      simp only [byt1] at P2
      simp only [go_sem, Nat.reduceAdd, Nat.reduceMul, Nat.reduceSub, Nat.reduceLT, Nat.reduceLeDiff, Nat.reduceEqDiff, Nat.reduceBEq, Nat.reduceBeqDiff, Int.reduceEq, Int.reduceLT, Int.reduceLE, Int.reduceToNat, Int.reduceNeg, Int.reduceAdd, Int.reduceSub, Int.reduceMul, reduceIte, reduceCtorEq, Nat.reducePow, Nat.reduceDiv, Nat.reduceMod, Int.reduceBEq, TInstr.d, h4, ha, P1, P2, W]
  · by_cases ha : i.a = 0
    · have P3 := P3 [] (by simp)
      simp only [byt0] at P3
      simp only [go_sem, Nat.reduceAdd, Nat.reduceMul, Nat.reduceSub, Nat.reduceLT, Nat.reduceLeDiff, Nat.reduceEqDiff, Nat.reduceBEq, Nat.reduceBeqDiff, Int.reduceEq, Int.reduceLT, Int.reduceLE, Int.reduceToNat, Int.reduceNeg, Int.reduceAdd, Int.reduceSub, Int.reduceMul, reduceIte, reduceCtorEq, Nat.reducePow, Nat.reduceDiv, Nat.reduceMod, Int.reduceBEq, TInstr.d, h4, ha, P3]
    · have P3 := P3 [i.a % 256] (by simp)
      simp only [byt1] at P3
      simp only [go_sem, Nat.reduceAdd, Nat.reduceMul, Nat.reduceSub, Nat.reduceLT, Nat.reduceLeDiff, Nat.reduceEqDiff, Nat.reduceBEq, Nat.reduceBeqDiff, Int.reduceEq, Int.reduceLT, Int.reduceLE, Int.reduceToNat, Int.reduceNeg, Int.reduceAdd, Int.reduceSub, Int.reduceMul, reduceIte, reduceCtorEq, Nat.reducePow, Nat.reduceDiv, Nat.reduceMod, Int.reduceBEq, TInstr.d, h4, ha, P3, W]
def locS (env : TEnv) (w : WkS) (a : Int) : Int × WkS := match env.locs[a.toNat]? with
  | some t => (t, w)
  | none => (0, w.must false 6)
def globS (env : TEnv) (w : WkS) (a : Int) (set : Bool) : Int × WkS := match env.globals[a.toNat]? with
  | some g => (g.1, w.must (!set || g.2) 5)
  | none => (0, w.must false 6)
theorem local_ev (fu n : Nat) (e : TEnv) (w : WkS) (a : Int) (ha : 0 ≤ a) : evF (G fu) (n+2) 88 [.ptr 0 0, .d (.int .i64 a)] [.cells (ck e w)] = some (.d (.int .u8 (locS e w a).1), [.cells (ck e (locS e w a).2)]) := by
  have P := must_ev fu n e w
  rw [evF.eq_2, evX.eq_def, Gext, exts_no _ (f := 88) (by decide), GP, Tryd.func88]; simp only [Tryd.f88, evB]
  unfold locS
  by_cases h : a < e.locs.length
  · have hlt : a.toNat < e.locs.length := by omega
    have hx : (byt e.locs)[a.toNat]? = some (.int .u8 (e.locs.getD a.toNat 0)) := getD_map hlt
    have hx2 : e.locs[a.toNat]? = some (e.locs.getD a.toNat 0) := by simp [hlt]
    simp only [go_sem, Nat.reduceAdd, Nat.reduceMul, Nat.reduceSub, Nat.reduceLT, Nat.reduceLeDiff, Nat.reduceEqDiff, Nat.reduceBEq, Nat.reduceBeqDiff, Int.reduceEq, Int.reduceLT, Int.reduceLE, Int.reduceToNat, Int.reduceNeg, Int.reduceAdd, Int.reduceSub, Int.reduceMul, reduceIte, reduceCtorEq, Nat.reducePow, Nat.reduceDiv, Nat.reduceMod, Int.reduceBEq, byt_len, h, P, must_true', idx, ha, hx, hx2]
  · have hx2 : e.locs[a.toNat]? = none := List.getElem?_eq_none (by omega)
    simp only [go_sem, Nat.reduceAdd, Nat.reduceMul, Nat.reduceSub, Nat.reduceLT, Nat.reduceLeDiff, Nat.reduceEqDiff, Nat.reduceBEq, Nat.reduceBeqDiff, Int.reduceEq, Int.reduceLT, Int.reduceLE, Int.reduceToNat, Int.reduceNeg, Int.reduceAdd, Int.reduceSub, Int.reduceMul, reduceIte, reduceCtorEq, Nat.reducePow, Nat.reduceDiv, Nat.reduceMod, Int.reduceBEq, byt_len, h, P, hx2]
def gl0 : Int × Bool := (0, false)
theorem global_ev (fu n : Nat) (e : TEnv) (w : WkS) (a : Int) (set : Bool) (ha : 0 ≤ a) : evF (G fu) (n+2) 70 [.ptr 0 0, .d (.int .i64 a), .d (.bool set)] [.cells (ck e w)] = some (.d (.int .u8 (globS e w a set).1), [.cells (ck e (globS e w a set).2)]) := by
  have P := must_ev fu n e w
  rw [evF.eq_2, evX.eq_def, Gext, exts_no _ (f := 70) (by decide), GP, Tryd.func70]; simp only [Tryd.f70, evB]
  unfold globS
  by_cases h : a < e.globals.length
  · have hlt : a.toNat < e.globals.length := by omega
    have hx : (e.globals.map glD)[a.toNat]? = some (glD (e.globals.getD a.toNat gl0)) := getD_map hlt
    have hx2 : e.globals[a.toNat]? = some (e.globals.getD a.toNat gl0) := by simp [hlt]
    generalize e.globals.getD a.toNat gl0 = g at *
    obtain ⟨v, m⟩ := g
    cases m <;> cases set <;> simp only [go_sem, Nat.reduceAdd, Nat.reduceMul, Nat.reduceSub, Nat.reduceLT, Nat.reduceLeDiff, Nat.reduceEqDiff, Nat.reduceBEq, Nat.reduceBeqDiff, Int.reduceEq, Int.reduceLT, Int.reduceLE, Int.reduceToNat, Int.reduceNeg, Int.reduceAdd, Int.reduceSub, Int.reduceMul, reduceIte, reduceCtorEq, Nat.reducePow, Nat.reduceDiv, Nat.reduceMod, Int.reduceBEq, List.length_map, h, P, must_true', idx, ha, hx, hx2, glD]
  · have hx2 : e.globals[a.toNat]? = none := List.getElem?_eq_none (by omega)
    simp only [go_sem, Nat.reduceAdd, Nat.reduceMul, Nat.reduceSub, Nat.reduceLT, Nat.reduceLeDiff, Nat.reduceEqDiff, Nat.reduceBEq, Nat.reduceBeqDiff, Int.reduceEq, Int.reduceLT, Int.reduceLE, Int.reduceToNat, Int.reduceNeg, Int.reduceAdd, Int.reduceSub, Int.reduceMul, reduceIte, reduceCtorEq, Nat.reducePow, Nat.reduceDiv, Nat.reduceMod, Int.reduceBEq, List.length_map, h, P, hx2]
theorem Rm.loc {b : Nat} {e : TEnv} {w : WkS} {a : Int} (h : Rm b w.s) : Rm b (locS e w a).2.s := by
  unfold locS
  cases e.locs[a.toNat]? with
  | some t => exact h
  | none => exact h.must _ _
theorem Rm.glob {b : Nat} {e : TEnv} {w : WkS} {a : Int} {set : Bool} (h : Rm b w.s) : Rm b (globS e w a set).2.s := by
  unfold globS
  cases e.globals[a.toNat]? with
  | some t => exact h.must _ _
  | none => exact h.must _ _
theorem localOp_ev (fu n b : Nat) (e : TEnv) (w : WkS) (hb : b + 100 < fu) (hm : b + 100 < 1000000) (h : Rm b w.s) (i : TInstr) (ha : 0 ≤ i.a) (h34 : i.op = 32 ∨ i.op = 33 ∨ i.op = 34) : evF (G fu) (n+10) 71 [.ptr 0 0, .d i.d] [.cells (ck e w)] = some (.tup [], [.cells (ck e (variableS e w i))]) := by
  have P1 := local_ev fu (n+7) e w i.a ha
  have h1 : Rm b (locS e w i.a).2.s := h.loc
  have P2 := ckwant_ev fu n e (locS e w i.a).2 [(locS e w i.a).1] (h1.ok (by omega) (by omega)) (by simp)
  have h2 := h1.want [(locS e w i.a).1]
  have P3 := ckpush_ev fu n e (locS e w i.a).2 [(locS e w i.a).1] (h1.ok (by omega) (by omega)) (by simp) (by simp; omega) (by omega)
  have P4 := ckpush_ev fu n e ((locS e w i.a).2.want [(locS e w i.a).1]) [(locS e w i.a).1] (h2.ok (by omega) (by omega)) (by simp) (by simp; omega) (by omega)
  have hv : variableS e w i = (if i.op = 32 ∨ i.op = 34 ∨ i.op = 35 then (if i.op ≠ 32 ∧ i.op ≠ 35 then (locS e w i.a).2.want [(locS e w i.a).1] else (locS e w i.a).2).push [(locS e w i.a).1] else (if i.op ≠ 32 ∧ i.op ≠ 35 then (locS e w i.a).2.want [(locS e w i.a).1] else (locS e w i.a).2)) := by
    unfold variableS locS
    rw [if_pos (show i.op ≤ 34 by omega)]
    rfl
  rw [hv]
  rw [evF.eq_2, evX.eq_def, Gext, exts_no _ (f := 71) (by decide), GP, Tryd.func71]; simp only [Tryd.f71, evB]
  simp only [byt1] at P2 P3 P4
  generalize hop : i.op = op at *
  rcases h34 with rfl | rfl | rfl
  · simp only [go_sem, Nat.reduceAdd, Nat.reduceMul, Nat.reduceSub, Nat.reduceLT, Nat.reduceLeDiff, Nat.reduceEqDiff, Nat.reduceBEq, Nat.reduceBeqDiff, Int.reduceEq, Int.reduceLT, Int.reduceLE, Int.reduceToNat, Int.reduceNeg, Int.reduceAdd, Int.reduceSub, Int.reduceMul, reduceIte, reduceCtorEq, Nat.reducePow, Nat.reduceDiv, Nat.reduceMod, Int.reduceBEq, TInstr.d, hop, P1, P2, P3, P4, ne_eq]
  · simp only [go_sem, Nat.reduceAdd, Nat.reduceMul, Nat.reduceSub, Nat.reduceLT, Nat.reduceLeDiff, Nat.reduceEqDiff, Nat.reduceBEq, Nat.reduceBeqDiff, Int.reduceEq, Int.reduceLT, Int.reduceLE, Int.reduceToNat, Int.reduceNeg, Int.reduceAdd, Int.reduceSub, Int.reduceMul, reduceIte, reduceCtorEq, Nat.reducePow, Nat.reduceDiv, Nat.reduceMod, Int.reduceBEq, TInstr.d, hop, P1, P2, P3, P4, ne_eq]
  · simp only [go_sem, Nat.reduceAdd, Nat.reduceMul, Nat.reduceSub, Nat.reduceLT, Nat.reduceLeDiff, Nat.reduceEqDiff, Nat.reduceBEq, Nat.reduceBeqDiff, Int.reduceEq, Int.reduceLT, Int.reduceLE, Int.reduceToNat, Int.reduceNeg, Int.reduceAdd, Int.reduceSub, Int.reduceMul, reduceIte, reduceCtorEq, Nat.reducePow, Nat.reduceDiv, Nat.reduceMod, Int.reduceBEq, TInstr.d, hop, P1, P2, P3, P4, ne_eq]
end Go.Proofs.YtfpioigggjnffaaDoor.E

/- Chapter 10, plain: a path keeps it that no type is unknown where it is not dead; what is left at last. -/
set_option autoImplicit false
namespace Go.Proofs.YtfpioigggjnffaaDoor.E
open Go.Ev

def EnvOk (env : TEnv) : Prop := (∀ t ∈ env.types, NZ t.2) ∧ (∀ g ∈ env.globals, g.1 ≠ 0) ∧ NZ env.locs
variable {sane : TInstr → Bool} {acc : Int → Int × Int × Bool} {shape : Int → Option (List Int × Int)} {env : TEnv}

theorem WL.branch {w : WkS} (h : WL w) (i : TInstr) : WL (branchS env w i) := by
  unfold branchS
  by_cases h15 : i.op = 15
  · rw [if_pos h15]; exact (h.want _).kill
  · rw [if_neg h15]
    have h1 := (h.label i.a).labels (w.label i.a).1 i.labels
    have h2 : WL (if i.op = 12 then labelsS (w.label i.a).2 (w.label i.a).1 i.labels else (labelsS (w.label i.a).2 (w.label i.a).1 i.labels).want [127]) := by
      split
      · exact h1
      · exact h1.want _
    simp only
    by_cases h13 : i.op = 13
    · rw [if_pos h13]; exact (h2.want _).push (label_nz w i.a)
    · rw [if_neg h13]; exact (h2.want _).kill
theorem typeS_mem {f : Int} {t : List Int × List Int} (e : typeS env f = some t) : t ∈ env.types := by
  unfold typeS at e
  split at e
  · cases e
  · split at e
    · cases e
    · split at e
      · cases e
      · exact List.mem_of_getElem? e
theorem WL.call {w : WkS} (h : WL w) (he : EnvOk env) (i : TInstr) : WL (callS env w i) := by
  unfold callS
  simp only
  have ht : NZ (((if i.op = 17 then (if 0 < env.tables then env.types[i.a.toNat]? else none) else typeS env i.a).getD ([], [])).2) := by
    split
    · split
      · cases hh : env.types[i.a.toNat]? with
        | some t => exact he.1 t (List.mem_of_getElem? hh)
        | none => exact NZ.nil
      · exact NZ.nil
    · cases hh : typeS env i.a with
      | some t => exact he.1 t (typeS_mem hh)
      | none => exact NZ.nil
  refine WL.push (WL.want ?_ _) ht
  by_cases h17 : i.op = 17
  · rw [if_pos h17]; exact (h.must _ _).want _
  · rw [if_neg h17]; exact h.must _ _
theorem put_e0 {w : WkS} {r : Except Int Stk} (he : ∀ e, r = .error e → e ≠ 0) (h : (w.put r).e = 0) : w.e = 0 ∧ ∃ s, r = .ok s ∧ (w.put r).s = s := by
  unfold WkS.put at h ⊢
  by_cases h0 : w.e ≠ 0
  · rw [if_pos h0] at h; exact absurd h h0
  · rw [if_neg h0] at h ⊢
    cases r with
    | ok s => exact ⟨by simpa using h0, s, rfl, rfl⟩
    | error e => exact absurd h (he e rfl)
/-- a pop that went well: the same is open, and what came is known where it is not dead -/
theorem pop_nz {w : WkS} (h : WL w) (h0 : w.pop.2.e = 0) : w.e = 0 ∧ w.pop.2.s.ctrls = w.s.ctrls ∧ ∀ c, w.s.ctrls.getLast? = some c → c.dead = false → w.pop.1 ≠ 0 := by
  unfold WkS.pop at h0 ⊢
  cases hp : popS w.s with
  | ok r =>
    obtain ⟨t, s'⟩ := r
    rw [hp] at h0
    simp only at h0 ⊢
    obtain ⟨a, s, e1, e2⟩ := put_e0 (fun _ x => by cases x) h0
    cases e1
    refine ⟨a, by rw [e2]; exact (popS_ok hp).2.1, fun c hc hd => popS_nz (h a).2 hp hc hd⟩
  | error e =>
    rw [hp] at h0
    simp only at h0
    obtain ⟨_, s, e1, _⟩ := put_e0 (fun e' x => by cases x; have := popS_err hp; omega) h0
    cases e1
theorem must_e0 {w : WkS} {b : Bool} {e : Int} (he : e ≠ 0) (h : (w.must b e).e = 0) : w.e = 0 ∧ (w.must b e) = w := by
  unfold WkS.must at h ⊢
  split at h
  · exact absurd h he
  · rename_i hn; rw [if_neg hn]; exact ⟨h, rfl⟩
theorem WL.chosen {w : WkS} (h : WL w) (i : TInstr) : WL (chosenS w i) := by
  unfold chosenS
  by_cases h26 : i.op = 26
  · rw [if_pos h26]; exact h.pop
  · rw [if_neg h26]
    simp only
    have h1 := h.want [127]
    refine WL.pushIf ((h1.pop.pop).must _ _) fun h0 c hc hd => ?_
    obtain ⟨h2, h3⟩ := must_e0 (by decide) h0
    rw [h3] at hc
    obtain ⟨h4, h5, h6⟩ := pop_nz h1.pop h2
    obtain ⟨h7, h8, h9⟩ := pop_nz h1 h4
    rw [h5] at hc
    have hb := h6 c hc hd
    rw [h8] at hc
    have ha := h9 c hc hd
    split
    · exact NZ.one hb
    · exact NZ.one ha
theorem WL.nested {w : WkS} (h : WL w) (i : TInstr) : WL (nestedS w i) := by
  unfold nestedS
  by_cases h4 : i.op = 4
  · rw [if_pos h4]; exact (h.want _).opens _ _
  · rw [if_neg h4]
    by_cases h5 : i.op = 5
    · rw [if_pos h5]; exact (h.must _ _).closed.opens _ _
    · rw [if_neg h5]
      by_cases h11 : i.op = 11
      · rw [if_pos h11]; exact ((h.must _ _).closed.must _ _).push (closed_nz _)
      · rw [if_neg h11]; exact h.opens _ _
/-- pushing a type that stands for an error: no matter -/
theorem WL.pushE {w : WkS} (h : WL w) {l : List Int} (hl : w.e = 0 → NZ l) : WL (w.push l) := h.pushIf fun h0 _ _ _ => hl h0
theorem want_e0 {w : WkS} {l : List Int} (h : (w.want l).e = 0) : w.e = 0 := (put_e0 (fun _ x => by have := wantS_err x; omega) h).1
theorem WL.vars {w : WkS} (h : WL w) (he : EnvOk env) (i : TInstr) : WL (variableS env w i) := by
  unfold variableS
  simp only
  have key : ∀ r : Int × WkS, WL r.2 → (r.2.e = 0 → r.1 ≠ 0) → WL (if i.op = 32 ∨ i.op = 34 ∨ i.op = 35 then (if i.op ≠ 32 ∧ i.op ≠ 35 then r.2.want [r.1] else r.2).push [r.1] else (if i.op ≠ 32 ∧ i.op ≠ 35 then r.2.want [r.1] else r.2)) := fun r hr hz => by
    have h1 : WL (if i.op ≠ 32 ∧ i.op ≠ 35 then r.2.want [r.1] else r.2) := by
      split
      · exact hr.want _
      · exact hr
    have h2 : (if i.op ≠ 32 ∧ i.op ≠ 35 then r.2.want [r.1] else r.2).e = 0 → r.2.e = 0 := by
      split
      · exact want_e0
      · exact id
    split
    · exact h1.pushE fun h0 => NZ.one (hz (h2 h0))
    · exact h1
  have bad : ∀ x : WkS, (x.must false 6).e = 0 → (0 : Int) ≠ 0 := fun x hx => by
    unfold WkS.must at hx
    split at hx
    · exact absurd hx (show (6 : Int) ≠ 0 by decide)
    · rename_i hn; simp only [Bool.not_false, Bool.true_and, beq_iff_eq] at hn; exact absurd hx hn
  refine (fun (r : Int × WkS) (x : WL r.2 ∧ (r.2.e = 0 → r.1 ≠ 0)) => key r x.1 x.2) _ ?_
  split
  · cases hh : env.locs[i.a.toNat]? with
    | some t => exact ⟨h, fun _ => he.2.2 t (List.mem_of_getElem? hh)⟩
    | none => exact ⟨h.must _ _, bad w⟩
  · cases hh : env.globals[i.a.toNat]? with
    | some g => exact ⟨h.must _ _, fun _ => he.2.1 g (List.mem_of_getElem? hh)⟩
    | none => exact ⟨h.must _ _, bad w⟩
theorem WL.mem {w : WkS} (h : WL w) (i : TInstr) (ha : (acc i.op).1 ≠ 0 ∨ i.op = 63 ∨ i.op = 64) : WL (memoryS acc env w i) := by
  unfold memoryS
  simp only
  by_cases h63 : i.op = 63
  · rw [if_pos h63]; exact (h.must _ _).push (NZ.one (by decide))
  · rw [if_neg h63]
    by_cases h64 : i.op = 64
    · rw [if_pos h64]; exact ((h.must _ _).want _).push (NZ.one (by decide))
    · rw [if_neg h64]
      split
      · exact ((h.must _ _).must _ _).want _
      · exact (((h.must _ _).must _ _).want _).push (NZ.one (by omega))
theorem goS_live {s : Stk} {i : TInstr} (hs : saneS s = true) (hl : LiveOk s) (he : EnvOk env) (ha : 36 < i.op → i.op ≤ 64 → (acc i.op).1 ≠ 0 ∨ i.op = 63 ∨ i.op = 64) (hsh : ∀ p r, shape i.op = some (p, r) → r ≠ 0) :
    WL (goS acc shape env s i) := by
  have h : WL ⟨s, 0⟩ := fun _ => ⟨hs, hl⟩
  unfold goS
  simp only
  split
  · exact h.kill
  · split
    · exact h
    · split
      · exact h.nested i
      · split
        · exact h.branch i
        · split
          · exact h.call he i
          · split
            · exact h.chosen i
            · split
              · exact h.vars he i
              · split
                · exact h.mem i (ha (by omega) (by omega))
                · split
                  · exact h.push (NZ.one (by decide))
                  · split
                    · exact h.push (NZ.one (by decide))
                    · cases hh : shape i.op with
                      | none => exact h
                      | some r => exact (h.want _).push (NZ.one (hsh r.1 r.2 hh))
end Go.Proofs.YtfpioigggjnffaaDoor.E

/- Chapter 10, plain: what is open at first stays open; what is left at last is what it should. -/
set_option autoImplicit false
namespace Go.Proofs.YtfpioigggjnffaaDoor.E
open Go.Ev

variable {sane : TInstr → Bool} {acc : Int → Int × Int × Bool} {shape : Int → Option (List Int × Int)} {env : TEnv}

/-- all types are wanted and nothing is left: there were no more than wanted; where it is not dead, just these -/
theorem wantV_all {d : Bool} {l v v' : List Int} (e : wantV 0 d l v = .ok v') (h0 : v'.length = 0) :
    v.length ≤ l.length ∧ (d = false → NZ v → NZ l → v.reverse = l) := by
  induction l generalizing v with
  | nil => cases e; exact ⟨by omega, fun _ _ _ => by rw [List.length_eq_zero_iff.1 h0]; rfl⟩
  | cons t l ih =>
    simp only [wantV] at e
    cases hp : popV 0 d v with
    | error y => rw [hp] at e; cases e
    | ok r =>
      obtain ⟨c, w⟩ := r
      rw [hp] at e
      simp only at e
      split at e
      · cases e
      · rename_i hct
        obtain ⟨a, b⟩ := ih e
        unfold popV at hp
        by_cases hlt : (0 : Int) < v.length
        · rw [if_pos hlt] at hp
          cases hp
          rw [List.length_dropLast] at a
          refine ⟨by simp only [List.length_cons]; omega, fun hd hv hl => ?_⟩
          have hne : v ≠ [] := fun hh => by rw [hh] at hlt; simp at hlt
          have hlast : v = v.dropLast ++ [v.getLastD 0] := by
            have h1 := List.dropLast_concat_getLast hne
            rw [List.getLastD_eq_getLast?, List.getLast?_eq_some_getLast hne]
            exact h1.symm
          have hb := b hd (fun x hx => hv x ((List.dropLast_prefix v).subset hx)) (fun x hx => hl x (List.mem_cons_of_mem _ hx))
          have hc : v.getLastD 0 ≠ 0 := hv _ (by rw [hlast]; simp)
          have ht : t ≠ 0 := hl t (List.mem_cons_self ..)
          have heq : v.getLastD 0 = t := Decidable.byContradiction fun hne2 => hct ⟨hc, ht, hne2⟩
          rw [hlast, List.reverse_append, hb, heq]; rfl
        · rw [if_neg hlt] at hp
          cases d with
          | false => simp at hp
          | true =>
            simp only [if_true] at hp
            cases hp
            refine ⟨by simp only [List.length_cons]; omega, fun hd => by cases hd⟩
/-- WHAT FITS LEAVES WHAT IT SHOULD -/
theorem leavesP {s : Stk} {c : Ctl} {r : Ctl × Stk} (hl : LiveOk s) (hc : s.ctrls = [c]) (h0 : c.ht = 0) (e : closeS s = .ok r) :
    s.vals.length ≤ c.fin.length ∧ (c.dead = true ∨ s.vals = c.fin) := by
  obtain ⟨d, s'⟩ := r
  obtain ⟨_, hlast, _, _, hlen, hf⟩ := closeS_ok e
  rw [hc] at hlast
  have hdc : c = d := by simpa using hlast
  clear hlast
  subst hdc
  unfold closeS at e
  cases ht : topC s with
  | error x => rw [ht] at e; cases e
  | ok d' =>
    obtain ⟨_, h2⟩ := topC_ok ht
    rw [hc] at h2
    have hdc : c = d' := by simpa using h2
    clear h2
    subst hdc
    rw [ht] at e
    simp only at e
    cases hw : wantV c.ht c.dead c.fin.reverse s.vals with
    | error x => rw [hw] at e; cases e
    | ok v =>
      rw [hw] at e
      simp only at e
      split at e
      · cases e
      · cases e
        rw [h0] at hw
        obtain ⟨a, b⟩ := wantV_all hw (by simp only at hlen; omega)
        rw [List.length_reverse] at a
        refine ⟨a, ?_⟩
        cases hd : c.dead with
        | true => exact .inl rfl
        | false =>
          refine .inr ?_
          have hv : NZ s.vals := fun x hx => by
            obtain ⟨j, hj⟩ := List.getElem?_of_mem hx
            exact hl 0 c (by rw [hc]; rfl) hd j (by omega) (fun c' hc' => by rw [hc] at hc'; simp at hc') x hj
          have := b hd hv (fun x hx => finB_nz hf x (List.mem_reverse.1 hx))
          rw [← List.reverse_reverse s.vals, this, List.reverse_reverse]
end Go.Proofs.YtfpioigggjnffaaDoor.E

/- Chapter 10, plain: what is open at first is a block of the function's results, from height nought. -/
set_option autoImplicit false
namespace Go.Proofs.YtfpioigggjnffaaDoor.E
open Go.Ev

variable {sane : TInstr → Bool} {acc : Int → Int × Int × Bool} {shape : Int → Option (List Int × Int)} {env : TEnv}

def BaseOk (res : List Int) (s : Stk) : Prop := ∃ (d : Bool) (rest : List Ctl), s.ctrls = ⟨2, res, 0, d⟩ :: rest
variable {res : List Int}
def WB (res : List Int) (w : WkS) : Prop := w.e = 0 → BaseOk res w.s
theorem WB.put {w : WkS} {r : Except Int Stk} (hr : ∀ s, r = .ok s → w.e = 0 → BaseOk res s) (he : ∀ e, r = .error e → e ≠ 0) : WB res (w.put r) := by
  intro h
  obtain ⟨h0, s, e1, e2⟩ := put_e0 he h
  rw [e2]; exact hr s e1 h0
theorem BaseOk.same {s s' : Stk} (h : BaseOk res s) (hc : s'.ctrls = s.ctrls) : BaseOk res s' := by
  obtain ⟨d, rest, e⟩ := h; exact ⟨d, rest, hc.trans e⟩
theorem WB.want {w : WkS} (h : WB res w) (l : List Int) : WB res (w.want l) :=
  WB.put (fun _ e h0 => (h h0).same (wantS_ok e).2.1) (fun _ x => by have := wantS_err x; omega)
theorem WB.push {w : WkS} (h : WB res w) (l : List Int) : WB res (w.push l) :=
  WB.put (fun _ e h0 => (h h0).same (pushS_ok e).2.1) (fun _ x => by have := pushS_err x; omega)
theorem WB.kill {w : WkS} (h : WB res w) : WB res w.kill :=
  WB.put (fun s' e h0 => by
    obtain ⟨d, rest, hb⟩ := h h0
    obtain ⟨_, _, _, c, hlast, hc, _⟩ := killS_ok e
    rw [hb] at hlast hc
    cases rest with
    | nil =>
      have hdc : (⟨2, res, 0, d⟩ : Ctl) = c := by simpa using hlast
      subst hdc
      exact ⟨true, [], hc⟩
    | cons a rest =>
      exact ⟨d, (a :: rest).dropLast ++ [{ c with dead := true }], by rw [hc]; rfl⟩) (fun _ x => by have := killS_err x; omega)
theorem WB.opens {w : WkS} (h : WB res w) (op : Int) (l : List Int) : WB res (w.opens op l) :=
  WB.put (fun s' e h0 => by
    obtain ⟨d, rest, hb⟩ := h h0
    exact ⟨d, rest ++ [⟨op, l, w.s.vals.length, false⟩], by rw [(openS_ok e).2.1, hb]; rfl⟩) (fun _ x => by have := openS_err x; omega)
theorem WB.pop {w : WkS} (h : WB res w) : WB res w.pop.2 := by
  unfold WkS.pop
  cases hp : popS w.s with
  | ok r => obtain ⟨t, s'⟩ := r; exact WB.put (fun s e h0 => by cases e; exact (h h0).same (popS_ok hp).2.1) (fun _ x => by cases x)
  | error e => exact WB.put (fun s x => by cases x) (fun e' x => by cases x; have := popS_err hp; omega)
theorem WB.closed {w : WkS} (h : WB res w) (h1 : w.e = 0 → 1 < w.s.ctrls.length) : WB res w.closed.2 := by
  unfold WkS.closed
  cases hp : closeS w.s with
  | ok r =>
    obtain ⟨t, s'⟩ := r
    refine WB.put (fun s e h0 => ?_) (fun _ x => by cases x)
    cases e
    obtain ⟨d, rest, hb⟩ := h h0
    have hl := h1 h0
    have hc := (closeS_ok hp).2.2.1
    rw [hb] at hc hl
    cases rest with
    | nil => simp at hl
    | cons a rest => exact ⟨d, (a :: rest).dropLast, hc⟩
  | error e => exact WB.put (fun s x => by cases x) (fun e' x => by cases x; have := closeS_err hp; omega)
theorem WB.must {w : WkS} (h : WB res w) (b : Bool) (e : Int) : WB res (w.must b e) := by
  unfold WkS.must
  split
  · rename_i hh
    simp only [Bool.and_eq_true, beq_iff_eq] at hh
    intro _; exact h hh.2
  · exact h
theorem must_true {w : WkS} {b : Bool} {e : Int} (he : e ≠ 0) (h : (w.must b e).e = 0) : b = true := by
  unfold WkS.must at h
  split at h
  · exact absurd h he
  · rename_i hn
    cases b with
    | true => rfl
    | false => exact absurd (by simpa using h) (by simpa using hn)
theorem WB.label {w : WkS} (h : WB res w) (k : Int) : WB res (w.label k).2 := by
  unfold WkS.label
  cases labelS w.s k with
  | ok l => exact h
  | error e => exact h.must _ _
theorem WB.labels {w : WkS} (h : WB res w) (t l : List Int) : WB res (labelsS w t l) := by
  induction l generalizing w with
  | nil => exact h
  | cons a l ih => exact ih ((h.label a).must _ _)
theorem WB.branch {w : WkS} (h : WB res w) (i : TInstr) : WB res (branchS env w i) := by
  unfold branchS
  by_cases h15 : i.op = 15
  · rw [if_pos h15]; exact (h.want _).kill
  · rw [if_neg h15]
    have h1 := (h.label i.a).labels (w.label i.a).1 i.labels
    have h2 : WB res (if i.op = 12 then labelsS (w.label i.a).2 (w.label i.a).1 i.labels else (labelsS (w.label i.a).2 (w.label i.a).1 i.labels).want [127]) := by
      split
      · exact h1
      · exact h1.want _
    simp only
    by_cases h13 : i.op = 13
    · rw [if_pos h13]; exact (h2.want _).push _
    · rw [if_neg h13]; exact (h2.want _).kill
theorem WB.call {w : WkS} (h : WB res w) (i : TInstr) : WB res (callS env w i) := by
  unfold callS
  simp only
  refine WB.push (WB.want ?_ _) _
  by_cases h17 : i.op = 17
  · rw [if_pos h17]; exact (h.must _ _).want _
  · rw [if_neg h17]; exact h.must _ _
theorem WB.chosen {w : WkS} (h : WB res w) (i : TInstr) : WB res (chosenS w i) := by
  unfold chosenS
  by_cases h26 : i.op = 26
  · rw [if_pos h26]; exact h.pop
  · rw [if_neg h26]; exact (((h.want _).pop.pop).must _ _).push _
theorem WB.vars {w : WkS} (h : WB res w) (i : TInstr) : WB res (variableS env w i) := by
  unfold variableS
  simp only
  have key : ∀ r : Int × WkS, WB res r.2 → WB res (if i.op = 32 ∨ i.op = 34 ∨ i.op = 35 then (if i.op ≠ 32 ∧ i.op ≠ 35 then r.2.want [r.1] else r.2).push [r.1] else (if i.op ≠ 32 ∧ i.op ≠ 35 then r.2.want [r.1] else r.2)) := fun r hr => by
    have h1 : WB res (if i.op ≠ 32 ∧ i.op ≠ 35 then r.2.want [r.1] else r.2) := by
      split
      · exact hr.want _
      · exact hr
    split
    · exact h1.push _
    · exact h1
  refine key _ ?_
  split
  · cases env.locs[i.a.toNat]? with
    | some t => exact h
    | none => exact h.must _ _
  · cases env.globals[i.a.toNat]? with
    | some t => exact h.must _ _
    | none => exact h.must _ _
theorem WB.mem {w : WkS} (h : WB res w) (i : TInstr) : WB res (memoryS acc env w i) := by
  unfold memoryS
  simp only
  by_cases h63 : i.op = 63
  · rw [if_pos h63]; exact (h.must _ _).push _
  · rw [if_neg h63]
    by_cases h64 : i.op = 64
    · rw [if_pos h64]; exact ((h.must _ _).want _).push _
    · rw [if_neg h64]
      split
      · exact ((h.must _ _).must _ _).want _
      · exact (((h.must _ _).must _ _).want _).push _
theorem WB.nested {w : WkS} (h : WB res w) (i : TInstr) : WB res (nestedS w i) := by
  unfold nestedS
  by_cases h4 : i.op = 4
  · rw [if_pos h4]; exact (h.want _).opens _ _
  · rw [if_neg h4]
    by_cases h5 : i.op = 5
    · rw [if_pos h5]
      refine WB.opens (WB.closed (h.must _ _) fun h0 => ?_) _ _
      obtain ⟨h1, h2⟩ := must_e0 (by decide) h0
      have h3 := must_true (by decide) h0
      rw [h2]
      obtain ⟨d, rest, hb⟩ := h h1
      rw [hb]
      cases rest with
      | nil => unfold topIf at h3; rw [hb] at h3; simp at h3
      | cons a rest => simp
    · rw [if_neg h5]
      by_cases h11 : i.op = 11
      · rw [if_pos h11]
        refine ((WB.closed (h.must _ _) fun h0 => ?_).must _ _).push _
        obtain ⟨h1, h2⟩ := must_e0 (by decide) h0
        have h3 := must_true (by decide) h0
        rw [h2]; simpa using h3
      · rw [if_neg h11]; exact h.opens _ _
theorem goS_base {s : Stk} {i : TInstr} (hb : BaseOk res s) : WB res (goS acc shape env s i) := by
  have h : WB res ⟨s, 0⟩ := fun _ => hb
  unfold goS
  simp only
  split
  · exact h.kill
  · split
    · exact h
    · split
      · exact h.nested i
      · split
        · exact h.branch i
        · split
          · exact h.call i
          · split
            · exact h.chosen i
            · split
              · exact h.vars i
              · split
                · exact h.mem i
                · split
                  · exact h.push _
                  · split
                    · exact h.push _
                    · cases shape i.op with
                      | none => exact h
                      | some r => exact (h.want _).push _
end Go.Proofs.YtfpioigggjnffaaDoor.E

/- Chapter 10, plain: what holds of all stacks of a path. -/
set_option autoImplicit false
namespace Go.Proofs.YtfpioigggjnffaaDoor.E
open Go.Ev

variable {sane : TInstr → Bool} {acc : Int → Int × Int × Bool} {shape : Int → Option (List Int × Int)} {env : TEnv}

/-- What is asked of the tables: what may be has a code, a load or store a known type, an operator a known result. -/
structure TabOk (sane : TInstr → Bool) (acc : Int → Int × Int × Bool) (shape : Int → Option (List Int × Int)) : Prop where
  op : ∀ i, sane i = true → 0 ≤ i.op
  acc : ∀ i, sane i = true → 36 < i.op → i.op ≤ 64 → (acc i.op).1 ≠ 0 ∨ i.op = 63 ∨ i.op = 64
  shape : ∀ o p r, shape o = some (p, r) → r ≠ 0
structure SInv (env : TEnv) (s : Stk) : Prop where
  sane : saneS s = true
  live : LiveOk s
  base : BaseOk env.results s
def start (env : TEnv) : Stk := ⟨[], [⟨2, env.results, 0, false⟩]⟩
theorem start_inv (hf : finB env.results = true) : SInv env (start env) where
  sane := by simp [saneS, start, risesB, hf, typesB]
  live := fun k c hk hd j hj hn x hx => by simp [start] at hx
  base := ⟨false, [], rfl⟩
theorem start_open (hf : finB env.results = true) : openS ⟨[], []⟩ 2 env.results = .ok (start env) := by
  simp [openS, saneS, risesB, typesB, hf, start]
theorem stepS_parts {s s' : Stk} {i : TInstr} (e : stepS sane acc shape env s i = .ok s') : saneS s = true ∧ sane i = true ∧ (goS acc shape env s i).e = 0 ∧ (goS acc shape env s i).s = s' := by
  unfold stepS at e
  split at e
  · cases e
  · rename_i hh
    simp only [Bool.or_eq_true, Bool.not_eq_true', not_or, Bool.not_eq_false] at hh
    simp only at e
    split at e
    · cases e
    · rename_i he
      simp only [ne_eq, Classical.not_not] at he
      cases e
      exact ⟨hh.1, hh.2, he, rfl⟩
theorem step_inv (ht : TabOk sane acc shape) (he : EnvOk env) {s s' : Stk} {i : TInstr} (h : SInv env s) (e : stepS sane acc shape env s i = .ok s') :
    SInv env s' ∧ s'.ctrls.length = opensN i.op s.ctrls.length := by
  obtain ⟨h1, h2, h3, h4⟩ := stepS_parts e
  obtain ⟨d, rest, hb⟩ := h.base
  have hlen : s.ctrls.length = rest.length + 1 := by rw [hb]; rfl
  obtain ⟨_, _, h5, h6⟩ := stepS_ok e hlen (ht.op i)
  refine ⟨⟨h5, ?_, ?_⟩, by rw [h6, hlen]⟩
  · rw [← h4]; exact (goS_live h1 h.live he (ht.acc i h2) (fun p r => ht.shape i.op p r) h3).2
  · rw [← h4]; exact goS_base h.base h3
theorem path_inv (ht : TabOk sane acc shape) (he : EnvOk env) {s : Stk} {l : List TInstr} {p : List Stk} (h : SInv env s) (e : pathS sane acc shape env s l = .ok p) :
    ∀ (k : Nat) (x : Stk), p[k]? = some x → SInv env x := by
  induction l generalizing s p with
  | nil =>
    cases e
    intro k x hx
    cases k with
    | zero => simp only [List.getElem?_cons_zero] at hx; cases hx; exact h
    | succ k => simp at hx
  | cons i l ih =>
    obtain ⟨s', q, hs, hq, rfl⟩ := pathS_cons e
    intro k x hx
    cases k with
    | zero => simp only [List.getElem?_cons_zero] at hx; cases hx; exact h
    | succ k => exact ih (step_inv ht he h hs).1 hq k x (by simpa using hx)
/-- how many are open ahead of each, told by the codes alone -/
def openAt (l : List TInstr) (n : Nat) : Nat → Nat
  | 0 => n
  | k + 1 => match l[k]? with
    | some i => opensN i.op (openAt l n k)
    | none => openAt l n k
theorem path_open (ht : TabOk sane acc shape) (he : EnvOk env) {s : Stk} {l : List TInstr} {p : List Stk} (h : SInv env s) (e : pathS sane acc shape env s l = .ok p) :
    ∀ (k : Nat) (x : Stk), p[k]? = some x → x.ctrls.length = openAt l s.ctrls.length k := by
  obtain ⟨p0, pk⟩ := pathS_at e
  intro k
  induction k with
  | zero => intro x hx; rw [p0] at hx; cases hx; rfl
  | succ k ih =>
    intro x hx
    have hlt : k < l.length := by
      have := (List.getElem?_eq_some_iff.1 hx).1
      rw [pathS_len e] at this; omega
    obtain ⟨a, b, ha, hb, hst⟩ := pk k l[k] (List.getElem?_eq_getElem hlt)
    rw [hb] at hx; cases hx
    have := (step_inv ht he (path_inv ht he h e k a ha) hst).2
    rw [this, ih a ha]
    simp only [openAt, List.getElem?_eq_getElem hlt]
/-- CheckLeaves, plain: the last stack of a body that fits, with one thing open. -/
theorem last_leaves {s : Stk} {r : Ctl × Stk} (h : SInv env s) (h1 : s.ctrls.length = 1) (e : closeS s = .ok r) :
    ∃ d, s.ctrls = [⟨2, env.results, 0, d⟩] ∧ s.vals.length ≤ env.results.length ∧ (d = true ∨ s.vals = env.results) := by
  obtain ⟨d, rest, hb⟩ := h.base
  rw [hb] at h1
  obtain rfl : rest = [] := List.length_eq_zero_iff.1 (by simpa using h1)
  exact ⟨d, hb, leavesP h.live hb rfl e⟩
end Go.Proofs.YtfpioigggjnffaaDoor.E
