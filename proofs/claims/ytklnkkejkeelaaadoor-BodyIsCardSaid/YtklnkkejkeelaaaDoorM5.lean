/- The reading of the document's reader (avocetref05.Reader). -/
import Derived.Test.YtklnkkejkeelaaaDoorM3
import Derived.Test.YtklnkkejkeelaaaDoorL5
set_option linter.unnecessarySimpa false
set_option linter.unusedSimpArgs false
set_option linter.unusedVariables false
set_option autoImplicit false
set_option maxRecDepth 100000
set_option maxHeartbeats 4000000
set_option linter.unusedSimpArgs false
set_option linter.unusedVariables false
set_option pp.maxSteps 20000
namespace Go.Proofs.YtklnkkejkeelaaaDoor.E
open Go.Ev
theorem rByte_bad (fu n : Nat) (l : List Int) (p e : Int) (he : e ≠ 0) : evF (G fu) (n+1) 89 [.ptr 0 0] [rdr l p e] = some (.d (.int .i64 0), [rdr l p e]) := by
  rw [evF.eq_2, evX.eq_def, Gext, exts_no _ (f := 89) (by decide), GP, Tryd.func89]; simp only [Tryd.f89, evB]
  simp only [go_sem, Nat.reduceAdd, Nat.reduceMul, Nat.reduceSub, Nat.reduceLT, Nat.reduceLeDiff, Nat.reduceEqDiff, Nat.reduceBEq, Nat.reduceBeqDiff, Int.reduceEq, Int.reduceLT, Int.reduceLE, Int.reduceToNat, Int.reduceNeg, Int.reduceAdd, Int.reduceSub, Int.reduceMul, reduceIte, reduceCtorEq, Nat.reducePow, Nat.reduceDiv, Nat.reduceMod, Int.reduceBEq, rdr, he]
theorem rByte_end (fu n : Nat) (l : List Int) (x : Nat) (h : l.length ≤ x) : evF (G fu) (n+1) 89 [.ptr 0 0] [rdr l x 0] = some (.d (.int .i64 0), [rdr l x 2]) := by
  have h' : (l.length : Int) ≤ x := by omega
  rw [evF.eq_2, evX.eq_def, Gext, exts_no _ (f := 89) (by decide), GP, Tryd.func89]; simp only [Tryd.f89, evB]
  simp only [go_sem, Nat.reduceAdd, Nat.reduceMul, Nat.reduceSub, Nat.reduceLT, Nat.reduceLeDiff, Nat.reduceEqDiff, Nat.reduceBEq, Nat.reduceBeqDiff, Int.reduceEq, Int.reduceLT, Int.reduceLE, Int.reduceToNat, Int.reduceNeg, Int.reduceAdd, Int.reduceSub, Int.reduceMul, reduceIte, reduceCtorEq, Nat.reducePow, Nat.reduceDiv, Nat.reduceMod, Int.reduceBEq, rdr, byt_len, h']
theorem rByte_yes (fu n : Nat) (l : List Int) (hb : Bs l) (x : Nat) (h : x < l.length) (hl : l.length < 1099511627000) : evF (G fu) (n+1) 89 [.ptr 0 0] [rdr l x 0] = some (.d (.int .i64 (l.getD x 0)), [rdr l ((x + 1 : Nat) : Int) 0]) := by
  have h' : ¬ (l.length : Int) ≤ x := by omega
  have h2 : (x : Int) < l.length := by omega
  have hg : (byt l)[x]? = some (.int .u8 (l.getD x 0)) := getD_map h
  have w1 := wrap_i64 (show -9223372036854775808 ≤ (x : Int) + 1 by omega) (by omega)
  have hc := hb (l.getD x 0) (by rw [List.getD_eq_getElem?_getD, List.getElem?_eq_getElem h]; exact List.getElem_mem h)
  have w2 := wrap_i64 (show -9223372036854775808 ≤ l.getD x 0 by omega) (by omega)
  have w3 : IntKind.wrap .i64 ((x : Int) + 1 - 1) = x := by rw [wrap_i64 (by omega) (by omega)]; omega
  rw [evF.eq_2, evX.eq_def, Gext, exts_no _ (f := 89) (by decide), GP, Tryd.func89]; simp only [Tryd.f89, evB]
  simp only [go_sem, Nat.reduceAdd, Nat.reduceMul, Nat.reduceSub, Nat.reduceLT, Nat.reduceLeDiff, Nat.reduceEqDiff, Nat.reduceBEq, Nat.reduceBeqDiff, Int.reduceEq, Int.reduceLT, Int.reduceLE, Int.reduceToNat, Int.reduceNeg, Int.reduceAdd, Int.reduceSub, Int.reduceMul, reduceIte, reduceCtorEq, Nat.reducePow, Nat.reduceDiv, Nat.reduceMod, Int.reduceBEq, rdr, byt_len, h', h2, idx, hg, w1, w2, w3]
  rfl
theorem rFail_no (fu n : Nat) (l : List Int) (p e v : Int) : evF (G fu) (n+1) 90 [.ptr 0 0, .d (.bool false), .d (.int .i64 v)] [rdr l p e] = some (.tup [], [rdr l p e]) := by
  rw [evF.eq_2, evX.eq_def, Gext, exts_no _ (f := 90) (by decide), GP, Tryd.func90]; simp only [Tryd.f90, evB]
  simp only [go_sem, Nat.reduceAdd, Nat.reduceMul, Nat.reduceSub, Nat.reduceLT, Nat.reduceLeDiff, Nat.reduceEqDiff, Nat.reduceBEq, Nat.reduceBeqDiff, Int.reduceEq, Int.reduceLT, Int.reduceLE, Int.reduceToNat, Int.reduceNeg, Int.reduceAdd, Int.reduceSub, Int.reduceMul, reduceIte, reduceCtorEq, Nat.reducePow, Nat.reduceDiv, Nat.reduceMod, Int.reduceBEq, rdr]
theorem rFail_bad (fu n : Nat) (l : List Int) (p e v : Int) (b : Bool) (he : e ≠ 0) : evF (G fu) (n+1) 90 [.ptr 0 0, .d (.bool b), .d (.int .i64 v)] [rdr l p e] = some (.tup [], [rdr l p e]) := by
  rw [evF.eq_2, evX.eq_def, Gext, exts_no _ (f := 90) (by decide), GP, Tryd.func90]; simp only [Tryd.f90, evB]
  cases b <;> simp only [go_sem, Nat.reduceAdd, Nat.reduceMul, Nat.reduceSub, Nat.reduceLT, Nat.reduceLeDiff, Nat.reduceEqDiff, Nat.reduceBEq, Nat.reduceBeqDiff, Int.reduceEq, Int.reduceLT, Int.reduceLE, Int.reduceToNat, Int.reduceNeg, Int.reduceAdd, Int.reduceSub, Int.reduceMul, reduceIte, reduceCtorEq, Nat.reducePow, Nat.reduceDiv, Nat.reduceMod, Int.reduceBEq, rdr, he]
theorem rFail_yes (fu n : Nat) (l : List Int) (p v : Int) : evF (G fu) (n+1) 90 [.ptr 0 0, .d (.bool true), .d (.int .i64 v)] [rdr l p 0] = some (.tup [], [rdr l p v]) := by
  rw [evF.eq_2, evX.eq_def, Gext, exts_no _ (f := 90) (by decide), GP, Tryd.func90]; simp only [Tryd.f90, evB]
  simp only [go_sem, Nat.reduceAdd, Nat.reduceMul, Nat.reduceSub, Nat.reduceLT, Nat.reduceLeDiff, Nat.reduceEqDiff, Nat.reduceBEq, Nat.reduceBeqDiff, Int.reduceEq, Int.reduceLT, Int.reduceLE, Int.reduceToNat, Int.reduceNeg, Int.reduceAdd, Int.reduceSub, Int.reduceMul, reduceIte, reduceCtorEq, Nat.reducePow, Nat.reduceDiv, Nat.reduceMod, Int.reduceBEq, rdr]
theorem rU_bad (fu n : Nat) (l : List Int) (p e : Int) (he : e ≠ 0) : evF (G fu) (n+3) 91 [.ptr 0 0] [rdr l p e] = some (.d (.int .i64 0), [rdr l p e]) := by
  rw [evF.eq_2, evX.eq_def, Gext, exts_no _ (f := 91) (by decide), GP, Tryd.func91]; simp only [Tryd.f91, evB]
  simp only [go_sem, Nat.reduceAdd, Nat.reduceMul, Nat.reduceSub, Nat.reduceLT, Nat.reduceLeDiff, Nat.reduceEqDiff, Nat.reduceBEq, Nat.reduceBeqDiff, Int.reduceEq, Int.reduceLT, Int.reduceLE, Int.reduceToNat, Int.reduceNeg, Int.reduceAdd, Int.reduceSub, Int.reduceMul, reduceIte, reduceCtorEq, Nat.reducePow, Nat.reduceDiv, Nat.reduceMod, Int.reduceBEq, rdr, he]
def ruRes (l : List Int) (x : Nat) : Except Int (List Int) → Option Res
  | .error e => some (.d (.int .i64 0), [rdr l x e])
  | .ok ds => some (.d (.int .i64 (val ds)), [rdr l ((x + ds.length : Nat) : Int) 0])
theorem rU_ok (fu n : Nat) (l : List Int) (hb : Bs l) (x : Nat) (hf : 80 < fu) (hx : x ≤ l.length) (hl : l.length < 1099511627000) : evF (G fu) (n+3) 91 [.ptr 0 0] [rdr l x 0] = ruRes l x (rdU (l.drop x)) := by
  have hr := rReadU_ev fu n l hb x hf hx hl
  rw [evF.eq_2, evX.eq_def, Gext, exts_no _ (f := 91) (by decide), GP, Tryd.func91]; simp only [Tryd.f91, evB]
  cases hs : rdU (l.drop x) with
  | error e =>
    have he := rdU_err hs
    rw [hs] at hr
    simp only [rUR] at hr
    simp only [go_sem, Nat.reduceAdd, Nat.reduceMul, Nat.reduceSub, Nat.reduceLT, Nat.reduceLeDiff, Nat.reduceEqDiff, Nat.reduceBEq, Nat.reduceBeqDiff, Int.reduceEq, Int.reduceLT, Int.reduceLE, Int.reduceToNat, Int.reduceNeg, Int.reduceAdd, Int.reduceSub, Int.reduceMul, reduceIte, reduceCtorEq, Nat.reducePow, Nat.reduceDiv, Nat.reduceMod, Int.reduceBEq, rdr, hr, ruRes, he]
  | ok ds =>
    rw [hs] at hr
    simp only [rUR] at hr
    have h1 := rdU_lt (hb.drop x) hs
    have h2 := val_nonneg ds
    have w := wrap_i64 (show -9223372036854775808 ≤ val ds by omega) (by omega)
    simp only [go_sem, Nat.reduceAdd, Nat.reduceMul, Nat.reduceSub, Nat.reduceLT, Nat.reduceLeDiff, Nat.reduceEqDiff, Nat.reduceBEq, Nat.reduceBeqDiff, Int.reduceEq, Int.reduceLT, Int.reduceLE, Int.reduceToNat, Int.reduceNeg, Int.reduceAdd, Int.reduceSub, Int.reduceMul, reduceIte, reduceCtorEq, Nat.reducePow, Nat.reduceDiv, Nat.reduceMod, Int.reduceBEq, rdr, hr, ruRes, w]
    rfl
theorem rS_bad (fu n : Nat) (l : List Int) (p e v : Int) (he : e ≠ 0) : evF (G fu) (n+3) 93 [.ptr 0 0, .d (.int .i64 v)] [rdr l p e] = some (.d (.int .i64 0), [rdr l p e]) := by
  rw [evF.eq_2, evX.eq_def, Gext, exts_no _ (f := 93) (by decide), GP, Tryd.func93]; simp only [Tryd.f93, evB]
  simp only [go_sem, Nat.reduceAdd, Nat.reduceMul, Nat.reduceSub, Nat.reduceLT, Nat.reduceLeDiff, Nat.reduceEqDiff, Nat.reduceBEq, Nat.reduceBeqDiff, Int.reduceEq, Int.reduceLT, Int.reduceLE, Int.reduceToNat, Int.reduceNeg, Int.reduceAdd, Int.reduceSub, Int.reduceMul, reduceIte, reduceCtorEq, Nat.reducePow, Nat.reduceDiv, Nat.reduceMod, Int.reduceBEq, rdr, he]
def rsRes (l : List Int) (x : Nat) : Except Int (List Int) → Option Res
  | .error e => some (.d (.int .i64 0), [rdr l x e])
  | .ok ds => some (.d (.int .i64 (sval ds)), [rdr l ((x + ds.length : Nat) : Int) 0])
theorem rS_ok (w : Bool) (fu n : Nat) (l : List Int) (hb : Bs l) (x : Nat) (hf : 80 < fu) (hx : x ≤ l.length) (hl : l.length < 1099511627000) : evF (G fu) (n+3) 93 [.ptr 0 0, .d (.int .i64 (if w then 64 else 32))] [rdr l x 0] = rsRes l x (rdS w (l.drop x)) := by
  have hr := rReadS_ev w fu n l hb x hf hx hl
  generalize (if w then (64 : Int) else 32) = v at *
  rw [evF.eq_2, evX.eq_def, Gext, exts_no _ (f := 93) (by decide), GP, Tryd.func93]; simp only [Tryd.f93, evB]
  cases hs : rdS w (l.drop x) with
  | error e =>
    have he := rdS_err hs
    rw [hs] at hr
    simp only [rSR] at hr
    simp only [go_sem, Nat.reduceAdd, Nat.reduceMul, Nat.reduceSub, Nat.reduceLT, Nat.reduceLeDiff, Nat.reduceEqDiff, Nat.reduceBEq, Nat.reduceBeqDiff, Int.reduceEq, Int.reduceLT, Int.reduceLE, Int.reduceToNat, Int.reduceNeg, Int.reduceAdd, Int.reduceSub, Int.reduceMul, reduceIte, reduceCtorEq, Nat.reducePow, Nat.reduceDiv, Nat.reduceMod, Int.reduceBEq, rdr, hr, rsRes, he]
  | ok ds =>
    rw [hs] at hr
    simp only [rSR] at hr
    simp only [go_sem, Nat.reduceAdd, Nat.reduceMul, Nat.reduceSub, Nat.reduceLT, Nat.reduceLeDiff, Nat.reduceEqDiff, Nat.reduceBEq, Nat.reduceBeqDiff, Int.reduceEq, Int.reduceLT, Int.reduceLE, Int.reduceToNat, Int.reduceNeg, Int.reduceAdd, Int.reduceSub, Int.reduceMul, reduceIte, reduceCtorEq, Nat.reducePow, Nat.reduceDiv, Nat.reduceMod, Int.reduceBEq, rdr, hr, rsRes]
    rfl
end Go.Proofs.YtklnkkejkeelaaaDoor.E
