/- The reading of instr's reader. -/
import Derived.Test.YtklnkkejkeelaaaDoorL3
import Derived.Test.YtklnkkejkeelaaaDoorK3
set_option linter.unnecessarySimpa false
set_option linter.unusedSimpArgs false
set_option linter.unusedVariables false
set_option autoImplicit false
set_option maxRecDepth 100000
set_option maxHeartbeats 4000000
set_option linter.unusedSimpArgs false
set_option linter.unusedVariables false
set_option pp.maxSteps 20000
namespace Go.Proofs.YtklnkkejkeelaaaDoor.E
open Go.Ev
abbrev rdr (l : List Int) (p e : Int) : Go.Ev.Obj := .cells [.d (.list (byt l)), .d (.int .i64 p), .d (.int .i64 e)]
theorem byte_bad (fu n : Nat) (l : List Int) (p e : Int) (he : e ≠ 0) : evF (G fu) (n+1) 63 [.ptr 0 0] [rdr l p e] = some (.d (.int .i64 0), [rdr l p e]) := by
  rw [evF.eq_2, evX.eq_def, Gext, exts_no _ (f := 63) (by decide), GP, Tryd.func63]; simp only [Tryd.f63, evB]
  simp only [go_sem, Nat.reduceAdd, Nat.reduceMul, Nat.reduceSub, Nat.reduceLT, Nat.reduceLeDiff, Nat.reduceEqDiff, Nat.reduceBEq, Nat.reduceBeqDiff, Int.reduceEq, Int.reduceLT, Int.reduceLE, Int.reduceToNat, Int.reduceNeg, Int.reduceAdd, Int.reduceSub, Int.reduceMul, reduceIte, reduceCtorEq, Nat.reducePow, Nat.reduceDiv, Nat.reduceMod, Int.reduceBEq, rdr, he]
theorem byte_end (fu n : Nat) (l : List Int) (x : Nat) (h : l.length ≤ x) : evF (G fu) (n+1) 63 [.ptr 0 0] [rdr l x 0] = some (.d (.int .i64 0), [rdr l x 2]) := by
  have h' : (l.length : Int) ≤ x := by omega
  rw [evF.eq_2, evX.eq_def, Gext, exts_no _ (f := 63) (by decide), GP, Tryd.func63]; simp only [Tryd.f63, evB]
  simp only [go_sem, Nat.reduceAdd, Nat.reduceMul, Nat.reduceSub, Nat.reduceLT, Nat.reduceLeDiff, Nat.reduceEqDiff, Nat.reduceBEq, Nat.reduceBeqDiff, Int.reduceEq, Int.reduceLT, Int.reduceLE, Int.reduceToNat, Int.reduceNeg, Int.reduceAdd, Int.reduceSub, Int.reduceMul, reduceIte, reduceCtorEq, Nat.reducePow, Nat.reduceDiv, Nat.reduceMod, Int.reduceBEq, rdr, byt_len, h']
theorem byte_yes (fu n : Nat) (l : List Int) (hb : Bs l) (x : Nat) (h : x < l.length) (hl : l.length < 1099511627000) : evF (G fu) (n+1) 63 [.ptr 0 0] [rdr l x 0] = some (.d (.int .i64 (l.getD x 0)), [rdr l ((x + 1 : Nat) : Int) 0]) := by
  have h' : ¬ (l.length : Int) ≤ x := by omega
  have h2 : (x : Int) < l.length := by omega
  have hg : (byt l)[x]? = some (.int .u8 (l.getD x 0)) := getD_map h
  have w1 := wrap_i64 (show -9223372036854775808 ≤ (x : Int) + 1 by omega) (by omega)
  have hc := hb (l.getD x 0) (by rw [List.getD_eq_getElem?_getD, List.getElem?_eq_getElem h]; exact List.getElem_mem h)
  have w2 := wrap_i64 (show -9223372036854775808 ≤ l.getD x 0 by omega) (by omega)
  have w3 : IntKind.wrap .i64 ((x : Int) + 1 - 1) = x := by rw [wrap_i64 (by omega) (by omega)]; omega
  rw [evF.eq_2, evX.eq_def, Gext, exts_no _ (f := 63) (by decide), GP, Tryd.func63]; simp only [Tryd.f63, evB]
  simp only [go_sem, Nat.reduceAdd, Nat.reduceMul, Nat.reduceSub, Nat.reduceLT, Nat.reduceLeDiff, Nat.reduceEqDiff, Nat.reduceBEq, Nat.reduceBeqDiff, Int.reduceEq, Int.reduceLT, Int.reduceLE, Int.reduceToNat, Int.reduceNeg, Int.reduceAdd, Int.reduceSub, Int.reduceMul, reduceIte, reduceCtorEq, Nat.reducePow, Nat.reduceDiv, Nat.reduceMod, Int.reduceBEq, rdr, byt_len, h', h2, idx, hg, w1, w2, w3]
  rfl
theorem must_bad (fu n : Nat) (l : List Int) (p e v : Int) (b : Bool) (he : e ≠ 0) : evF (G fu) (n+1) 64 [.ptr 0 0, .d (.bool b), .d (.int .i64 v)] [rdr l p e] = some (.tup [], [rdr l p e]) := by
  rw [evF.eq_2, evX.eq_def, Gext, exts_no _ (f := 64) (by decide), GP, Tryd.func64]; simp only [Tryd.f64, evB]
  cases b <;> simp only [go_sem, Nat.reduceAdd, Nat.reduceMul, Nat.reduceSub, Nat.reduceLT, Nat.reduceLeDiff, Nat.reduceEqDiff, Nat.reduceBEq, Nat.reduceBeqDiff, Int.reduceEq, Int.reduceLT, Int.reduceLE, Int.reduceToNat, Int.reduceNeg, Int.reduceAdd, Int.reduceSub, Int.reduceMul, reduceIte, reduceCtorEq, Nat.reducePow, Nat.reduceDiv, Nat.reduceMod, Int.reduceBEq, rdr, he]
theorem must_ok (fu n : Nat) (l : List Int) (p v : Int) (b : Bool) : evF (G fu) (n+1) 64 [.ptr 0 0, .d (.bool b), .d (.int .i64 v)] [rdr l p 0] = some (.tup [], [rdr l p (if b then 0 else v)]) := by
  rw [evF.eq_2, evX.eq_def, Gext, exts_no _ (f := 64) (by decide), GP, Tryd.func64]; simp only [Tryd.f64, evB]
  cases b <;> simp only [go_sem, Nat.reduceAdd, Nat.reduceMul, Nat.reduceSub, Nat.reduceLT, Nat.reduceLeDiff, Nat.reduceEqDiff, Nat.reduceBEq, Nat.reduceBeqDiff, Int.reduceEq, Int.reduceLT, Int.reduceLE, Int.reduceToNat, Int.reduceNeg, Int.reduceAdd, Int.reduceSub, Int.reduceMul, reduceIte, reduceCtorEq, Nat.reducePow, Nat.reduceDiv, Nat.reduceMod, Int.reduceBEq, rdr]
theorem u_bad (fu n : Nat) (l : List Int) (p e : Int) (he : e ≠ 0) : evF (G fu) (n+5) 66 [.ptr 0 0] [rdr l p e] = some (.d (.int .i64 0), [rdr l p e]) := by
  rw [evF.eq_2, evX.eq_def, Gext, exts_no _ (f := 66) (by decide), GP, Tryd.func66]; simp only [Tryd.f66, evB]
  simp only [go_sem, Nat.reduceAdd, Nat.reduceMul, Nat.reduceSub, Nat.reduceLT, Nat.reduceLeDiff, Nat.reduceEqDiff, Nat.reduceBEq, Nat.reduceBeqDiff, Int.reduceEq, Int.reduceLT, Int.reduceLE, Int.reduceToNat, Int.reduceNeg, Int.reduceAdd, Int.reduceSub, Int.reduceMul, reduceIte, reduceCtorEq, Nat.reducePow, Nat.reduceDiv, Nat.reduceMod, Int.reduceBEq, rdr, he]
def uRes (l : List Int) (x : Nat) : Except Int (List Int) → Option Res
  | .error e => some (.d (.int .i64 0), [rdr l 0 e])
  | .ok ds => some (.d (.int .i64 (val ds)), [rdr l ((x + ds.length : Nat) : Int) 0])
theorem u_ok (fu n : Nat) (l : List Int) (hb : Bs l) (x : Nat) (hf : 10 < fu) (hx : x ≤ l.length) (hl : l.length < 1099511627000) : evF (G fu) (n+5) 66 [.ptr 0 0] [rdr l x 0] = uRes l x (rdU (l.drop x)) := by
  have hr := ReadU_ev fu n l hb x hf hx hl
  rw [evF.eq_2, evX.eq_def, Gext, exts_no _ (f := 66) (by decide), GP, Tryd.func66]; simp only [Tryd.f66, evB]
  cases hs : rdU (l.drop x) with
  | error e =>
    rw [hs] at hr
    simp only [rdUR] at hr
    simp only [go_sem, Nat.reduceAdd, Nat.reduceMul, Nat.reduceSub, Nat.reduceLT, Nat.reduceLeDiff, Nat.reduceEqDiff, Nat.reduceBEq, Nat.reduceBeqDiff, Int.reduceEq, Int.reduceLT, Int.reduceLE, Int.reduceToNat, Int.reduceNeg, Int.reduceAdd, Int.reduceSub, Int.reduceMul, reduceIte, reduceCtorEq, Nat.reducePow, Nat.reduceDiv, Nat.reduceMod, Int.reduceBEq, rdr, hr, uRes, show IntKind.wrap .i64 0 = 0 from rfl]
  | ok ds =>
    rw [hs] at hr
    simp only [rdUR] at hr
    have h1 := rdU_lt (hb.drop x) hs
    have h2 := val_nonneg ds
    have w := wrap_i64 (show -9223372036854775808 ≤ val ds by omega) (by omega)
    simp only [go_sem, Nat.reduceAdd, Nat.reduceMul, Nat.reduceSub, Nat.reduceLT, Nat.reduceLeDiff, Nat.reduceEqDiff, Nat.reduceBEq, Nat.reduceBeqDiff, Int.reduceEq, Int.reduceLT, Int.reduceLE, Int.reduceToNat, Int.reduceNeg, Int.reduceAdd, Int.reduceSub, Int.reduceMul, reduceIte, reduceCtorEq, Nat.reducePow, Nat.reduceDiv, Nat.reduceMod, Int.reduceBEq, rdr, hr, uRes, w]
    rfl
theorem s_bad (fu n : Nat) (l : List Int) (p e v : Int) (he : e ≠ 0) : evF (G fu) (n+5) 69 [.ptr 0 0, .d (.int .i64 v)] [rdr l p e] = some (.d (.int .i64 0), [rdr l p e]) := by
  rw [evF.eq_2, evX.eq_def, Gext, exts_no _ (f := 69) (by decide), GP, Tryd.func69]; simp only [Tryd.f69, evB]
  simp only [go_sem, Nat.reduceAdd, Nat.reduceMul, Nat.reduceSub, Nat.reduceLT, Nat.reduceLeDiff, Nat.reduceEqDiff, Nat.reduceBEq, Nat.reduceBeqDiff, Int.reduceEq, Int.reduceLT, Int.reduceLE, Int.reduceToNat, Int.reduceNeg, Int.reduceAdd, Int.reduceSub, Int.reduceMul, reduceIte, reduceCtorEq, Nat.reducePow, Nat.reduceDiv, Nat.reduceMod, Int.reduceBEq, rdr, he]
def sRes (l : List Int) (x : Nat) : Except Int (List Int) → Option Res
  | .error e => some (.d (.int .i64 0), [rdr l 0 e])
  | .ok ds => some (.d (.int .i64 (sval ds)), [rdr l ((x + ds.length : Nat) : Int) 0])
theorem s_ok (w : Bool) (fu n : Nat) (l : List Int) (hb : Bs l) (x : Nat) (hf : 10 < fu) (hx : x ≤ l.length) (hl : l.length < 1099511627000) : evF (G fu) (n+5) 69 [.ptr 0 0, .d (.int .i64 (if w then 64 else 32))] [rdr l x 0] = sRes l x (rdS w (l.drop x)) := by
  have hr := ReadS_ev w fu n l hb x hf hx hl
  generalize (if w then (64 : Int) else 32) = v at *
  rw [evF.eq_2, evX.eq_def, Gext, exts_no _ (f := 69) (by decide), GP, Tryd.func69]; simp only [Tryd.f69, evB]
  cases hs : rdS w (l.drop x) with
  | error e =>
    rw [hs] at hr
    simp only [rdSR] at hr
    simp only [go_sem, Nat.reduceAdd, Nat.reduceMul, Nat.reduceSub, Nat.reduceLT, Nat.reduceLeDiff, Nat.reduceEqDiff, Nat.reduceBEq, Nat.reduceBeqDiff, Int.reduceEq, Int.reduceLT, Int.reduceLE, Int.reduceToNat, Int.reduceNeg, Int.reduceAdd, Int.reduceSub, Int.reduceMul, reduceIte, reduceCtorEq, Nat.reducePow, Nat.reduceDiv, Nat.reduceMod, Int.reduceBEq, rdr, hr, sRes]
  | ok ds =>
    rw [hs] at hr
    simp only [rdSR] at hr
    simp only [go_sem, Nat.reduceAdd, Nat.reduceMul, Nat.reduceSub, Nat.reduceLT, Nat.reduceLeDiff, Nat.reduceEqDiff, Nat.reduceBEq, Nat.reduceBeqDiff, Int.reduceEq, Int.reduceLT, Int.reduceLE, Int.reduceToNat, Int.reduceNeg, Int.reduceAdd, Int.reduceSub, Int.reduceMul, reduceIte, reduceCtorEq, Nat.reducePow, Nat.reduceDiv, Nat.reduceMod, Int.reduceBEq, rdr, hr, sRes]
    rfl
theorem zero_bad (fu n : Nat) (l : List Int) (p e : Int) (he : e ≠ 0) : evF (G fu) (n+2) 68 [.ptr 0 0] [rdr l p e] = some (.tup [], [rdr l p e]) := by
  have h1 := byte_bad fu n l p e he
  have h2 := must_bad fu n l p e 3 true he
  simp only [rdr] at h1 h2 ⊢
  rw [evF.eq_2, evX.eq_def, Gext, exts_no _ (f := 68) (by decide), GP, Tryd.func68]; simp only [Tryd.f68, evB]
  simp only [go_sem, Nat.reduceAdd, Nat.reduceMul, Nat.reduceSub, Nat.reduceLT, Nat.reduceLeDiff, Nat.reduceEqDiff, Nat.reduceBEq, Nat.reduceBeqDiff, Int.reduceEq, Int.reduceLT, Int.reduceLE, Int.reduceToNat, Int.reduceNeg, Int.reduceAdd, Int.reduceSub, Int.reduceMul, reduceIte, reduceCtorEq, Nat.reducePow, Nat.reduceDiv, Nat.reduceMod, Int.reduceBEq, h1, h2]
def zRes (l : List Int) (x : Nat) : List Int → Option Res
  | [] => some (.tup [], [rdr l x 2])
  | c :: _ => some (.tup [], [rdr l ((x + 1 : Nat) : Int) (if c = 0 then 0 else 3)])
theorem zero_ok (fu n : Nat) (l : List Int) (hb : Bs l) (x : Nat) (hx : x ≤ l.length) (hl : l.length < 1099511627000) : evF (G fu) (n+2) 68 [.ptr 0 0] [rdr l x 0] = zRes l x (l.drop x) := by
  rcases Nat.lt_or_ge x l.length with h | h
  · have h1 := byte_yes fu n l hb x h hl
    have hd : l.drop x = l.getD x 0 :: l.drop (x + 1) := by
      rw [List.drop_eq_getElem_cons h, List.getD_eq_getElem?_getD, List.getElem?_eq_getElem h]; rfl
    rw [hd]
    generalize l.getD x 0 = c at *
    by_cases hc : c = 0
    · have h2 := must_ok fu n l ((x + 1 : Nat) : Int) 3 true
      simp only [rdr] at h1 h2
      rw [evF.eq_2, evX.eq_def, Gext, exts_no _ (f := 68) (by decide), GP, Tryd.func68]; simp only [Tryd.f68, evB]
      simp only [go_sem, Nat.reduceAdd, Nat.reduceMul, Nat.reduceSub, Nat.reduceLT, Nat.reduceLeDiff, Nat.reduceEqDiff, Nat.reduceBEq, Nat.reduceBeqDiff, Int.reduceEq, Int.reduceLT, Int.reduceLE, Int.reduceToNat, Int.reduceNeg, Int.reduceAdd, Int.reduceSub, Int.reduceMul, reduceIte, reduceCtorEq, Nat.reducePow, Nat.reduceDiv, Nat.reduceMod, Int.reduceBEq, rdr, h1, hc, h2, zRes]
    · have h2 := must_ok fu n l ((x + 1 : Nat) : Int) 3 false
      simp only [rdr] at h1 h2
      rw [evF.eq_2, evX.eq_def, Gext, exts_no _ (f := 68) (by decide), GP, Tryd.func68]; simp only [Tryd.f68, evB]
      simp only [go_sem, Nat.reduceAdd, Nat.reduceMul, Nat.reduceSub, Nat.reduceLT, Nat.reduceLeDiff, Nat.reduceEqDiff, Nat.reduceBEq, Nat.reduceBeqDiff, Int.reduceEq, Int.reduceLT, Int.reduceLE, Int.reduceToNat, Int.reduceNeg, Int.reduceAdd, Int.reduceSub, Int.reduceMul, reduceIte, reduceCtorEq, Nat.reducePow, Nat.reduceDiv, Nat.reduceMod, Int.reduceBEq, rdr, h1, hc, h2, zRes]
  · have h1 := byte_end fu n l x h
    have h2 := must_bad fu n l x 2 3 true (by decide)
    rw [List.drop_eq_nil_of_le h]
    simp only [rdr] at h1 h2
    rw [evF.eq_2, evX.eq_def, Gext, exts_no _ (f := 68) (by decide), GP, Tryd.func68]; simp only [Tryd.f68, evB]
    simp only [go_sem, Nat.reduceAdd, Nat.reduceMul, Nat.reduceSub, Nat.reduceLT, Nat.reduceLeDiff, Nat.reduceEqDiff, Nat.reduceBEq, Nat.reduceBeqDiff, Int.reduceEq, Int.reduceLT, Int.reduceLE, Int.reduceToNat, Int.reduceNeg, Int.reduceAdd, Int.reduceSub, Int.reduceMul, reduceIte, reduceCtorEq, Nat.reducePow, Nat.reduceDiv, Nat.reduceMod, Int.reduceBEq, rdr, h1, h2, zRes]
def bRes (l : List Int) (x : Nat) : List Int → Option Res
  | [] => some (.d (.int .i64 0), [rdr l x 2])
  | c :: _ => some (.d (.int .i64 (if c = 64 then 0 else c)), [rdr l ((x + 1 : Nat) : Int) (if c = 64 ∨ c = 127 ∨ c = 126 then 0 else 3)])
theorem block_ok (fu n : Nat) (l : List Int) (hb : Bs l) (x : Nat) (hx : x ≤ l.length) (hl : l.length < 1099511627000) : evF (G fu) (n+2) 65 [.ptr 0 0] [rdr l x 0] = bRes l x (l.drop x) := by
  rcases Nat.lt_or_ge x l.length with h | h
  · have h1 := byte_yes fu n l hb x h hl
    have hd : l.drop x = l.getD x 0 :: l.drop (x + 1) := by
      rw [List.drop_eq_getElem_cons h, List.getD_eq_getElem?_getD, List.getElem?_eq_getElem h]; rfl
    rw [hd]
    generalize l.getD x 0 = c at *
    have h2 := must_ok fu n l ((x + 1 : Nat) : Int) 3 true
    have h3 := must_ok fu n l ((x + 1 : Nat) : Int) 3 false
    simp only [rdr] at h1 h2 h3
    rw [evF.eq_2, evX.eq_def, Gext, exts_no _ (f := 65) (by decide), GP, Tryd.func65]; simp only [Tryd.f65, evB]
    by_cases c1 : c = 64
    · simp only [go_sem, Nat.reduceAdd, Nat.reduceMul, Nat.reduceSub, Nat.reduceLT, Nat.reduceLeDiff, Nat.reduceEqDiff, Nat.reduceBEq, Nat.reduceBeqDiff, Int.reduceEq, Int.reduceLT, Int.reduceLE, Int.reduceToNat, Int.reduceNeg, Int.reduceAdd, Int.reduceSub, Int.reduceMul, reduceIte, reduceCtorEq, Nat.reducePow, Nat.reduceDiv, Nat.reduceMod, Int.reduceBEq, rdr, h1, c1, h2, bRes]
    · by_cases c2 : c = 127
      · simp only [go_sem, Nat.reduceAdd, Nat.reduceMul, Nat.reduceSub, Nat.reduceLT, Nat.reduceLeDiff, Nat.reduceEqDiff, Nat.reduceBEq, Nat.reduceBeqDiff, Int.reduceEq, Int.reduceLT, Int.reduceLE, Int.reduceToNat, Int.reduceNeg, Int.reduceAdd, Int.reduceSub, Int.reduceMul, reduceIte, reduceCtorEq, Nat.reducePow, Nat.reduceDiv, Nat.reduceMod, Int.reduceBEq, rdr, h1, c1, c2, h2, bRes]
      · by_cases c3 : c = 126
        · simp only [go_sem, Nat.reduceAdd, Nat.reduceMul, Nat.reduceSub, Nat.reduceLT, Nat.reduceLeDiff, Nat.reduceEqDiff, Nat.reduceBEq, Nat.reduceBeqDiff, Int.reduceEq, Int.reduceLT, Int.reduceLE, Int.reduceToNat, Int.reduceNeg, Int.reduceAdd, Int.reduceSub, Int.reduceMul, reduceIte, reduceCtorEq, Nat.reducePow, Nat.reduceDiv, Nat.reduceMod, Int.reduceBEq, rdr, h1, c1, c2, c3, h2, bRes]
        · simp only [go_sem, Nat.reduceAdd, Nat.reduceMul, Nat.reduceSub, Nat.reduceLT, Nat.reduceLeDiff, Nat.reduceEqDiff, Nat.reduceBEq, Nat.reduceBeqDiff, Int.reduceEq, Int.reduceLT, Int.reduceLE, Int.reduceToNat, Int.reduceNeg, Int.reduceAdd, Int.reduceSub, Int.reduceMul, reduceIte, reduceCtorEq, Nat.reducePow, Nat.reduceDiv, Nat.reduceMod, Int.reduceBEq, rdr, h1, c1, c2, c3, h3, bRes]
  · have h1 := byte_end fu n l x h
    have h2 := must_bad fu n l x 2 3 false (by decide)
    rw [List.drop_eq_nil_of_le h]
    simp only [rdr] at h1 h2
    rw [evF.eq_2, evX.eq_def, Gext, exts_no _ (f := 65) (by decide), GP, Tryd.func65]; simp only [Tryd.f65, evB]
    simp only [go_sem, Nat.reduceAdd, Nat.reduceMul, Nat.reduceSub, Nat.reduceLT, Nat.reduceLeDiff, Nat.reduceEqDiff, Nat.reduceBEq, Nat.reduceBeqDiff, Int.reduceEq, Int.reduceLT, Int.reduceLE, Int.reduceToNat, Int.reduceNeg, Int.reduceAdd, Int.reduceSub, Int.reduceMul, reduceIte, reduceCtorEq, Nat.reducePow, Nat.reduceDiv, Nat.reduceMod, Int.reduceBEq, rdr, h1, h2, bRes]
end Go.Proofs.YtklnkkejkeelaaaDoor.E
