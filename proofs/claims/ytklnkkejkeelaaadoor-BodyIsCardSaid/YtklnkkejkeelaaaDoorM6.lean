/- The reading of the document's instructions (avocetref05.Reader.Instr). -/
import Derived.Test.YtklnkkejkeelaaaDoorM4
import Derived.Test.YtklnkkejkeelaaaDoorM5
import Derived.Test.YtklnkkejkeelaaaDoorL6
set_option linter.unnecessarySimpa false
set_option linter.unusedSimpArgs false
set_option linter.unusedVariables false
set_option autoImplicit false
set_option maxRecDepth 100000
set_option maxHeartbeats 4000000
set_option linter.unusedSimpArgs false
set_option linter.unusedVariables false
set_option linter.unusedSectionVars false
set_option pp.maxSteps 20000
namespace Go.Proofs.YtklnkkejkeelaaaDoor.E
open Go.Ev
def insR (l : List Int) (x : Nat) (r : Option Res) : Except Int (TInstr × Nat) → Prop
  | .error e => ∃ (i : TInstr) (p : Int), r = some (.d i.d, [rdr l p e])
  | .ok (i, c) => r = some (.d i.d, [rdr l ((x + c : Nat) : Int) 0])
theorem rInstr_end (fu n : Nat) (l : List Int) (x : Nat) (h : l.length ≤ x) : evF (G fu) (n+5) 71 [.ptr 0 0] [rdr l x 0] = some (.d in0.d, [rdr l x 2]) := by
  have hy := rByte_end fu (n+3) l x h
  have hk := rKind_ev fu (n+1) 0
  have hf := rFail_no fu (n+3) l x 2 3
  rw [show kindF 0 = 1 from rfl] at hk
  simp only [rdr] at hy hf ⊢
  rw [evF.eq_2, evX.eq_def, Gext, exts_no _ (f := 71) (by decide), GP, Tryd.func71]; simp only [Tryd.f71, evB]
  simp only [go_sem, Nat.reduceAdd, Nat.reduceMul, Nat.reduceSub, Nat.reduceLT, Nat.reduceLeDiff, Nat.reduceEqDiff, Nat.reduceBEq, Nat.reduceBeqDiff, Int.reduceEq, Int.reduceLT, Int.reduceLE, Int.reduceToNat, Int.reduceNeg, Int.reduceAdd, Int.reduceSub, Int.reduceMul, reduceIte, reduceCtorEq, Nat.reducePow, Nat.reduceDiv, Nat.reduceMod, Int.reduceBEq, hy, hk, hf, in0, TInstr.d]
section
variable (fu n : Nat) (l : List Int) (hb : Bs l) (x : Nat) (op : Int) (hfu : 80 < fu) (hx : x < l.length) (hl : l.length < 1099511627000) (hg : l.getD x 0 = op)
include hb hfu hx hl hg
theorem rInstr0 (hk : kindF op = 0) : insR l x (evF (G fu) (n+5) 71 [.ptr 0 0] [rdr l x 0]) (match decT op (l.drop (x + 1)) with
    | .error e => .error e
    | .ok (i, n) => .ok (i, n + 1)) := by
  have hy := rByte_yes fu (n+3) l hb x hx hl
  rw [hg] at hy
  have hkk := rKind_ev fu (n+1) op
  rw [hk] at hkk
  have hf0 := rFail_no fu (n+3) l ((x + 1 : Nat) : Int) 0 3
  have hx1 : x + 1 ≤ l.length := hx
  have hfy := rFail_yes fu (n+3) l ((x + 1 : Nat) : Int) 3
  have hT : decT op (l.drop (x + 1)) = .error 3 := by
    unfold decT
    simp only [hk, Int.reduceEq, if_true, if_false]
  rw [hT]
  refine ⟨⟨op, 0, 0, 0, []⟩, ((x + 1 : Nat) : Int), ?_⟩
  simp only [rdr, TInstr.d] at *
  rw [evF.eq_2, evX.eq_def, Gext, exts_no _ (f := 71) (by decide), GP, Tryd.func71]; simp only [Tryd.f71, evB]
  simp only [go_sem, Nat.reduceAdd, Nat.reduceMul, Nat.reduceSub, Nat.reduceLT, Nat.reduceLeDiff, Nat.reduceEqDiff, Nat.reduceBEq, Nat.reduceBeqDiff, Int.reduceEq, Int.reduceLT, Int.reduceLE, Int.reduceToNat, Int.reduceNeg, Int.reduceAdd, Int.reduceSub, Int.reduceMul, reduceIte, reduceCtorEq, Nat.reducePow, Nat.reduceDiv, Nat.reduceMod, Int.reduceBEq, hy, hkk, hf0, List.map_nil, hfy]
theorem rInstr1 (hk : kindF op = 1) : insR l x (evF (G fu) (n+5) 71 [.ptr 0 0] [rdr l x 0]) (match decT op (l.drop (x + 1)) with
    | .error e => .error e
    | .ok (i, n) => .ok (i, n + 1)) := by
  have hy := rByte_yes fu (n+3) l hb x hx hl
  rw [hg] at hy
  have hkk := rKind_ev fu (n+1) op
  rw [hk] at hkk
  have hf0 := rFail_no fu (n+3) l ((x + 1 : Nat) : Int) 0 3
  have hx1 : x + 1 ≤ l.length := hx
  have hT : decT op (l.drop (x + 1)) = .ok (⟨op, 0, 0, 0, []⟩, 0) := by
    unfold decT
    simp only [hk, Int.reduceEq, if_true, if_false, or_true, true_or]
  rw [hT]
  show _ = _
  rw [show x + (0 + 1) = x + 1 + (0) by omega]
  simp only [rdr, TInstr.d] at *
  rw [evF.eq_2, evX.eq_def, Gext, exts_no _ (f := 71) (by decide), GP, Tryd.func71]; simp only [Tryd.f71, evB]
  simp only [go_sem, Nat.reduceAdd, Nat.reduceMul, Nat.reduceSub, Nat.reduceLT, Nat.reduceLeDiff, Nat.reduceEqDiff, Nat.reduceBEq, Nat.reduceBeqDiff, Int.reduceEq, Int.reduceLT, Int.reduceLE, Int.reduceToNat, Int.reduceNeg, Int.reduceAdd, Int.reduceSub, Int.reduceMul, reduceIte, reduceCtorEq, Nat.reducePow, Nat.reduceDiv, Nat.reduceMod, Int.reduceBEq, hy, hkk, hf0, List.map_nil, hf0]
  try rfl
theorem rInstr2 (hk : kindF op = 2) : insR l x (evF (G fu) (n+5) 71 [.ptr 0 0] [rdr l x 0]) (match decT op (l.drop (x + 1)) with
    | .error e => .error e
    | .ok (i, n) => .ok (i, n + 1)) := by
  have hy := rByte_yes fu (n+3) l hb x hx hl
  rw [hg] at hy
  have hkk := rKind_ev fu (n+1) op
  rw [hk] at hkk
  have hf0 := rFail_no fu (n+3) l ((x + 1 : Nat) : Int) 0 3
  have hx1 : x + 1 ≤ l.length := hx
  rcases Nat.lt_or_ge (x + 1) l.length with h | h
  · have hz := rByte_yes fu (n+3) l hb (x + 1) h hl
    have hd2 : l.drop (x + 1) = l.getD (x + 1) 0 :: l.drop (x + 2) := by
      rw [List.drop_eq_getElem_cons h, List.getD_eq_getElem?_getD, List.getElem?_eq_getElem h]; rfl
    generalize l.getD (x + 1) 0 = c at *
    have hfn := rFail_no fu (n+3) l ((x + 1 + 1 : Nat) : Int) 0 3
    have hfy := rFail_yes fu (n+3) l ((x + 1 + 1 : Nat) : Int) 3
    by_cases c1 : c = 64
    · subst c1
      have hT : decT op (l.drop (x + 1)) = .ok (⟨op, 0, 0, 0, []⟩, 1) := by
        unfold decT
        simp only [hk, hd2, Int.reduceEq, if_true, if_false, or_true, true_or]
      rw [hT]
      show _ = _
      rw [show x + (1 + 1) = x + 1 + (1) by omega]
      simp only [rdr, TInstr.d] at *
      rw [evF.eq_2, evX.eq_def, Gext, exts_no _ (f := 71) (by decide), GP, Tryd.func71]; simp only [Tryd.f71, evB]
      simp only [go_sem, Nat.reduceAdd, Nat.reduceMul, Nat.reduceSub, Nat.reduceLT, Nat.reduceLeDiff, Nat.reduceEqDiff, Nat.reduceBEq, Nat.reduceBeqDiff, Int.reduceEq, Int.reduceLT, Int.reduceLE, Int.reduceToNat, Int.reduceNeg, Int.reduceAdd, Int.reduceSub, Int.reduceMul, reduceIte, reduceCtorEq, Nat.reducePow, Nat.reduceDiv, Nat.reduceMod, Int.reduceBEq, hy, hkk, hf0, List.map_nil, hz, hfn]
      try rfl
    · by_cases c2 : c = 126
      · subst c2
        have hT : decT op (l.drop (x + 1)) = .ok (⟨op, 126, 0, 0, []⟩, 1) := by
          unfold decT
          simp only [hk, hd2, Int.reduceEq, if_true, if_false, or_true, true_or]
        rw [hT]
        show _ = _
        rw [show x + (1 + 1) = x + 1 + (1) by omega]
        simp only [rdr, TInstr.d] at *
        rw [evF.eq_2, evX.eq_def, Gext, exts_no _ (f := 71) (by decide), GP, Tryd.func71]; simp only [Tryd.f71, evB]
        simp only [go_sem, Nat.reduceAdd, Nat.reduceMul, Nat.reduceSub, Nat.reduceLT, Nat.reduceLeDiff, Nat.reduceEqDiff, Nat.reduceBEq, Nat.reduceBeqDiff, Int.reduceEq, Int.reduceLT, Int.reduceLE, Int.reduceToNat, Int.reduceNeg, Int.reduceAdd, Int.reduceSub, Int.reduceMul, reduceIte, reduceCtorEq, Nat.reducePow, Nat.reduceDiv, Nat.reduceMod, Int.reduceBEq, hy, hkk, hf0, List.map_nil, hz, hfn]
        try rfl
      · by_cases c3 : c = 127
        · subst c3
          have hT : decT op (l.drop (x + 1)) = .ok (⟨op, 127, 0, 0, []⟩, 1) := by
            unfold decT
            simp only [hk, hd2, Int.reduceEq, if_true, if_false, or_true, true_or]
          rw [hT]
          show _ = _
          rw [show x + (1 + 1) = x + 1 + (1) by omega]
          simp only [rdr, TInstr.d] at *
          rw [evF.eq_2, evX.eq_def, Gext, exts_no _ (f := 71) (by decide), GP, Tryd.func71]; simp only [Tryd.f71, evB]
          simp only [go_sem, Nat.reduceAdd, Nat.reduceMul, Nat.reduceSub, Nat.reduceLT, Nat.reduceLeDiff, Nat.reduceEqDiff, Nat.reduceBEq, Nat.reduceBeqDiff, Int.reduceEq, Int.reduceLT, Int.reduceLE, Int.reduceToNat, Int.reduceNeg, Int.reduceAdd, Int.reduceSub, Int.reduceMul, reduceIte, reduceCtorEq, Nat.reducePow, Nat.reduceDiv, Nat.reduceMod, Int.reduceBEq, hy, hkk, hf0, List.map_nil, hz, hfn]
          try rfl
        · have hor : ¬ (c = 127 ∨ c = 126) := by omega
          have hT : decT op (l.drop (x + 1)) = .error 3 := by
            unfold decT
            simp only [hk, hd2, c1, hor, Int.reduceEq, if_true, if_false]
          rw [hT]
          refine ⟨⟨op, c, 0, 0, []⟩, ((x + 1 + 1 : Nat) : Int), ?_⟩
          simp only [rdr, TInstr.d] at *
          rw [evF.eq_2, evX.eq_def, Gext, exts_no _ (f := 71) (by decide), GP, Tryd.func71]; simp only [Tryd.f71, evB]
          simp only [go_sem, Nat.reduceAdd, Nat.reduceMul, Nat.reduceSub, Nat.reduceLT, Nat.reduceLeDiff, Nat.reduceEqDiff, Nat.reduceBEq, Nat.reduceBeqDiff, Int.reduceEq, Int.reduceLT, Int.reduceLE, Int.reduceToNat, Int.reduceNeg, Int.reduceAdd, Int.reduceSub, Int.reduceMul, reduceIte, reduceCtorEq, Nat.reducePow, Nat.reduceDiv, Nat.reduceMod, Int.reduceBEq, hy, hkk, hf0, List.map_nil, hz, hfy, c1, c2, c3]
  · have hz := rByte_end fu (n+3) l (x + 1) h
    have hd2 := List.drop_eq_nil_of_le h
    have hfn := rFail_bad fu (n+3) l ((x + 1 : Nat) : Int) 2 3 true (by decide)
    have hT : decT op (l.drop (x + 1)) = .error 2 := by
      unfold decT
      simp only [hk, hd2, Int.reduceEq, if_true, if_false]
    rw [hT]
    refine ⟨⟨op, 0, 0, 0, []⟩, ((x + 1 : Nat) : Int), ?_⟩
    simp only [rdr, TInstr.d] at *
    rw [evF.eq_2, evX.eq_def, Gext, exts_no _ (f := 71) (by decide), GP, Tryd.func71]; simp only [Tryd.f71, evB]
    simp only [go_sem, Nat.reduceAdd, Nat.reduceMul, Nat.reduceSub, Nat.reduceLT, Nat.reduceLeDiff, Nat.reduceEqDiff, Nat.reduceBEq, Nat.reduceBeqDiff, Int.reduceEq, Int.reduceLT, Int.reduceLE, Int.reduceToNat, Int.reduceNeg, Int.reduceAdd, Int.reduceSub, Int.reduceMul, reduceIte, reduceCtorEq, Nat.reducePow, Nat.reduceDiv, Nat.reduceMod, Int.reduceBEq, hy, hkk, hf0, List.map_nil, hz, hfn]
theorem rInstr3 (hk : kindF op = 3) : insR l x (evF (G fu) (n+5) 71 [.ptr 0 0] [rdr l x 0]) (match decT op (l.drop (x + 1)) with
    | .error e => .error e
    | .ok (i, n) => .ok (i, n + 1)) := by
  have hy := rByte_yes fu (n+3) l hb x hx hl
  rw [hg] at hy
  have hkk := rKind_ev fu (n+1) op
  rw [hk] at hkk
  have hf0 := rFail_no fu (n+3) l ((x + 1 : Nat) : Int) 0 3
  have hx1 : x + 1 ≤ l.length := hx
  have hu := rU_ok fu (n+1) l hb (x + 1) hfu hx1 hl
  cases hs : rdU (l.drop (x + 1)) with
  | error e =>
    have he := rdU_err hs
    rw [hs] at hu
    simp only [ruRes] at hu
    have hT : decT op (l.drop (x + 1)) = .error e := by
      unfold decT
      simp only [hk, hs, Int.reduceEq, if_true, if_false]
    rw [hT]
    refine ⟨⟨op, 0, 0, 0, []⟩, ((x + 1 : Nat) : Int), ?_⟩
    simp only [rdr, TInstr.d] at *
    rw [evF.eq_2, evX.eq_def, Gext, exts_no _ (f := 71) (by decide), GP, Tryd.func71]; simp only [Tryd.f71, evB]
    simp only [go_sem, Nat.reduceAdd, Nat.reduceMul, Nat.reduceSub, Nat.reduceLT, Nat.reduceLeDiff, Nat.reduceEqDiff, Nat.reduceBEq, Nat.reduceBeqDiff, Int.reduceEq, Int.reduceLT, Int.reduceLE, Int.reduceToNat, Int.reduceNeg, Int.reduceAdd, Int.reduceSub, Int.reduceMul, reduceIte, reduceCtorEq, Nat.reducePow, Nat.reduceDiv, Nat.reduceMod, Int.reduceBEq, hy, hkk, hf0, List.map_nil, hu]
  | ok ds =>
    rw [hs] at hu
    simp only [ruRes] at hu
    have hlen := rdU_len hs
    rw [List.length_drop] at hlen
    have hT : decT op (l.drop (x + 1)) = .ok (⟨op, val ds, 0, 0, []⟩, ds.length) := by
      unfold decT
      simp only [hk, hs, Int.reduceEq, if_true, if_false, or_true, true_or]
    rw [hT]
    show _ = _
    rw [show x + (ds.length + 1) = x + 1 + (ds.length) by omega]
    simp only [rdr, TInstr.d] at *
    rw [evF.eq_2, evX.eq_def, Gext, exts_no _ (f := 71) (by decide), GP, Tryd.func71]; simp only [Tryd.f71, evB]
    simp only [go_sem, Nat.reduceAdd, Nat.reduceMul, Nat.reduceSub, Nat.reduceLT, Nat.reduceLeDiff, Nat.reduceEqDiff, Nat.reduceBEq, Nat.reduceBeqDiff, Int.reduceEq, Int.reduceLT, Int.reduceLE, Int.reduceToNat, Int.reduceNeg, Int.reduceAdd, Int.reduceSub, Int.reduceMul, reduceIte, reduceCtorEq, Nat.reducePow, Nat.reduceDiv, Nat.reduceMod, Int.reduceBEq, hy, hkk, hf0, List.map_nil, hu]
    try rfl
theorem rInstr5 (hk : kindF op = 5) : insR l x (evF (G fu) (n+5) 71 [.ptr 0 0] [rdr l x 0]) (match decT op (l.drop (x + 1)) with
    | .error e => .error e
    | .ok (i, n) => .ok (i, n + 1)) := by
  have hy := rByte_yes fu (n+3) l hb x hx hl
  rw [hg] at hy
  have hkk := rKind_ev fu (n+1) op
  rw [hk] at hkk
  have hf0 := rFail_no fu (n+3) l ((x + 1 : Nat) : Int) 0 3
  have hx1 : x + 1 ≤ l.length := hx
  have hu := rU_ok fu (n+1) l hb (x + 1) hfu hx1 hl
  cases hs : rdU (l.drop (x + 1)) with
  | error e =>
    have he := rdU_err hs
    rw [hs] at hu
    simp only [ruRes] at hu
    have hz := rByte_bad fu (n+3) l ((x + 1 : Nat) : Int) e he
    have hfn := rFail_no fu (n+3) l ((x + 1 : Nat) : Int) e 3
    have hT : decT op (l.drop (x + 1)) = .error e := by
      unfold decT
      simp only [hk, hs, Int.reduceEq, if_true, if_false]
    rw [hT]
    refine ⟨⟨op, 0, 0, 0, []⟩, ((x + 1 : Nat) : Int), ?_⟩
    simp only [rdr, TInstr.d] at *
    rw [evF.eq_2, evX.eq_def, Gext, exts_no _ (f := 71) (by decide), GP, Tryd.func71]; simp only [Tryd.f71, evB]
    simp only [go_sem, Nat.reduceAdd, Nat.reduceMul, Nat.reduceSub, Nat.reduceLT, Nat.reduceLeDiff, Nat.reduceEqDiff, Nat.reduceBEq, Nat.reduceBeqDiff, Int.reduceEq, Int.reduceLT, Int.reduceLE, Int.reduceToNat, Int.reduceNeg, Int.reduceAdd, Int.reduceSub, Int.reduceMul, reduceIte, reduceCtorEq, Nat.reducePow, Nat.reduceDiv, Nat.reduceMod, Int.reduceBEq, hy, hkk, hf0, List.map_nil, hu, hz, hfn]
  | ok ds =>
    rw [hs] at hu
    simp only [ruRes] at hu
    have hlen := rdU_len hs
    rw [List.length_drop] at hlen
    rcases Nat.lt_or_ge (x + 1 + ds.length) l.length with h | h
    · have hz := rByte_yes fu (n+3) l hb (x + 1 + ds.length) h hl
      have hd2 : l.drop (x + 1 + ds.length) = l.getD (x + 1 + ds.length) 0 :: l.drop (x + 1 + ds.length + 1) := by
        rw [List.drop_eq_getElem_cons h, List.getD_eq_getElem?_getD, List.getElem?_eq_getElem h]; rfl
      generalize l.getD (x + 1 + ds.length) 0 = c at *
      have hfn := rFail_no fu (n+3) l ((x + 1 + ds.length + 1 : Nat) : Int) 0 3
      have hfy := rFail_yes fu (n+3) l ((x + 1 + ds.length + 1 : Nat) : Int) 3
      by_cases c0 : c = 0
      · subst c0
        have hT : decT op (l.drop (x + 1)) = .ok (⟨op, val ds, 0, 0, []⟩, ds.length + 1) := by
          unfold decT
          simp only [hk, hs, List.drop_drop, hd2, Int.reduceEq, if_true, if_false, or_true, true_or]
        rw [hT]
        show _ = _
        rw [show x + (ds.length + 1 + 1) = x + 1 + (ds.length + 1) by omega]
        simp only [rdr, TInstr.d] at *
        rw [evF.eq_2, evX.eq_def, Gext, exts_no _ (f := 71) (by decide), GP, Tryd.func71]; simp only [Tryd.f71, evB]
        simp only [go_sem, Nat.reduceAdd, Nat.reduceMul, Nat.reduceSub, Nat.reduceLT, Nat.reduceLeDiff, Nat.reduceEqDiff, Nat.reduceBEq, Nat.reduceBeqDiff, Int.reduceEq, Int.reduceLT, Int.reduceLE, Int.reduceToNat, Int.reduceNeg, Int.reduceAdd, Int.reduceSub, Int.reduceMul, reduceIte, reduceCtorEq, Nat.reducePow, Nat.reduceDiv, Nat.reduceMod, Int.reduceBEq, hy, hkk, hf0, List.map_nil, hu, hz, hfn]
        try rfl
      · skip
        have hT : decT op (l.drop (x + 1)) = .error 3 := by
          unfold decT
          simp only [hk, hs, List.drop_drop, hd2, c0, Int.reduceEq, if_true, if_false]
        rw [hT]
        refine ⟨⟨op, val ds, 0, 0, []⟩, ((x + 1 + ds.length + 1 : Nat) : Int), ?_⟩
        simp only [rdr, TInstr.d] at *
        rw [evF.eq_2, evX.eq_def, Gext, exts_no _ (f := 71) (by decide), GP, Tryd.func71]; simp only [Tryd.f71, evB]
        simp only [go_sem, Nat.reduceAdd, Nat.reduceMul, Nat.reduceSub, Nat.reduceLT, Nat.reduceLeDiff, Nat.reduceEqDiff, Nat.reduceBEq, Nat.reduceBeqDiff, Int.reduceEq, Int.reduceLT, Int.reduceLE, Int.reduceToNat, Int.reduceNeg, Int.reduceAdd, Int.reduceSub, Int.reduceMul, reduceIte, reduceCtorEq, Nat.reducePow, Nat.reduceDiv, Nat.reduceMod, Int.reduceBEq, hy, hkk, hf0, List.map_nil, hu, hz, hfy, c0]
    · have hz := rByte_end fu (n+3) l (x + 1 + ds.length) h
      have hd2 := List.drop_eq_nil_of_le h
      have hfn := rFail_no fu (n+3) l ((x + 1 + ds.length : Nat) : Int) 2 3
      have hT : decT op (l.drop (x + 1)) = .error 2 := by
        unfold decT
        simp only [hk, hs, List.drop_drop, hd2, Int.reduceEq, if_true, if_false]
      rw [hT]
      refine ⟨⟨op, val ds, 0, 0, []⟩, ((x + 1 + ds.length : Nat) : Int), ?_⟩
      simp only [rdr, TInstr.d] at *
      rw [evF.eq_2, evX.eq_def, Gext, exts_no _ (f := 71) (by decide), GP, Tryd.func71]; simp only [Tryd.f71, evB]
      simp only [go_sem, Nat.reduceAdd, Nat.reduceMul, Nat.reduceSub, Nat.reduceLT, Nat.reduceLeDiff, Nat.reduceEqDiff, Nat.reduceBEq, Nat.reduceBeqDiff, Int.reduceEq, Int.reduceLT, Int.reduceLE, Int.reduceToNat, Int.reduceNeg, Int.reduceAdd, Int.reduceSub, Int.reduceMul, reduceIte, reduceCtorEq, Nat.reducePow, Nat.reduceDiv, Nat.reduceMod, Int.reduceBEq, hy, hkk, hf0, List.map_nil, hu, hz, hfn]
theorem rInstr6 (hk : kindF op = 6) : insR l x (evF (G fu) (n+5) 71 [.ptr 0 0] [rdr l x 0]) (match decT op (l.drop (x + 1)) with
    | .error e => .error e
    | .ok (i, n) => .ok (i, n + 1)) := by
  have hy := rByte_yes fu (n+3) l hb x hx hl
  rw [hg] at hy
  have hkk := rKind_ev fu (n+1) op
  rw [hk] at hkk
  have hf0 := rFail_no fu (n+3) l ((x + 1 : Nat) : Int) 0 3
  have hx1 : x + 1 ≤ l.length := hx
  have hu := rU_ok fu (n+1) l hb (x + 1) hfu hx1 hl
  cases hs : rdU (l.drop (x + 1)) with
  | error e =>
    have he := rdU_err hs
    rw [hs] at hu
    simp only [ruRes] at hu
    have hz := rU_bad fu (n+1) l ((x + 1 : Nat) : Int) e he
    have hT : decT op (l.drop (x + 1)) = .error e := by
      unfold decT
      simp only [hk, hs, Int.reduceEq, if_true, if_false]
    rw [hT]
    refine ⟨⟨op, 0, 0, 0, []⟩, ((x + 1 : Nat) : Int), ?_⟩
    simp only [rdr, TInstr.d] at *
    rw [evF.eq_2, evX.eq_def, Gext, exts_no _ (f := 71) (by decide), GP, Tryd.func71]; simp only [Tryd.f71, evB]
    simp only [go_sem, Nat.reduceAdd, Nat.reduceMul, Nat.reduceSub, Nat.reduceLT, Nat.reduceLeDiff, Nat.reduceEqDiff, Nat.reduceBEq, Nat.reduceBeqDiff, Int.reduceEq, Int.reduceLT, Int.reduceLE, Int.reduceToNat, Int.reduceNeg, Int.reduceAdd, Int.reduceSub, Int.reduceMul, reduceIte, reduceCtorEq, Nat.reducePow, Nat.reduceDiv, Nat.reduceMod, Int.reduceBEq, hy, hkk, hf0, List.map_nil, hu, hz]
  | ok ds =>
    rw [hs] at hu
    simp only [ruRes] at hu
    have hlen := rdU_len hs
    rw [List.length_drop] at hlen
    have hz := rU_ok fu (n+1) l hb (x + 1 + ds.length) hfu (by omega) hl
    cases hs2 : rdU (l.drop (x + 1 + ds.length)) with
    | error e =>
      rw [hs2] at hz
      simp only [ruRes] at hz
      have hT : decT op (l.drop (x + 1)) = .error e := by
        unfold decT
        simp only [hk, hs, List.drop_drop, hs2, Int.reduceEq, if_true, if_false]
      rw [hT]
      refine ⟨⟨op, val ds, 0, 0, []⟩, ((x + 1 + ds.length : Nat) : Int), ?_⟩
      simp only [rdr, TInstr.d] at *
      rw [evF.eq_2, evX.eq_def, Gext, exts_no _ (f := 71) (by decide), GP, Tryd.func71]; simp only [Tryd.f71, evB]
      simp only [go_sem, Nat.reduceAdd, Nat.reduceMul, Nat.reduceSub, Nat.reduceLT, Nat.reduceLeDiff, Nat.reduceEqDiff, Nat.reduceBEq, Nat.reduceBeqDiff, Int.reduceEq, Int.reduceLT, Int.reduceLE, Int.reduceToNat, Int.reduceNeg, Int.reduceAdd, Int.reduceSub, Int.reduceMul, reduceIte, reduceCtorEq, Nat.reducePow, Nat.reduceDiv, Nat.reduceMod, Int.reduceBEq, hy, hkk, hf0, List.map_nil, hu, hz]
    | ok d2 =>
      rw [hs2] at hz
      simp only [ruRes] at hz
      rw [Nat.add_assoc (x + 1)] at hz
      have hT : decT op (l.drop (x + 1)) = .ok (⟨op, val ds, val d2, 0, []⟩, ds.length + d2.length) := by
        unfold decT
        simp only [hk, hs, List.drop_drop, hs2, Int.reduceEq, if_true, if_false, or_true, true_or]
      rw [hT]
      show _ = _
      rw [show x + (ds.length + d2.length + 1) = x + 1 + (ds.length + d2.length) by omega]
      simp only [rdr, TInstr.d] at *
      rw [evF.eq_2, evX.eq_def, Gext, exts_no _ (f := 71) (by decide), GP, Tryd.func71]; simp only [Tryd.f71, evB]
      simp only [go_sem, Nat.reduceAdd, Nat.reduceMul, Nat.reduceSub, Nat.reduceLT, Nat.reduceLeDiff, Nat.reduceEqDiff, Nat.reduceBEq, Nat.reduceBeqDiff, Int.reduceEq, Int.reduceLT, Int.reduceLE, Int.reduceToNat, Int.reduceNeg, Int.reduceAdd, Int.reduceSub, Int.reduceMul, reduceIte, reduceCtorEq, Nat.reducePow, Nat.reduceDiv, Nat.reduceMod, Int.reduceBEq, hy, hkk, hf0, List.map_nil, hu, hz]
      try rfl
theorem rInstr7 (hk : kindF op = 7) : insR l x (evF (G fu) (n+5) 71 [.ptr 0 0] [rdr l x 0]) (match decT op (l.drop (x + 1)) with
    | .error e => .error e
    | .ok (i, n) => .ok (i, n + 1)) := by
  have hy := rByte_yes fu (n+3) l hb x hx hl
  rw [hg] at hy
  have hkk := rKind_ev fu (n+1) op
  rw [hk] at hkk
  have hf0 := rFail_no fu (n+3) l ((x + 1 : Nat) : Int) 0 3
  have hx1 : x + 1 ≤ l.length := hx
  rcases Nat.lt_or_ge (x + 1) l.length with h | h
  · have hz := rByte_yes fu (n+3) l hb (x + 1) h hl
    have hd2 : l.drop (x + 1) = l.getD (x + 1) 0 :: l.drop (x + 2) := by
      rw [List.drop_eq_getElem_cons h, List.getD_eq_getElem?_getD, List.getElem?_eq_getElem h]; rfl
    generalize l.getD (x + 1) 0 = c at *
    have hfn := rFail_no fu (n+3) l ((x + 1 + 1 : Nat) : Int) 0 3
    have hfy := rFail_yes fu (n+3) l ((x + 1 + 1 : Nat) : Int) 3
    by_cases c0 : c = 0
    · subst c0
      have hT : decT op (l.drop (x + 1)) = .ok (⟨op, 0, 0, 0, []⟩, 1) := by
        unfold decT
        simp only [hk, hd2, Int.reduceEq, if_true, if_false, or_true, true_or]
      rw [hT]
      show _ = _
      rw [show x + (1 + 1) = x + 1 + (1) by omega]
      simp only [rdr, TInstr.d] at *
      rw [evF.eq_2, evX.eq_def, Gext, exts_no _ (f := 71) (by decide), GP, Tryd.func71]; simp only [Tryd.f71, evB]
      simp only [go_sem, Nat.reduceAdd, Nat.reduceMul, Nat.reduceSub, Nat.reduceLT, Nat.reduceLeDiff, Nat.reduceEqDiff, Nat.reduceBEq, Nat.reduceBeqDiff, Int.reduceEq, Int.reduceLT, Int.reduceLE, Int.reduceToNat, Int.reduceNeg, Int.reduceAdd, Int.reduceSub, Int.reduceMul, reduceIte, reduceCtorEq, Nat.reducePow, Nat.reduceDiv, Nat.reduceMod, Int.reduceBEq, hy, hkk, hf0, List.map_nil, hz, hfn]
      try rfl
    · skip
      have hT : decT op (l.drop (x + 1)) = .error 3 := by
        unfold decT
        simp only [hk, hd2, c0, Int.reduceEq, if_true, if_false]
      rw [hT]
      refine ⟨⟨op, 0, 0, 0, []⟩, ((x + 1 + 1 : Nat) : Int), ?_⟩
      simp only [rdr, TInstr.d] at *
      rw [evF.eq_2, evX.eq_def, Gext, exts_no _ (f := 71) (by decide), GP, Tryd.func71]; simp only [Tryd.f71, evB]
      simp only [go_sem, Nat.reduceAdd, Nat.reduceMul, Nat.reduceSub, Nat.reduceLT, Nat.reduceLeDiff, Nat.reduceEqDiff, Nat.reduceBEq, Nat.reduceBeqDiff, Int.reduceEq, Int.reduceLT, Int.reduceLE, Int.reduceToNat, Int.reduceNeg, Int.reduceAdd, Int.reduceSub, Int.reduceMul, reduceIte, reduceCtorEq, Nat.reducePow, Nat.reduceDiv, Nat.reduceMod, Int.reduceBEq, hy, hkk, hf0, List.map_nil, hz, hfy, c0]
  · have hz := rByte_end fu (n+3) l (x + 1) h
    have hd2 := List.drop_eq_nil_of_le h
    have hfn := rFail_no fu (n+3) l ((x + 1 : Nat) : Int) 2 3
    have hT : decT op (l.drop (x + 1)) = .error 2 := by
      unfold decT
      simp only [hk, hd2, Int.reduceEq, if_true, if_false]
    rw [hT]
    refine ⟨⟨op, 0, 0, 0, []⟩, ((x + 1 : Nat) : Int), ?_⟩
    simp only [rdr, TInstr.d] at *
    rw [evF.eq_2, evX.eq_def, Gext, exts_no _ (f := 71) (by decide), GP, Tryd.func71]; simp only [Tryd.f71, evB]
    simp only [go_sem, Nat.reduceAdd, Nat.reduceMul, Nat.reduceSub, Nat.reduceLT, Nat.reduceLeDiff, Nat.reduceEqDiff, Nat.reduceBEq, Nat.reduceBeqDiff, Int.reduceEq, Int.reduceLT, Int.reduceLE, Int.reduceToNat, Int.reduceNeg, Int.reduceAdd, Int.reduceSub, Int.reduceMul, reduceIte, reduceCtorEq, Nat.reducePow, Nat.reduceDiv, Nat.reduceMod, Int.reduceBEq, hy, hkk, hf0, List.map_nil, hz, hfn]
theorem rInstr8 (hk : kindF op = 8) : insR l x (evF (G fu) (n+5) 71 [.ptr 0 0] [rdr l x 0]) (match decT op (l.drop (x + 1)) with
    | .error e => .error e
    | .ok (i, n) => .ok (i, n + 1)) := by
  have hy := rByte_yes fu (n+3) l hb x hx hl
  rw [hg] at hy
  have hkk := rKind_ev fu (n+1) op
  rw [hk] at hkk
  have hf0 := rFail_no fu (n+3) l ((x + 1 : Nat) : Int) 0 3
  have hx1 : x + 1 ≤ l.length := hx
  have hu := rS_ok false fu (n+1) l hb (x + 1) hfu hx1 hl
  simp only [Bool.false_eq_true, if_false, if_true] at hu
  cases hs : rdS false (l.drop (x + 1)) with
  | error e =>
    rw [hs] at hu
    simp only [rsRes] at hu
    have hv := value127_ev fu (n+2) 0
    have hT : decT op (l.drop (x + 1)) = .error e := by
      unfold decT
      simp only [hk, hs, Int.reduceEq, if_true, if_false]
    rw [hT]
    refine ⟨⟨op, 0, 0, 0, []⟩, ((x + 1 : Nat) : Int), ?_⟩
    simp only [rdr, TInstr.d] at *
    rw [evF.eq_2, evX.eq_def, Gext, exts_no _ (f := 71) (by decide), GP, Tryd.func71]; simp only [Tryd.f71, evB]
    simp only [go_sem, Nat.reduceAdd, Nat.reduceMul, Nat.reduceSub, Nat.reduceLT, Nat.reduceLeDiff, Nat.reduceEqDiff, Nat.reduceBEq, Nat.reduceBeqDiff, Int.reduceEq, Int.reduceLT, Int.reduceLE, Int.reduceToNat, Int.reduceNeg, Int.reduceAdd, Int.reduceSub, Int.reduceMul, reduceIte, reduceCtorEq, Nat.reducePow, Nat.reduceDiv, Nat.reduceMod, Int.reduceBEq, hy, hkk, hf0, List.map_nil, hu, hv, show (0 : Int) % 4294967296 = 0 from rfl]
  | ok ds =>
    rw [hs] at hu
    simp only [rsRes] at hu
    have hv := value127_ev fu (n+2) (sval ds)
    have hT : decT op (l.drop (x + 1)) = .ok (⟨op, 0, 0, sval ds % 4294967296, []⟩, ds.length) := by
      unfold decT
      simp only [hk, hs, Int.reduceEq, if_true, if_false, or_true, true_or]
    rw [hT]
    show _ = _
    rw [show x + (ds.length + 1) = x + 1 + (ds.length) by omega]
    simp only [rdr, TInstr.d] at *
    rw [evF.eq_2, evX.eq_def, Gext, exts_no _ (f := 71) (by decide), GP, Tryd.func71]; simp only [Tryd.f71, evB]
    simp only [go_sem, Nat.reduceAdd, Nat.reduceMul, Nat.reduceSub, Nat.reduceLT, Nat.reduceLeDiff, Nat.reduceEqDiff, Nat.reduceBEq, Nat.reduceBeqDiff, Int.reduceEq, Int.reduceLT, Int.reduceLE, Int.reduceToNat, Int.reduceNeg, Int.reduceAdd, Int.reduceSub, Int.reduceMul, reduceIte, reduceCtorEq, Nat.reducePow, Nat.reduceDiv, Nat.reduceMod, Int.reduceBEq, hy, hkk, hf0, List.map_nil, hu, hv]
    try rfl
theorem rInstr9 (hk : kindF op = 9) : insR l x (evF (G fu) (n+5) 71 [.ptr 0 0] [rdr l x 0]) (match decT op (l.drop (x + 1)) with
    | .error e => .error e
    | .ok (i, n) => .ok (i, n + 1)) := by
  have hy := rByte_yes fu (n+3) l hb x hx hl
  rw [hg] at hy
  have hkk := rKind_ev fu (n+1) op
  rw [hk] at hkk
  have hf0 := rFail_no fu (n+3) l ((x + 1 : Nat) : Int) 0 3
  have hx1 : x + 1 ≤ l.length := hx
  have hu := rS_ok true fu (n+1) l hb (x + 1) hfu hx1 hl
  simp only [Bool.false_eq_true, if_false, if_true] at hu
  cases hs : rdS true (l.drop (x + 1)) with
  | error e =>
    rw [hs] at hu
    simp only [rsRes] at hu
    have hT : decT op (l.drop (x + 1)) = .error e := by
      unfold decT
      simp only [hk, hs, Int.reduceEq, if_true, if_false]
    rw [hT]
    refine ⟨⟨op, 0, 0, 0, []⟩, ((x + 1 : Nat) : Int), ?_⟩
    simp only [rdr, TInstr.d] at *
    rw [evF.eq_2, evX.eq_def, Gext, exts_no _ (f := 71) (by decide), GP, Tryd.func71]; simp only [Tryd.f71, evB]
    simp only [go_sem, Nat.reduceAdd, Nat.reduceMul, Nat.reduceSub, Nat.reduceLT, Nat.reduceLeDiff, Nat.reduceEqDiff, Nat.reduceBEq, Nat.reduceBeqDiff, Int.reduceEq, Int.reduceLT, Int.reduceLE, Int.reduceToNat, Int.reduceNeg, Int.reduceAdd, Int.reduceSub, Int.reduceMul, reduceIte, reduceCtorEq, Nat.reducePow, Nat.reduceDiv, Nat.reduceMod, Int.reduceBEq, hy, hkk, hf0, List.map_nil, hu, show IntKind.wrap .u64 0 = 0 from rfl]
  | ok ds =>
    rw [hs] at hu
    simp only [rsRes] at hu
    have hT : decT op (l.drop (x + 1)) = .ok (⟨op, 0, 0, sval ds % 18446744073709551616, []⟩, ds.length) := by
      unfold decT
      simp only [hk, hs, Int.reduceEq, if_true, if_false, or_true, true_or]
    rw [hT]
    show _ = _
    rw [show x + (ds.length + 1) = x + 1 + (ds.length) by omega]
    simp only [rdr, TInstr.d] at *
    rw [evF.eq_2, evX.eq_def, Gext, exts_no _ (f := 71) (by decide), GP, Tryd.func71]; simp only [Tryd.f71, evB]
    simp only [go_sem, Nat.reduceAdd, Nat.reduceMul, Nat.reduceSub, Nat.reduceLT, Nat.reduceLeDiff, Nat.reduceEqDiff, Nat.reduceBEq, Nat.reduceBeqDiff, Int.reduceEq, Int.reduceLT, Int.reduceLE, Int.reduceToNat, Int.reduceNeg, Int.reduceAdd, Int.reduceSub, Int.reduceMul, reduceIte, reduceCtorEq, Nat.reducePow, Nat.reduceDiv, Nat.reduceMod, Int.reduceBEq, hy, hkk, hf0, List.map_nil, hu, wrap_u64_mod]
    try rfl
end
end Go.Proofs.YtklnkkejkeelaaaDoor.E
