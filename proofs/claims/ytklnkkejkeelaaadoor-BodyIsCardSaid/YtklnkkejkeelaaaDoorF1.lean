/- F1, F2. -/
import Derived.Test.YtklnkkejkeelaaaDoorEvD
set_option linter.unnecessarySimpa false
set_option linter.unusedSimpArgs false
set_option linter.unusedVariables false
/- The reading of small functions: Few, Kind, opens. -/
set_option autoImplicit false
set_option maxRecDepth 100000
set_option maxHeartbeats 4000000
set_option linter.unusedSimpArgs false
set_option linter.unusedVariables false
set_option pp.maxSteps 20000
namespace Go.Proofs.YtklnkkejkeelaaaDoor.E
open Go.Ev
def in0 : TInstr := ⟨0, 0, 0, 0, []⟩
def few (l : List TInstr) (m : Int) : Bool := decide ((l.length : Int) ≤ m) && !l.any (fun i => decide (70 < (i.labels.length : Int)))

theorem few_ev (fu n : Nat) (l : List TInstr) (m : Int) (h : l.length < fu) (hl : l.length ≤ maxLen) :
    evF (G fu) (n+1) 16 [.d (.list (l.map TInstr.d)), .d (.int .i64 m)] [] = some (.d (.bool (few l m)), []) := by
  have hl : l.length ≤ 9223372036854775807 := hl
  rw [evF.eq_2, evX.eq_def, Gext, exts_no _ (f := 16) (by decide), GP, Tryd.func16]; simp only [Tryd.f16, evB]
  simp only [go_sem, Nat.reduceAdd, Nat.reduceMul, Nat.reduceSub, Nat.reduceLT, Nat.reduceLeDiff, Nat.reduceEqDiff, Nat.reduceBEq, Nat.reduceBeqDiff, Int.reduceEq, Int.reduceLT, Int.reduceLE, Int.reduceToNat, Int.reduceNeg, Int.reduceAdd, Int.reduceSub, Int.reduceMul, reduceIte, reduceCtorEq, Nat.reducePow, Nat.reduceDiv, Nat.reduceMod, Int.reduceBEq]
  by_cases h1 : m < l.length
  · simp only [go_sem, Nat.reduceAdd, Nat.reduceMul, Nat.reduceSub, Nat.reduceLT, Nat.reduceLeDiff, Nat.reduceEqDiff, Nat.reduceBEq, Nat.reduceBeqDiff, Int.reduceEq, Int.reduceLT, Int.reduceLE, Int.reduceToNat, Int.reduceNeg, Int.reduceAdd, Int.reduceSub, Int.reduceMul, reduceIte, reduceCtorEq, Nat.reducePow, Nat.reduceDiv, Nat.reduceMod, Int.reduceBEq, h1, List.length_map, few, Int.not_le.2 h1]
  · simp only [go_sem, Nat.reduceAdd, Nat.reduceMul, Nat.reduceSub, Nat.reduceLT, Nat.reduceLeDiff, Nat.reduceEqDiff, Nat.reduceBEq, Nat.reduceBeqDiff, Int.reduceEq, Int.reduceLT, Int.reduceLE, Int.reduceToNat, Int.reduceNeg, Int.reduceAdd, Int.reduceSub, Int.reduceMul, reduceIte, reduceCtorEq, Nat.reducePow, Nat.reduceDiv, Nat.reduceMod, Int.reduceBEq, h1, List.length_map]
    rw [loop_scan l.length (fun i => ⟨[(0, V.d (D.list (List.map TInstr.d l))), (5, V.d (D.int IntKind.i64 i))], []⟩) (fun i => decide (70 < ((l.getD i in0).labels.length : Int))) (fun i => (.ret, ⟨[(4, V.d (D.bool false))], []⟩)) (.exit 0, ⟨[], []⟩) h (fun _ => trivial) trivial ?_,
      scan_list (p := fun i : TInstr => decide (70 < (i.labels.length : Int))) (d := in0)]
    case hs =>
      intro i hi
      simp only [go_sem, Nat.reduceAdd, Nat.reduceMul, Nat.reduceSub, Nat.reduceLT, Nat.reduceLeDiff, Nat.reduceEqDiff, Nat.reduceBEq, Nat.reduceBeqDiff, Int.reduceEq, Int.reduceLT, Int.reduceLE, Int.reduceToNat, Int.reduceNeg, Int.reduceAdd, Int.reduceSub, Int.reduceMul, reduceIte, reduceCtorEq, Nat.reducePow, Nat.reduceDiv, Nat.reduceMod, Int.reduceBEq, List.length_map, Int.ofNat_lt, hi, idx, getD_map (d := in0) hi, Int.natCast_nonneg, Int.toNat_natCast, TInstr.d]
      cases hb : decide (70 < ((l.getD i in0).labels.length : Int)) <;> simp only [go_sem, Nat.reduceAdd, Nat.reduceMul, Nat.reduceSub, Nat.reduceLT, Nat.reduceLeDiff, Nat.reduceEqDiff, Nat.reduceBEq, Nat.reduceBeqDiff, Int.reduceEq, Int.reduceLT, Int.reduceLE, Int.reduceToNat, Int.reduceNeg, Int.reduceAdd, Int.reduceSub, Int.reduceMul, reduceIte, reduceCtorEq, Nat.reducePow, Nat.reduceDiv, Nat.reduceMod, Int.reduceBEq, wrap_i64 (show -9223372036854775808 ≤ (i : Int) + 1 by omega) (by omega)]
      rfl
    case he => simp only [go_sem, Nat.reduceAdd, Nat.reduceMul, Nat.reduceSub, Nat.reduceLT, Nat.reduceLeDiff, Nat.reduceEqDiff, Nat.reduceBEq, Nat.reduceBeqDiff, Int.reduceEq, Int.reduceLT, Int.reduceLE, Int.reduceToNat, Int.reduceNeg, Int.reduceAdd, Int.reduceSub, Int.reduceMul, reduceIte, reduceCtorEq, Nat.reducePow, Nat.reduceDiv, Nat.reduceMod, Int.reduceBEq, List.length_map, Int.ofNat_lt, Nat.lt_irrefl]
    · cases hf : l.any (fun i => decide (70 < (i.labels.length : Int))) <;> simp only [go_sem, Nat.reduceAdd, Nat.reduceMul, Nat.reduceSub, Nat.reduceLT, Nat.reduceLeDiff, Nat.reduceEqDiff, Nat.reduceBEq, Nat.reduceBeqDiff, Int.reduceEq, Int.reduceLT, Int.reduceLE, Int.reduceToNat, Int.reduceNeg, Int.reduceAdd, Int.reduceSub, Int.reduceMul, reduceIte, reduceCtorEq, Nat.reducePow, Nat.reduceDiv, Nat.reduceMod, Int.reduceBEq, few, hf, Int.not_lt.1 h1]
    · rfl

/-! Kinds of operators. -/
def spanL : List (Int × Int × Int) := [(0, 1, 1), (2, 4, 2), (5, 5, 1), (11, 11, 1), (12, 13, 3), (14, 14, 4), (15, 15, 1), (16, 16, 3), (17, 17, 5), (26, 27, 1), (32, 36, 3), (40, 41, 6), (44, 55, 6), (58, 62, 6), (63, 64, 7), (65, 65, 8), (66, 66, 9), (69, 90, 1), (103, 138, 1), (167, 167, 1), (172, 173, 1)]
def inSpan (op : Int) (s : Int × Int × Int) : Bool := decide (s.1 ≤ op) && decide (op ≤ s.2.1)
def kindF (op : Int) : Int := match spanL.find? (inSpan op) with
  | some s => s.2.2
  | none => 0
theorem span_at (i : Nat) (hi : i < 21) : takeN (tab0.drop (i * 3)) 3 = some [.int .i64 (spanL.getD i (0, 0, 0)).1, .int .i64 (spanL.getD i (0, 0, 0)).2.1, .int .i64 (spanL.getD i (0, 0, 0)).2.2] := by
  match i, hi with | 0, _ => rfl | 1, _ => rfl | 2, _ => rfl | 3, _ => rfl | 4, _ => rfl | 5, _ => rfl | 6, _ => rfl | 7, _ => rfl | 8, _ => rfl | 9, _ => rfl | 10, _ => rfl | 11, _ => rfl | 12, _ => rfl | 13, _ => rfl | 14, _ => rfl | 15, _ => rfl | 16, _ => rfl | 17, _ => rfl | 18, _ => rfl | 19, _ => rfl | 20, _ => rfl | _ + 21, h => exact absurd h (by omega)

theorem tab0_all : takeN tab0 63 = some tab0 := rfl
theorem kind_ev (fu n : Nat) (op : Int) (h : 21 < fu) : evF (G fu) (n+1) 28 [.d (.int .i64 op)] [] = some (.d (.int .i64 (kindF op)), []) := by
  rw [evF.eq_2, evX.eq_def, Gext, exts_no _ (f := 28) (by decide), GP, Tryd.func28]; simp only [Tryd.f28, evB]
  simp only [go_sem, Nat.reduceAdd, Nat.reduceMul, Nat.reduceSub, Nat.reduceLT, Nat.reduceLeDiff, Nat.reduceEqDiff, Nat.reduceBEq, Nat.reduceBeqDiff, Int.reduceEq, Int.reduceLT, Int.reduceLE, Int.reduceToNat, Int.reduceNeg, Int.reduceAdd, Int.reduceSub, Int.reduceMul, reduceIte, reduceCtorEq, Nat.reducePow, Nat.reduceDiv, Nat.reduceMod, Int.reduceBEq, tab0_all]
  rw [loop_scan 21 (fun i => ⟨[(0, V.d (D.int IntKind.i64 op)), (5, V.d (D.agg tab0)), (6, V.d (D.int IntKind.i64 i))], []⟩) (fun i => inSpan op (spanL.getD i (0, 0, 0))) (fun i => (.ret, ⟨[(2, V.d (D.int .i64 (spanL.getD i (0, 0, 0)).2.2))], []⟩)) (.exit 0, ⟨[], []⟩) h (fun _ => trivial) trivial ?_]
  case hs =>
    intro i hi
    simp only [go_sem, Nat.reduceAdd, Nat.reduceMul, Nat.reduceSub, Nat.reduceLT, Nat.reduceLeDiff, Nat.reduceEqDiff, Nat.reduceBEq, Nat.reduceBeqDiff, Int.reduceEq, Int.reduceLT, Int.reduceLE, Int.reduceToNat, Int.reduceNeg, Int.reduceAdd, Int.reduceSub, Int.reduceMul, reduceIte, reduceCtorEq, Nat.reducePow, Nat.reduceDiv, Nat.reduceMod, Int.reduceBEq, Int.ofNat_lt, hi, Int.natCast_nonneg, Int.toNat_natCast, show (i : Int) < 21 by omega, span_at i hi]
    simp only [inSpan]
    by_cases h1 : (spanL.getD i (0, 0, 0)).1 ≤ op <;> by_cases h2 : op ≤ (spanL.getD i (0, 0, 0)).2.1 <;> simp only [go_sem, Nat.reduceAdd, Nat.reduceMul, Nat.reduceSub, Nat.reduceLT, Nat.reduceLeDiff, Nat.reduceEqDiff, Nat.reduceBEq, Nat.reduceBeqDiff, Int.reduceEq, Int.reduceLT, Int.reduceLE, Int.reduceToNat, Int.reduceNeg, Int.reduceAdd, Int.reduceSub, Int.reduceMul, reduceIte, reduceCtorEq, Nat.reducePow, Nat.reduceDiv, Nat.reduceMod, Int.reduceBEq, h1, h2, wrap_i64 (show -9223372036854775808 ≤ (i : Int) + 1 by omega) (by omega)]
    all_goals rfl
  case he => simp only [go_sem, Nat.reduceAdd, Nat.reduceMul, Nat.reduceSub, Nat.reduceLT, Nat.reduceLeDiff, Nat.reduceEqDiff, Nat.reduceBEq, Nat.reduceBeqDiff, Int.reduceEq, Int.reduceLT, Int.reduceLE, Int.reduceToNat, Int.reduceNeg, Int.reduceAdd, Int.reduceSub, Int.reduceMul, reduceIte, reduceCtorEq, Nat.reducePow, Nat.reduceDiv, Nat.reduceMod, Int.reduceBEq]
  · rw [scan_find (p := inSpan op) (d := (0, 0, 0)) (g := fun s => (Ex.ret, { tmps := [(2, V.d (D.int IntKind.i64 s.2.2))], heap := [] })) (N := 21) spanL rfl]
    unfold kindF
    cases spanL.find? (inSpan op) <;> simp only [go_sem, Nat.reduceAdd, Nat.reduceMul, Nat.reduceSub, Nat.reduceLT, Nat.reduceLeDiff, Nat.reduceEqDiff, Nat.reduceBEq, Nat.reduceBeqDiff, Int.reduceEq, Int.reduceLT, Int.reduceLE, Int.reduceToNat, Int.reduceNeg, Int.reduceAdd, Int.reduceSub, Int.reduceMul, reduceIte, reduceCtorEq, Nat.reducePow, Nat.reduceDiv, Nat.reduceMod, Int.reduceBEq]
  · rfl
theorem kind_block (op : Int) : kindF op = 2 ↔ 2 ≤ op ∧ op ≤ 4 := by
  unfold kindF
  constructor
  · intro h
    cases hf : spanL.find? (inSpan op) with
    | none => rw [hf] at h; cases h
    | some s =>
      rw [hf] at h
      simp only at h
      have h1 := List.find?_some hf
      have h2 := List.mem_of_find?_eq_some hf
      simp only [inSpan, Bool.and_eq_true, decide_eq_true_eq] at h1
      simp only [spanL, List.mem_cons, List.not_mem_nil, or_false] at h2
      rcases h2 with rfl | rfl | rfl | rfl | rfl | rfl | rfl | rfl | rfl | rfl | rfl | rfl | rfl | rfl | rfl | rfl | rfl | rfl | rfl | rfl | rfl <;> first | exact h1 | (simp at h)
  · intro ⟨h1, h2⟩
    have : spanL.find? (inSpan op) = some (2, 4, 2) := by
      have a : inSpan op (0, 1, 1) = false := by simp [inSpan]; omega
      have b : inSpan op (2, 4, 2) = true := by simp [inSpan]; omega
      simp only [spanL, List.find?, a, b]
    rw [this]
/-- Does an instruction open something? -/
def opensB (op : Int) : Bool := decide (2 ≤ op) && decide (op ≤ 4)
theorem opens_ev (fu n : Nat) (op a b k : Int) (ls : List D) (h : 21 < fu) : evF (G fu) (n+2) 56 [.d (.agg [.int .i64 op, .int .i64 a, .int .i64 b, .int .u64 k, .list ls])] [] = some (.d (.bool (opensB op)), []) := by
  rw [evF.eq_2, evX.eq_def, Gext, exts_no _ (f := 56) (by decide), GP, Tryd.func56]; simp only [Tryd.f56, evB]
  simp only [go_sem, Nat.reduceAdd, Nat.reduceMul, Nat.reduceSub, Nat.reduceLT, Nat.reduceLeDiff, Nat.reduceEqDiff, Nat.reduceBEq, Nat.reduceBeqDiff, Int.reduceEq, Int.reduceLT, Int.reduceLE, Int.reduceToNat, Int.reduceNeg, Int.reduceAdd, Int.reduceSub, Int.reduceMul, reduceIte, reduceCtorEq, Nat.reducePow, Nat.reduceDiv, Nat.reduceMod, Int.reduceBEq, kind_ev fu n _ h]
  refine congrArg (fun b => some (V.d (D.bool b), [])) ?_
  simp only [opensB, kind_block, Bool.decide_and]
theorem opens5 : opensB 5 = false := rfl
theorem opens11 : opensB 11 = false := rfl
end Go.Proofs.YtklnkkejkeelaaaDoor.E

/- The reading of the walker's step. -/
set_option autoImplicit false
set_option maxRecDepth 100000
set_option maxHeartbeats 4000000
set_option linter.unusedSimpArgs false
set_option linter.unusedVariables false
set_option pp.maxSteps 20000
namespace Go.Proofs.YtklnkkejkeelaaaDoor.E
open Go.Ev
/-- What is open: its place, and its else. -/
abbrev Nest := Int × Int
def nestD (p : Nest) : D := .agg [.int .i64 p.1, .int .i64 p.2]
def ifAt (l : List TInstr) (k : Int) : Bool := decide ((l.getD k.toNat in0).op = 4)
theorem if_ev (fu n : Nat) (l : List TInstr) (k : Int) (h0 : 0 ≤ k) (hk : k < l.length) : evF (G fu) (n+1) 84 [.d (.int .i64 k), .ptr 0 0] [.cells [.d (.list (l.map TInstr.d))]] = some (.d (.bool (ifAt l k)), [.cells [.d (.list (l.map TInstr.d))]]) := by
  rw [evF.eq_2, evX.eq_def, Gext, exts_no _ (f := 84) (by decide), GP, Tryd.func84]; simp only [Tryd.f84, evB]
  simp only [go_sem, Nat.reduceAdd, Nat.reduceMul, Nat.reduceSub, Nat.reduceLT, Nat.reduceLeDiff, Nat.reduceEqDiff, Nat.reduceBEq, Nat.reduceBeqDiff, Int.reduceEq, Int.reduceLT, Int.reduceLE, Int.reduceToNat, Int.reduceNeg, Int.reduceAdd, Int.reduceSub, Int.reduceMul, reduceIte, reduceCtorEq, Nat.reducePow, Nat.reduceDiv, Nat.reduceMod, Int.reduceBEq, idx, h0, getD_map (d := in0) (show k.toNat < l.length by omega), TInstr.d] <;> rfl
section
variable (fu n : Nat) (l : List TInstr) (k : Int) (i : TInstr) (h : 21 < fu)
include h
theorem step_nil_open (ho : opensB i.op = true) : evF (G fu) (n+3) 77 [.ptr 0 0, .d (.int .i64 k), .d i.d, .fn (.func 84) [] [.ptr 1 0]] [.cells [.nilsl], .cells [.d (.list (l.map TInstr.d))]] =
    some (.tup [.d (.int .i64 0), .d (nestD (0, 0)), .d (.bool true)], [.cells [.row 2 0 0 1], .cells [.d (.list (l.map TInstr.d))], .row 2 [nestD (k, -1)] 0 false false]) := by
  rw [evF.eq_2, evX.eq_def, Gext, exts_no _ (f := 77) (by decide), GP, Tryd.func77]; simp only [Tryd.f77, evB]
  simp only [go_sem, Nat.reduceAdd, Nat.reduceMul, Nat.reduceSub, Nat.reduceLT, Nat.reduceLeDiff, Nat.reduceEqDiff, Nat.reduceBEq, Nat.reduceBeqDiff, Int.reduceEq, Int.reduceLT, Int.reduceLE, Int.reduceToNat, Int.reduceNeg, Int.reduceAdd, Int.reduceSub, Int.reduceMul, reduceIte, reduceCtorEq, Nat.reducePow, Nat.reduceDiv, Nat.reduceMod, Int.reduceBEq, TInstr.d, opens_ev fu n _ _ _ _ _ h, ho] <;> rfl
theorem step_nil_plain (ho : opensB i.op = false) (h5 : i.op ≠ 5) (h11 : i.op ≠ 11) : evF (G fu) (n+3) 77 [.ptr 0 0, .d (.int .i64 k), .d i.d, .fn (.func 84) [] [.ptr 1 0]] [.cells [.nilsl], .cells [.d (.list (l.map TInstr.d))]] =
    some (.tup [.d (.int .i64 0), .d (nestD (0, 0)), .d (.bool true)], [.cells [.nilsl], .cells [.d (.list (l.map TInstr.d))]]) := by
  rw [evF.eq_2, evX.eq_def, Gext, exts_no _ (f := 77) (by decide), GP, Tryd.func77]; simp only [Tryd.f77, evB]
  simp only [go_sem, Nat.reduceAdd, Nat.reduceMul, Nat.reduceSub, Nat.reduceLT, Nat.reduceLeDiff, Nat.reduceEqDiff, Nat.reduceBEq, Nat.reduceBeqDiff, Int.reduceEq, Int.reduceLT, Int.reduceLE, Int.reduceToNat, Int.reduceNeg, Int.reduceAdd, Int.reduceSub, Int.reduceMul, reduceIte, reduceCtorEq, Nat.reducePow, Nat.reduceDiv, Nat.reduceMod, Int.reduceBEq, TInstr.d, opens_ev fu n _ _ _ _ _ h, ho, h5, h11] <;> rfl
theorem step_nil_bare (h5 : i.op = 5 ∨ i.op = 11) : evF (G fu) (n+3) 77 [.ptr 0 0, .d (.int .i64 k), .d i.d, .fn (.func 84) [] [.ptr 1 0]] [.cells [.nilsl], .cells [.d (.list (l.map TInstr.d))]] =
    some (.tup [.d (.int .i64 0), .d (nestD (0, 0)), .d (.bool false)], [.cells [.nilsl], .cells [.d (.list (l.map TInstr.d))]]) := by
  rw [evF.eq_2, evX.eq_def, Gext, exts_no _ (f := 77) (by decide), GP, Tryd.func77]; simp only [Tryd.f77, evB]
  rcases h5 with h5 | h5 <;> simp only [go_sem, Nat.reduceAdd, Nat.reduceMul, Nat.reduceSub, Nat.reduceLT, Nat.reduceLeDiff, Nat.reduceEqDiff, Nat.reduceBEq, Nat.reduceBeqDiff, Int.reduceEq, Int.reduceLT, Int.reduceLE, Int.reduceToNat, Int.reduceNeg, Int.reduceAdd, Int.reduceSub, Int.reduceMul, reduceIte, reduceCtorEq, Nat.reducePow, Nat.reduceDiv, Nat.reduceMod, Int.reduceBEq, TInstr.d, opens_ev fu n _ _ _ _ _ h, opens5, opens11, h5] <;> rfl
variable (m : Nat) (xs : List D)
theorem step_row_open (ho : opensB i.op = true) (hm : m < 1000000) : evF (G fu) (n+3) 77 [.ptr 0 0, .d (.int .i64 k), .d i.d, .fn (.func 84) [] [.ptr 2 0]] [.cells [.row 1 0 0 m], .row 2 xs 0 false false, .cells [.d (.list (l.map TInstr.d))]] =
    some (.tup [.d (.int .i64 m), .d (nestD (0, 0)), .d (.bool true)], [.cells [.row 1 0 0 (m + 1)], .row 2 (xs.take m ++ [nestD (k, -1)]) 0 false true, .cells [.d (.list (l.map TInstr.d))]]) := by
  rw [evF.eq_2, evX.eq_def, Gext, exts_no _ (f := 77) (by decide), GP, Tryd.func77]; simp only [Tryd.f77, evB]
  simp only [go_sem, Nat.reduceAdd, Nat.reduceMul, Nat.reduceSub, Nat.reduceLT, Nat.reduceLeDiff, Nat.reduceEqDiff, Nat.reduceBEq, Nat.reduceBeqDiff, Int.reduceEq, Int.reduceLT, Int.reduceLE, Int.reduceToNat, Int.reduceNeg, Int.reduceAdd, Int.reduceSub, Int.reduceMul, reduceIte, reduceCtorEq, Nat.reducePow, Nat.reduceDiv, Nat.reduceMod, Int.reduceBEq, TInstr.d, opens_ev fu n _ _ _ _ _ h, ho, show m + 1 ≤ 1099511627776 by omega] <;> rfl
theorem step_row_plain (ho : opensB i.op = false) (h5 : i.op ≠ 5) (h11 : i.op ≠ 11) : evF (G fu) (n+3) 77 [.ptr 0 0, .d (.int .i64 k), .d i.d, .fn (.func 84) [] [.ptr 2 0]] [.cells [.row 1 0 0 m], .row 2 xs 0 false false, .cells [.d (.list (l.map TInstr.d))]] =
    some (.tup [.d (.int .i64 m), .d (nestD (0, 0)), .d (.bool true)], [.cells [.row 1 0 0 m], .row 2 xs 0 false false, .cells [.d (.list (l.map TInstr.d))]]) := by
  rw [evF.eq_2, evX.eq_def, Gext, exts_no _ (f := 77) (by decide), GP, Tryd.func77]; simp only [Tryd.f77, evB]
  simp only [go_sem, Nat.reduceAdd, Nat.reduceMul, Nat.reduceSub, Nat.reduceLT, Nat.reduceLeDiff, Nat.reduceEqDiff, Nat.reduceBEq, Nat.reduceBeqDiff, Int.reduceEq, Int.reduceLT, Int.reduceLE, Int.reduceToNat, Int.reduceNeg, Int.reduceAdd, Int.reduceSub, Int.reduceMul, reduceIte, reduceCtorEq, Nat.reducePow, Nat.reduceDiv, Nat.reduceMod, Int.reduceBEq, TInstr.d, opens_ev fu n _ _ _ _ _ h, ho, h5, h11] <;> rfl
theorem step_row_bare (h5 : i.op = 5 ∨ i.op = 11) : evF (G fu) (n+3) 77 [.ptr 0 0, .d (.int .i64 k), .d i.d, .fn (.func 84) [] [.ptr 2 0]] [.cells [.row 1 0 0 0], .row 2 xs 0 false false, .cells [.d (.list (l.map TInstr.d))]] =
    some (.tup [.d (.int .i64 0), .d (nestD (0, 0)), .d (.bool false)], [.cells [.row 1 0 0 0], .row 2 xs 0 false false, .cells [.d (.list (l.map TInstr.d))]]) := by
  rw [evF.eq_2, evX.eq_def, Gext, exts_no _ (f := 77) (by decide), GP, Tryd.func77]; simp only [Tryd.f77, evB]
  rcases h5 with h5 | h5 <;> simp only [go_sem, Nat.reduceAdd, Nat.reduceMul, Nat.reduceSub, Nat.reduceLT, Nat.reduceLeDiff, Nat.reduceEqDiff, Nat.reduceBEq, Nat.reduceBeqDiff, Int.reduceEq, Int.reduceLT, Int.reduceLE, Int.reduceToNat, Int.reduceNeg, Int.reduceAdd, Int.reduceSub, Int.reduceMul, reduceIte, reduceCtorEq, Nat.reducePow, Nat.reduceDiv, Nat.reduceMod, Int.reduceBEq, TInstr.d, opens_ev fu n _ _ _ _ _ h, opens5, opens11, h5] <;> rfl
theorem step_row_pop (a b : Int) (hx : xs[m]? = some (nestD (a, b))) (hm : m < 1000000) (h11 : i.op = 11) : evF (G fu) (n+3) 77 [.ptr 0 0, .d (.int .i64 k), .d i.d, .fn (.func 84) [] [.ptr 2 0]] [.cells [.row 1 0 0 (m+1)], .row 2 xs 0 false false, .cells [.d (.list (l.map TInstr.d))]] =
    some (.tup [.d (.int .i64 m), .d (nestD (a, b)), .d (.bool true)], [.cells [.row 1 0 0 m], .row 2 xs 0 false false, .cells [.d (.list (l.map TInstr.d))]]) := by
  rw [evF.eq_2, evX.eq_def, Gext, exts_no _ (f := 77) (by decide), GP, Tryd.func77]; simp only [Tryd.f77, evB]
  simp only [go_sem, Nat.reduceAdd, Nat.reduceMul, Nat.reduceSub, Nat.reduceLT, Nat.reduceLeDiff, Nat.reduceEqDiff, Nat.reduceBEq, Nat.reduceBeqDiff, Int.reduceEq, Int.reduceLT, Int.reduceLE, Int.reduceToNat, Int.reduceNeg, Int.reduceAdd, Int.reduceSub, Int.reduceMul, reduceIte, reduceCtorEq, Nat.reducePow, Nat.reduceDiv, Nat.reduceMod, Int.reduceBEq, TInstr.d, opens_ev fu n _ _ _ _ _ h, opens11, h11, show ((m + 1 : Nat) : Int) ≠ 0 by omega, show ((m + 1 : Nat) : Int) - 1 = m by omega, wrap_i64 (show -9223372036854775808 ≤ (m : Int) by omega) (by omega), show (m : Int) < ((m + 1 : Nat) : Int) by omega, show (m : Int) ≤ ((m + 1 : Nat) : Int) by omega, hx, nestD, Int.sub_zero, Int.toNat_zero]
  rw [cond_free]
  · simp only [go_sem, Nat.reduceAdd, Nat.reduceMul, Nat.reduceSub, Nat.reduceLT, Nat.reduceLeDiff, Nat.reduceEqDiff, Nat.reduceBEq, Nat.reduceBeqDiff, Int.reduceEq, Int.reduceLT, Int.reduceLE, Int.reduceToNat, Int.reduceNeg, Int.reduceAdd, Int.reduceSub, Int.reduceMul, reduceIte, reduceCtorEq, Nat.reducePow, Nat.reduceDiv, Nat.reduceMod, Int.reduceBEq] <;> rfl
  · rfl
theorem step_row_else (a b : Int) (hx : xs[m]? = some (nestD (a, b))) (hm : m < 1000000) (h5 : i.op = 5) (ha : 0 ≤ a) (hl : a < l.length) : evF (G fu) (n+3) 77 [.ptr 0 0, .d (.int .i64 k), .d i.d, .fn (.func 84) [] [.ptr 2 0]] [.cells [.row 1 0 0 (m+1)], .row 2 xs 0 false false, .cells [.d (.list (l.map TInstr.d))]] =
    if b = -1 ∧ ifAt l a = true then some (.tup [.d (.int .i64 m), .d (nestD (a, b)), .d (.bool true)], [.cells [.row 1 0 0 (m+1)], .row 2 (xs.set m (nestD (a, k))) 0 false false, .cells [.d (.list (l.map TInstr.d))]])
    else some (.tup [.d (.int .i64 0), .d (nestD (0, 0)), .d (.bool false)], [.cells [.row 1 0 0 (m+1)], .row 2 xs 0 false false, .cells [.d (.list (l.map TInstr.d))]]) := by
  rw [evF.eq_2, evX.eq_def, Gext, exts_no _ (f := 77) (by decide), GP, Tryd.func77]; simp only [Tryd.f77, evB]
  by_cases hb : b = -1
  · by_cases hi : ifAt l a = true
    · simp only [go_sem, Nat.reduceAdd, Nat.reduceMul, Nat.reduceSub, Nat.reduceLT, Nat.reduceLeDiff, Nat.reduceEqDiff, Nat.reduceBEq, Nat.reduceBeqDiff, Int.reduceEq, Int.reduceLT, Int.reduceLE, Int.reduceToNat, Int.reduceNeg, Int.reduceAdd, Int.reduceSub, Int.reduceMul, reduceIte, reduceCtorEq, Nat.reducePow, Nat.reduceDiv, Nat.reduceMod, Int.reduceBEq, TInstr.d, opens_ev fu n _ _ _ _ _ h, opens5, h5, show ((m + 1 : Nat) : Int) ≠ 0 by omega, show ((m + 1 : Nat) : Int) - 1 = m by omega, wrap_i64 (show -9223372036854775808 ≤ (m : Int) by omega) (by omega), show (m : Int) < ((m + 1 : Nat) : Int) by omega, show (m : Int) ≤ ((m + 1 : Nat) : Int) by omega, hx, nestD, Int.sub_zero, Int.toNat_zero, hb, if_ev fu (n+1) l a ha hl, hi]
      rw [cond_free]
      · simp only [go_sem, Nat.reduceAdd, Nat.reduceMul, Nat.reduceSub, Nat.reduceLT, Nat.reduceLeDiff, Nat.reduceEqDiff, Nat.reduceBEq, Nat.reduceBeqDiff, Int.reduceEq, Int.reduceLT, Int.reduceLE, Int.reduceToNat, Int.reduceNeg, Int.reduceAdd, Int.reduceSub, Int.reduceMul, reduceIte, reduceCtorEq, Nat.reducePow, Nat.reduceDiv, Nat.reduceMod, Int.reduceBEq] <;> rfl
      · rfl
    · simp only [go_sem, Nat.reduceAdd, Nat.reduceMul, Nat.reduceSub, Nat.reduceLT, Nat.reduceLeDiff, Nat.reduceEqDiff, Nat.reduceBEq, Nat.reduceBeqDiff, Int.reduceEq, Int.reduceLT, Int.reduceLE, Int.reduceToNat, Int.reduceNeg, Int.reduceAdd, Int.reduceSub, Int.reduceMul, reduceIte, reduceCtorEq, Nat.reducePow, Nat.reduceDiv, Nat.reduceMod, Int.reduceBEq, TInstr.d, opens_ev fu n _ _ _ _ _ h, opens5, h5, show ((m + 1 : Nat) : Int) ≠ 0 by omega, show ((m + 1 : Nat) : Int) - 1 = m by omega, wrap_i64 (show -9223372036854775808 ≤ (m : Int) by omega) (by omega), show (m : Int) < ((m + 1 : Nat) : Int) by omega, show (m : Int) ≤ ((m + 1 : Nat) : Int) by omega, hx, nestD, Int.sub_zero, Int.toNat_zero, hb, if_ev fu (n+1) l a ha hl, hi] <;> rfl
  · simp only [go_sem, Nat.reduceAdd, Nat.reduceMul, Nat.reduceSub, Nat.reduceLT, Nat.reduceLeDiff, Nat.reduceEqDiff, Nat.reduceBEq, Nat.reduceBeqDiff, Int.reduceEq, Int.reduceLT, Int.reduceLE, Int.reduceToNat, Int.reduceNeg, Int.reduceAdd, Int.reduceSub, Int.reduceMul, reduceIte, reduceCtorEq, Nat.reducePow, Nat.reduceDiv, Nat.reduceMod, Int.reduceBEq, TInstr.d, opens_ev fu n _ _ _ _ _ h, opens5, h5, show ((m + 1 : Nat) : Int) ≠ 0 by omega, show ((m + 1 : Nat) : Int) - 1 = m by omega, wrap_i64 (show -9223372036854775808 ≤ (m : Int) by omega) (by omega), show (m : Int) < ((m + 1 : Nat) : Int) by omega, show (m : Int) ≤ ((m + 1 : Nat) : Int) by omega, hx, nestD, Int.sub_zero, Int.toNat_zero, hb] <;> rfl
end
end Go.Proofs.YtklnkkejkeelaaaDoor.E
