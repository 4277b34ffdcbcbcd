/- F8, Q6, Q7. -/
import Derived.Test.YtfpioigggjnffaaDoorQ5
import Derived.Test.YtfpioigggjnffaaDoorEvX
set_option linter.unnecessarySimpa false
set_option linter.unusedSimpArgs false
set_option linter.unusedVariables false
/- The reading of instr.Same, instr.Sane and what they call. -/
set_option autoImplicit false
set_option maxRecDepth 100000
set_option maxHeartbeats 4000000
set_option linter.unusedSimpArgs false
set_option linter.unusedVariables false
set_option pp.maxSteps 20000
namespace Go.Proofs.YtfpioigggjnffaaDoor.E
open Go.Ev
theorem lists_same {α : Type} [DecidableEq α] {a b : List α} {d : α} (hl : a.length = b.length) : first (fun i => decide (a.getD i d ≠ b.getD i d)) 0 a.length = none ↔ a = b := by
  rw [first_none]
  constructor
  · intro h
    apply List.ext_getElem hl
    intro i h1 h2
    have := h i (by omega) (by omega)
    simpa [h1, h2] using this
  · rintro rfl j _ _
    simp
theorem equalI_ev (fu n : Nat) (a b : List Int) (h : a.length < fu) (hs : a.length < 1000000) : evF (G fu) (n+1) 61 [.d (.list (a.map (D.int .i64))), .d (.list (b.map (D.int .i64)))] [] = some (.d (.bool (decide (a = b))), []) := by
  rw [evF.eq_2, evX.eq_def, Gext, exts_no _ (f := 61) (by decide), GP, Tryd.func61]; simp only [Tryd.f61, evB]
  by_cases hl : a.length = b.length
  · simp only [go_sem, Nat.reduceAdd, Nat.reduceMul, Nat.reduceSub, Nat.reduceLT, Nat.reduceLeDiff, Nat.reduceEqDiff, Nat.reduceBEq, Nat.reduceBeqDiff, Int.reduceEq, Int.reduceLT, Int.reduceLE, Int.reduceToNat, Int.reduceNeg, Int.reduceAdd, Int.reduceSub, Int.reduceMul, reduceIte, reduceCtorEq, Nat.reducePow, Nat.reduceDiv, Nat.reduceMod, Int.reduceBEq, List.length_map, hl]
    rw [loop_scan b.length (fun i => ⟨[(0, .d (.list (a.map (D.int .i64)))), (1, .d (.list (b.map (D.int .i64)))), (12, .d (.int .i64 b.length)), (13, .d (.int .i64 i))], []⟩) (fun i => decide (a.getD i 0 ≠ b.getD i 0)) (fun i => (.ret, ⟨[(4, V.d (D.bool false))], []⟩)) (.exit 0, ⟨[], []⟩) (by omega) (fun _ => trivial) trivial ?_]
    case hs =>
      intro i hi
      simp only [go_sem, Nat.reduceAdd, Nat.reduceMul, Nat.reduceSub, Nat.reduceLT, Nat.reduceLeDiff, Nat.reduceEqDiff, Nat.reduceBEq, Nat.reduceBeqDiff, Int.reduceEq, Int.reduceLT, Int.reduceLE, Int.reduceToNat, Int.reduceNeg, Int.reduceAdd, Int.reduceSub, Int.reduceMul, reduceIte, reduceCtorEq, Nat.reducePow, Nat.reduceDiv, Nat.reduceMod, Int.reduceBEq, Int.ofNat_lt, hi, idx, getD_map (f := D.int .i64) (d := 0) (show i < a.length by omega), getD_map (f := D.int .i64) (d := 0) hi]
      by_cases hb : a.getD i 0 = b.getD i 0 <;> simp only [go_sem, Nat.reduceAdd, Nat.reduceMul, Nat.reduceSub, Nat.reduceLT, Nat.reduceLeDiff, Nat.reduceEqDiff, Nat.reduceBEq, Nat.reduceBeqDiff, Int.reduceEq, Int.reduceLT, Int.reduceLE, Int.reduceToNat, Int.reduceNeg, Int.reduceAdd, Int.reduceSub, Int.reduceMul, reduceIte, reduceCtorEq, Nat.reducePow, Nat.reduceDiv, Nat.reduceMod, Int.reduceBEq, hb, ne_eq, wrap_i64 (show -9223372036854775808 ≤ (i : Int) + 1 by omega) (by omega)] <;> rfl
    case he => simp only [go_sem, Nat.reduceAdd, Nat.reduceMul, Nat.reduceSub, Nat.reduceLT, Nat.reduceLeDiff, Nat.reduceEqDiff, Nat.reduceBEq, Nat.reduceBeqDiff, Int.reduceEq, Int.reduceLT, Int.reduceLE, Int.reduceToNat, Int.reduceNeg, Int.reduceAdd, Int.reduceSub, Int.reduceMul, reduceIte, reduceCtorEq, Nat.reducePow, Nat.reduceDiv, Nat.reduceMod, Int.reduceBEq, Int.ofNat_lt, Nat.lt_irrefl]
    · unfold scan
      have := lists_same (d := 0) hl
      rw [hl] at this
      cases hf : first (fun i => decide (a.getD i 0 ≠ b.getD i 0)) 0 b.length with
      | none =>
        simp only [go_sem, Nat.reduceAdd, Nat.reduceMul, Nat.reduceSub, Nat.reduceLT, Nat.reduceLeDiff, Nat.reduceEqDiff, Nat.reduceBEq, Nat.reduceBeqDiff, Int.reduceEq, Int.reduceLT, Int.reduceLE, Int.reduceToNat, Int.reduceNeg, Int.reduceAdd, Int.reduceSub, Int.reduceMul, reduceIte, reduceCtorEq, Nat.reducePow, Nat.reduceDiv, Nat.reduceMod, Int.reduceBEq, this.1 hf]
      | some i =>
        have hne : ¬ a = b := fun e => by rw [this.2 e] at hf; cases hf
        simp only [go_sem, Nat.reduceAdd, Nat.reduceMul, Nat.reduceSub, Nat.reduceLT, Nat.reduceLeDiff, Nat.reduceEqDiff, Nat.reduceBEq, Nat.reduceBeqDiff, Int.reduceEq, Int.reduceLT, Int.reduceLE, Int.reduceToNat, Int.reduceNeg, Int.reduceAdd, Int.reduceSub, Int.reduceMul, reduceIte, reduceCtorEq, Nat.reducePow, Nat.reduceDiv, Nat.reduceMod, Int.reduceBEq, hne]
    · rfl
  · have hne : ¬ a = b := fun e => hl (by rw [e])
    have hl2 : ¬ ((a.length : Int) = b.length) := by omega
    simp only [go_sem, Nat.reduceAdd, Nat.reduceMul, Nat.reduceSub, Nat.reduceLT, Nat.reduceLeDiff, Nat.reduceEqDiff, Nat.reduceBEq, Nat.reduceBeqDiff, Int.reduceEq, Int.reduceLT, Int.reduceLE, Int.reduceToNat, Int.reduceNeg, Int.reduceAdd, Int.reduceSub, Int.reduceMul, reduceIte, reduceCtorEq, Nat.reducePow, Nat.reduceDiv, Nat.reduceMod, Int.reduceBEq, List.length_map, hl2, hne]
theorem same_ev (fu n : Nat) (op a b k op' a' b' k' : Int) (l l' : List Int) (h : l.length < fu) (hs : l.length < 1000000) : evF (G fu) (n+2) 41 [.d (.agg [.int .i64 op, .int .i64 a, .int .i64 b, .int .u64 k, .list (l.map (D.int .i64))]), .d (.agg [.int .i64 op', .int .i64 a', .int .i64 b', .int .u64 k', .list (l'.map (D.int .i64))])] [] =
    some (.d (.bool (decide (op = op' ∧ a = a' ∧ b = b' ∧ k = k' ∧ l = l'))), []) := by
  rw [evF.eq_2, evX.eq_def, Gext, exts_no _ (f := 41) (by decide), GP, Tryd.func41]; simp only [Tryd.f41, evB]
  by_cases h1 : op = op' <;> by_cases h2 : a = a' <;> by_cases h3 : b = b' <;> by_cases h4 : k = k' <;> simp only [go_sem, Nat.reduceAdd, Nat.reduceMul, Nat.reduceSub, Nat.reduceLT, Nat.reduceLeDiff, Nat.reduceEqDiff, Nat.reduceBEq, Nat.reduceBeqDiff, Int.reduceEq, Int.reduceLT, Int.reduceLE, Int.reduceToNat, Int.reduceNeg, Int.reduceAdd, Int.reduceSub, Int.reduceMul, reduceIte, reduceCtorEq, Nat.reducePow, Nat.reduceDiv, Nat.reduceMod, Int.reduceBEq, h1, h2, h3, h4, equalI_ev fu n _ _ h hs]
def numB (n : Int) : Bool := decide (0 ≤ n) && decide (n ≤ 4294967295)
theorem number_ev (fu n : Nat) (a : Int) : evF (G fu) (n+1) 40 [.d (.int .i64 a)] [] = some (.d (.bool (numB a)), []) := by
  rw [evF.eq_2, evX.eq_def, Gext, exts_no _ (f := 40) (by decide), GP, Tryd.func40]; simp only [Tryd.f40, evB]
  by_cases h1 : 0 ≤ a <;> simp only [go_sem, Nat.reduceAdd, Nat.reduceMul, Nat.reduceSub, Nat.reduceLT, Nat.reduceLeDiff, Nat.reduceEqDiff, Nat.reduceBEq, Nat.reduceBeqDiff, Int.reduceEq, Int.reduceLT, Int.reduceLE, Int.reduceToNat, Int.reduceNeg, Int.reduceAdd, Int.reduceSub, Int.reduceMul, reduceIte, reduceCtorEq, Nat.reducePow, Nat.reduceDiv, Nat.reduceMod, Int.reduceBEq, h1, numB]
theorem sane1_ev (fu n : Nat) (a : Int) : evF (G fu) (n+2) 43 [.d (.int .i64 a)] [] = some (.d (.bool (!numB a)), []) := by
  rw [evF.eq_2, evX.eq_def, Gext, exts_no _ (f := 43) (by decide), GP, Tryd.func43]; simp only [Tryd.f43, evB]
  simp only [go_sem, Nat.reduceAdd, Nat.reduceMul, Nat.reduceSub, Nat.reduceLT, Nat.reduceLeDiff, Nat.reduceEqDiff, Nat.reduceBEq, Nat.reduceBeqDiff, Int.reduceEq, Int.reduceLT, Int.reduceLE, Int.reduceToNat, Int.reduceNeg, Int.reduceAdd, Int.reduceSub, Int.reduceMul, reduceIte, reduceCtorEq, Nat.reducePow, Nat.reduceDiv, Nat.reduceMod, Int.reduceBEq, number_ev fu n]
/-- Looking for a number that is none. -/
def findN (l : List Int) : Int := match first (fun i => !numB (l.getD i 0)) 0 l.length with
  | some i => i
  | none => -1
theorem indexN_ev (fu n : Nat) (l : List Int) (h : l.length < fu) (hs : l.length < 1000000) : evF (G fu) (n+3) 62 [.d (.list (l.map (D.int .i64))), .fn (.func 43) [] []] [] = some (.d (.int .i64 (findN l)), []) := by
  rw [evF.eq_2, evX.eq_def, Gext, exts_no _ (f := 62) (by decide), GP, Tryd.func62]; simp only [Tryd.f62, evB]
  simp only [go_sem, Nat.reduceAdd, Nat.reduceMul, Nat.reduceSub, Nat.reduceLT, Nat.reduceLeDiff, Nat.reduceEqDiff, Nat.reduceBEq, Nat.reduceBeqDiff, Int.reduceEq, Int.reduceLT, Int.reduceLE, Int.reduceToNat, Int.reduceNeg, Int.reduceAdd, Int.reduceSub, Int.reduceMul, reduceIte, reduceCtorEq, Nat.reducePow, Nat.reduceDiv, Nat.reduceMod, Int.reduceBEq, List.length_map]
  rw [loop_scan l.length (fun i => ⟨[(0, .d (.list (l.map (D.int .i64)))), (1, .fn (.func 43) [] []), (7, .d (.int .i64 l.length)), (8, .d (.int .i64 i))], []⟩) (fun i => !numB (l.getD i 0)) (fun i => (.ret, ⟨[(4, V.d (D.int .i64 i))], []⟩)) (.exit 0, ⟨[], []⟩) (by omega) (fun _ => trivial) trivial ?_]
  case hs =>
    intro i hi
    simp only [go_sem, Nat.reduceAdd, Nat.reduceMul, Nat.reduceSub, Nat.reduceLT, Nat.reduceLeDiff, Nat.reduceEqDiff, Nat.reduceBEq, Nat.reduceBeqDiff, Int.reduceEq, Int.reduceLT, Int.reduceLE, Int.reduceToNat, Int.reduceNeg, Int.reduceAdd, Int.reduceSub, Int.reduceMul, reduceIte, reduceCtorEq, Nat.reducePow, Nat.reduceDiv, Nat.reduceMod, Int.reduceBEq, Int.ofNat_lt, hi, idx, getD_map (f := D.int .i64) (d := 0) hi, sane1_ev fu n]
    cases numB (l.getD i 0) <;> simp only [go_sem, Nat.reduceAdd, Nat.reduceMul, Nat.reduceSub, Nat.reduceLT, Nat.reduceLeDiff, Nat.reduceEqDiff, Nat.reduceBEq, Nat.reduceBeqDiff, Int.reduceEq, Int.reduceLT, Int.reduceLE, Int.reduceToNat, Int.reduceNeg, Int.reduceAdd, Int.reduceSub, Int.reduceMul, reduceIte, reduceCtorEq, Nat.reducePow, Nat.reduceDiv, Nat.reduceMod, Int.reduceBEq, wrap_i64 (show -9223372036854775808 ≤ (i : Int) + 1 by omega) (by omega)] <;> rfl
  case he => simp only [go_sem, Nat.reduceAdd, Nat.reduceMul, Nat.reduceSub, Nat.reduceLT, Nat.reduceLeDiff, Nat.reduceEqDiff, Nat.reduceBEq, Nat.reduceBeqDiff, Int.reduceEq, Int.reduceLT, Int.reduceLE, Int.reduceToNat, Int.reduceNeg, Int.reduceAdd, Int.reduceSub, Int.reduceMul, reduceIte, reduceCtorEq, Nat.reducePow, Nat.reduceDiv, Nat.reduceMod, Int.reduceBEq, Int.ofNat_lt, Nat.lt_irrefl]
  · unfold scan findN
    cases first (fun i => !numB (l.getD i 0)) 0 l.length <;> simp only [go_sem, Nat.reduceAdd, Nat.reduceMul, Nat.reduceSub, Nat.reduceLT, Nat.reduceLeDiff, Nat.reduceEqDiff, Nat.reduceBEq, Nat.reduceBeqDiff, Int.reduceEq, Int.reduceLT, Int.reduceLE, Int.reduceToNat, Int.reduceNeg, Int.reduceAdd, Int.reduceSub, Int.reduceMul, reduceIte, reduceCtorEq, Nat.reducePow, Nat.reduceDiv, Nat.reduceMod, Int.reduceBEq]
  · rfl
theorem findN_iff (l : List Int) : (0 ≤ findN l) ↔ l.all numB = false := by
  unfold findN
  have := first_list (p := fun x => !numB x) (d := 0) l
  cases hf : first (fun i => !numB (l.getD i 0)) 0 l.length with
  | none =>
    have := this.1 hf
    simp only [show ¬ (0 : Int) ≤ -1 by omega, false_iff]
    intro h
    rw [List.any_eq_false] at this
    rw [List.all_eq_false] at h
    obtain ⟨x, h1, h2⟩ := h
    have := this x h1
    simp_all
  | some i =>
    simp only [show (0 : Int) ≤ i by omega, true_iff]
    rw [List.all_eq_false]
    have : l.any (fun x => !numB x) = true := by
      cases h : l.any (fun x => !numB x) with
      | true => rfl
      | false => rw [this.2 h] at hf; cases hf
    obtain ⟨x, h1, h2⟩ := List.any_eq_true.1 this
    exact ⟨x, h1, by simpa using h2⟩
theorem containsN_ev (fu n : Nat) (l : List Int) (h : l.length < fu) (hs : l.length < 1000000) : evF (G fu) (n+4) 42 [.d (.list (l.map (D.int .i64))), .fn (.func 43) [] []] [] = some (.d (.bool (!l.all numB)), []) := by
  rw [evF.eq_2, evX.eq_def, Gext, exts_no _ (f := 42) (by decide), GP, Tryd.func42]; simp only [Tryd.f42, evB]
  have := findN_iff l
  cases ha : l.all numB <;> rw [ha] at this <;> simp only [iff_true, iff_false, reduceCtorEq] at this <;> simp only [go_sem, Nat.reduceAdd, Nat.reduceMul, Nat.reduceSub, Nat.reduceLT, Nat.reduceLeDiff, Nat.reduceEqDiff, Nat.reduceBEq, Nat.reduceBeqDiff, Int.reduceEq, Int.reduceLT, Int.reduceLE, Int.reduceToNat, Int.reduceNeg, Int.reduceAdd, Int.reduceSub, Int.reduceMul, reduceIte, reduceCtorEq, Nat.reducePow, Nat.reduceDiv, Nat.reduceMod, Int.reduceBEq, indexN_ev fu n l h hs, this, ha]
/-- May an instruction be? -/
def saneF (i : TInstr) : Bool :=
  (decide (kindF i.op = 4) || i.labels.isEmpty) && numB i.a && numB i.b &&
  match kindF i.op with
  | 1 => decide (i.a = 0 ∧ i.b = 0 ∧ i.k = 0)
  | 7 => decide (i.a = 0 ∧ i.b = 0 ∧ i.k = 0)
  | 2 => decide (i.b = 0 ∧ i.k = 0) && (decide (i.a = 0) || decide (i.a = 127) || decide (i.a = 126))
  | 3 => decide (i.b = 0 ∧ i.k = 0)
  | 5 => decide (i.b = 0 ∧ i.k = 0)
  | 4 => decide (i.b = 0 ∧ i.k = 0) && decide (i.labels.length ≤ 64) && i.labels.all numB
  | 6 => decide (i.k = 0)
  | 8 => decide (i.a = 0 ∧ i.b = 0) && decide (i.k ≤ 4294967295)
  | 9 => decide (i.a = 0 ∧ i.b = 0)
  | _ => false
theorem kind_range (op : Int) : kindF op = 0 ∨ kindF op = 1 ∨ kindF op = 2 ∨ kindF op = 3 ∨ kindF op = 4 ∨ kindF op = 5 ∨ kindF op = 6 ∨ kindF op = 7 ∨ kindF op = 8 ∨ kindF op = 9 := by
  unfold kindF
  cases hf : spanL.find? (inSpan op) with
  | none => exact .inl rfl
  | some s =>
    have h2 := List.mem_of_find?_eq_some hf
    simp only [spanL, List.mem_cons, List.not_mem_nil, or_false] at h2
    rcases h2 with rfl | rfl | rfl | rfl | rfl | rfl | rfl | rfl | rfl | rfl | rfl | rfl | rfl | rfl | rfl | rfl | rfl | rfl | rfl | rfl | rfl <;> simp
theorem sane_ev (fu n : Nat) (i : TInstr) (h : 21 < fu) (hl : i.labels.length < fu) (hs : i.labels.length < 1000000) : evF (G fu) (n+5) 24 [.d i.d] [] = some (.d (.bool (saneF i)), []) := by
  rw [evF.eq_2, evX.eq_def, Gext, exts_no _ (f := 24) (by decide), GP, Tryd.func24]; simp only [Tryd.f24, evB]
  have hsame : ∀ a b k a' b' k', evF (G fu) (n + 4) 41 [.d (.agg [.int .i64 0, .int .i64 a, .int .i64 b, .int .u64 k, .list []]), .d (.agg [.int .i64 0, .int .i64 a', .int .i64 b', .int .u64 k', .list []])] [] = some (.d (.bool (decide (a = a' ∧ b = b' ∧ k = k'))), []) := fun a b k a' b' k' => by
    have := same_ev fu (n+2) 0 a b k 0 a' b' k' [] [] (by simp; omega) (by simp)
    simpa using this
  have hgt : ((0 : Int) < i.labels.length) ↔ i.labels.isEmpty = false := by cases i.labels <;> simp <;> omega
  unfold saneF
  have hkind := kind_range i.op
  generalize hk : kindF i.op = kk at hkind
  by_cases hhead : ((kk = 4 ∨ i.labels.isEmpty = true) ∧ numB i.a = true ∧ numB i.b = true)
  · obtain ⟨hle, hna, hnb⟩ := hhead
    have hgt4 : ¬ kk = 4 → ¬ (0 : Int) < i.labels.length := fun e => by
      rw [hgt, hle.resolve_left e]; decide
    rcases hkind with rfl | rfl | rfl | rfl | rfl | rfl | rfl | rfl | rfl | rfl
    · have hle' := hle.resolve_left (by decide)
      have hg := hgt4 (by decide)
      simp only [go_sem, Nat.reduceAdd, Nat.reduceMul, Nat.reduceSub, Nat.reduceLT, Nat.reduceLeDiff, Nat.reduceEqDiff, Nat.reduceBEq, Nat.reduceBeqDiff, Int.reduceEq, Int.reduceLT, Int.reduceLE, Int.reduceToNat, Int.reduceNeg, Int.reduceAdd, Int.reduceSub, Int.reduceMul, reduceIte, reduceCtorEq, Nat.reducePow, Nat.reduceDiv, Nat.reduceMod, Int.reduceBEq, TInstr.d, kind_ev fu (n+3) _ h, hk, List.length_map, hg, hle', number_ev fu (n+3), hna, hnb, hsame]
    · have hle' := hle.resolve_left (by decide)
      have hg := hgt4 (by decide)
      simp only [go_sem, Nat.reduceAdd, Nat.reduceMul, Nat.reduceSub, Nat.reduceLT, Nat.reduceLeDiff, Nat.reduceEqDiff, Nat.reduceBEq, Nat.reduceBeqDiff, Int.reduceEq, Int.reduceLT, Int.reduceLE, Int.reduceToNat, Int.reduceNeg, Int.reduceAdd, Int.reduceSub, Int.reduceMul, reduceIte, reduceCtorEq, Nat.reducePow, Nat.reduceDiv, Nat.reduceMod, Int.reduceBEq, TInstr.d, kind_ev fu (n+3) _ h, hk, List.length_map, hg, hle', number_ev fu (n+3), hna, hnb, hsame]
    · have hle' := hle.resolve_left (by decide)
      have hg := hgt4 (by decide)
      rcases Bool.eq_false_or_eq_true (decide (i.b = 0 ∧ i.k = 0)) with q1 | q1 <;> rcases Bool.eq_false_or_eq_true (decide (i.a = 0)) with q2 | q2 <;> rcases Bool.eq_false_or_eq_true (decide (i.a = 127)) with q3 | q3 <;> simp only [go_sem, Nat.reduceAdd, Nat.reduceMul, Nat.reduceSub, Nat.reduceLT, Nat.reduceLeDiff, Nat.reduceEqDiff, Nat.reduceBEq, Nat.reduceBeqDiff, Int.reduceEq, Int.reduceLT, Int.reduceLE, Int.reduceToNat, Int.reduceNeg, Int.reduceAdd, Int.reduceSub, Int.reduceMul, reduceIte, reduceCtorEq, Nat.reducePow, Nat.reduceDiv, Nat.reduceMod, Int.reduceBEq, TInstr.d, kind_ev fu (n+3) _ h, hk, List.length_map, hg, hle', number_ev fu (n+3), hna, hnb, hsame, q1, q2, q3]
    · have hle' := hle.resolve_left (by decide)
      have hg := hgt4 (by decide)
      simp only [go_sem, Nat.reduceAdd, Nat.reduceMul, Nat.reduceSub, Nat.reduceLT, Nat.reduceLeDiff, Nat.reduceEqDiff, Nat.reduceBEq, Nat.reduceBeqDiff, Int.reduceEq, Int.reduceLT, Int.reduceLE, Int.reduceToNat, Int.reduceNeg, Int.reduceAdd, Int.reduceSub, Int.reduceMul, reduceIte, reduceCtorEq, Nat.reducePow, Nat.reduceDiv, Nat.reduceMod, Int.reduceBEq, TInstr.d, kind_ev fu (n+3) _ h, hk, List.length_map, hg, hle', number_ev fu (n+3), hna, hnb, hsame]
    · by_cases hg : (0 : Int) < i.labels.length <;> rcases Bool.eq_false_or_eq_true (decide (i.b = 0 ∧ i.k = 0)) with q1 | q1 <;> by_cases q2 : (i.labels.length : Int) ≤ 64 <;> simp only [go_sem, Nat.reduceAdd, Nat.reduceMul, Nat.reduceSub, Nat.reduceLT, Nat.reduceLeDiff, Nat.reduceEqDiff, Nat.reduceBEq, Nat.reduceBeqDiff, Int.reduceEq, Int.reduceLT, Int.reduceLE, Int.reduceToNat, Int.reduceNeg, Int.reduceAdd, Int.reduceSub, Int.reduceMul, reduceIte, reduceCtorEq, Nat.reducePow, Nat.reduceDiv, Nat.reduceMod, Int.reduceBEq, TInstr.d, kind_ev fu (n+3) _ h, hk, List.length_map, hg, number_ev fu (n+3), hna, hnb, hsame, q1, q2, containsN_ev fu n _ hl hs, Bool.not_not, show (i.labels.length ≤ 64) = ((i.labels.length : Int) ≤ 64) from by simp only [eq_iff_iff]; omega]
    · have hle' := hle.resolve_left (by decide)
      have hg := hgt4 (by decide)
      simp only [go_sem, Nat.reduceAdd, Nat.reduceMul, Nat.reduceSub, Nat.reduceLT, Nat.reduceLeDiff, Nat.reduceEqDiff, Nat.reduceBEq, Nat.reduceBeqDiff, Int.reduceEq, Int.reduceLT, Int.reduceLE, Int.reduceToNat, Int.reduceNeg, Int.reduceAdd, Int.reduceSub, Int.reduceMul, reduceIte, reduceCtorEq, Nat.reducePow, Nat.reduceDiv, Nat.reduceMod, Int.reduceBEq, TInstr.d, kind_ev fu (n+3) _ h, hk, List.length_map, hg, hle', number_ev fu (n+3), hna, hnb, hsame]
    · have hle' := hle.resolve_left (by decide)
      have hg := hgt4 (by decide)
      simp only [go_sem, Nat.reduceAdd, Nat.reduceMul, Nat.reduceSub, Nat.reduceLT, Nat.reduceLeDiff, Nat.reduceEqDiff, Nat.reduceBEq, Nat.reduceBeqDiff, Int.reduceEq, Int.reduceLT, Int.reduceLE, Int.reduceToNat, Int.reduceNeg, Int.reduceAdd, Int.reduceSub, Int.reduceMul, reduceIte, reduceCtorEq, Nat.reducePow, Nat.reduceDiv, Nat.reduceMod, Int.reduceBEq, TInstr.d, kind_ev fu (n+3) _ h, hk, List.length_map, hg, hle', number_ev fu (n+3), hna, hnb, hsame]
    · have hle' := hle.resolve_left (by decide)
      have hg := hgt4 (by decide)
      simp only [go_sem, Nat.reduceAdd, Nat.reduceMul, Nat.reduceSub, Nat.reduceLT, Nat.reduceLeDiff, Nat.reduceEqDiff, Nat.reduceBEq, Nat.reduceBeqDiff, Int.reduceEq, Int.reduceLT, Int.reduceLE, Int.reduceToNat, Int.reduceNeg, Int.reduceAdd, Int.reduceSub, Int.reduceMul, reduceIte, reduceCtorEq, Nat.reducePow, Nat.reduceDiv, Nat.reduceMod, Int.reduceBEq, TInstr.d, kind_ev fu (n+3) _ h, hk, List.length_map, hg, hle', number_ev fu (n+3), hna, hnb, hsame]
    · have hle' := hle.resolve_left (by decide)
      have hg := hgt4 (by decide)
      rcases Bool.eq_false_or_eq_true (decide (i.a = 0 ∧ i.b = 0)) with q1 | q1 <;> simp only [go_sem, Nat.reduceAdd, Nat.reduceMul, Nat.reduceSub, Nat.reduceLT, Nat.reduceLeDiff, Nat.reduceEqDiff, Nat.reduceBEq, Nat.reduceBeqDiff, Int.reduceEq, Int.reduceLT, Int.reduceLE, Int.reduceToNat, Int.reduceNeg, Int.reduceAdd, Int.reduceSub, Int.reduceMul, reduceIte, reduceCtorEq, Nat.reducePow, Nat.reduceDiv, Nat.reduceMod, Int.reduceBEq, TInstr.d, kind_ev fu (n+3) _ h, hk, List.length_map, hg, hle', number_ev fu (n+3), hna, hnb, hsame, q1]
    · have hle' := hle.resolve_left (by decide)
      have hg := hgt4 (by decide)
      simp only [go_sem, Nat.reduceAdd, Nat.reduceMul, Nat.reduceSub, Nat.reduceLT, Nat.reduceLeDiff, Nat.reduceEqDiff, Nat.reduceBEq, Nat.reduceBeqDiff, Int.reduceEq, Int.reduceLT, Int.reduceLE, Int.reduceToNat, Int.reduceNeg, Int.reduceAdd, Int.reduceSub, Int.reduceMul, reduceIte, reduceCtorEq, Nat.reducePow, Nat.reduceDiv, Nat.reduceMod, Int.reduceBEq, TInstr.d, kind_ev fu (n+3) _ h, hk, List.length_map, hg, hle', number_ev fu (n+3), hna, hnb, hsame]
  · have : ((decide (kk = 4) || i.labels.isEmpty) && numB i.a && numB i.b) = false := by
      cases h1 : ((decide (kk = 4) || i.labels.isEmpty) && numB i.a && numB i.b) with
      | false => rfl
      | true => simp only [Bool.and_eq_true, Bool.or_eq_true, decide_eq_true_eq] at h1; exact absurd ⟨h1.1.1, h1.1.2, h1.2⟩ hhead
    rw [this]
    by_cases h4 : kk = 4
    · subst h4
      cases hna : numB i.a <;> cases hnb : numB i.b <;> simp only [hna, hnb, true_or, true_and, and_self, not_true, Bool.false_eq_true, false_and, and_false, not_false_eq_true] at hhead <;> simp only [go_sem, Nat.reduceAdd, Nat.reduceMul, Nat.reduceSub, Nat.reduceLT, Nat.reduceLeDiff, Nat.reduceEqDiff, Nat.reduceBEq, Nat.reduceBeqDiff, Int.reduceEq, Int.reduceLT, Int.reduceLE, Int.reduceToNat, Int.reduceNeg, Int.reduceAdd, Int.reduceSub, Int.reduceMul, reduceIte, reduceCtorEq, Nat.reducePow, Nat.reduceDiv, Nat.reduceMod, Int.reduceBEq, TInstr.d, kind_ev fu (n+3) _ h, hk, List.length_map, number_ev fu (n+3), hna, hnb]
    · by_cases hg : (0 : Int) < i.labels.length
      · simp only [go_sem, Nat.reduceAdd, Nat.reduceMul, Nat.reduceSub, Nat.reduceLT, Nat.reduceLeDiff, Nat.reduceEqDiff, Nat.reduceBEq, Nat.reduceBeqDiff, Int.reduceEq, Int.reduceLT, Int.reduceLE, Int.reduceToNat, Int.reduceNeg, Int.reduceAdd, Int.reduceSub, Int.reduceMul, reduceIte, reduceCtorEq, Nat.reducePow, Nat.reduceDiv, Nat.reduceMod, Int.reduceBEq, TInstr.d, kind_ev fu (n+3) _ h, hk, h4, List.length_map, hg, number_ev fu (n+3)]
      · have hle : i.labels.isEmpty = true := by rw [hgt] at hg; simpa using hg
        cases hna : numB i.a <;> cases hnb : numB i.b <;> simp only [hna, hnb, hle, or_true, true_and, and_self, not_true, Bool.false_eq_true, false_and, and_false, not_false_eq_true] at hhead <;> simp only [go_sem, Nat.reduceAdd, Nat.reduceMul, Nat.reduceSub, Nat.reduceLT, Nat.reduceLeDiff, Nat.reduceEqDiff, Nat.reduceBEq, Nat.reduceBeqDiff, Int.reduceEq, Int.reduceLT, Int.reduceLE, Int.reduceToNat, Int.reduceNeg, Int.reduceAdd, Int.reduceSub, Int.reduceMul, reduceIte, reduceCtorEq, Nat.reducePow, Nat.reduceDiv, Nat.reduceMod, Int.reduceBEq, TInstr.d, kind_ev fu (n+3) _ h, hk, h4, List.length_map, hg, number_ev fu (n+3), hna, hnb]
end Go.Proofs.YtfpioigggjnffaaDoor.E

/- The reading of ints.Shape, types.Sane, bytes.Equal. -/
set_option autoImplicit false
set_option maxRecDepth 100000
set_option maxHeartbeats 4000000
set_option linter.unusedSimpArgs false
set_option linter.unusedVariables false
set_option pp.maxSteps 20000
namespace Go.Proofs.YtfpioigggjnffaaDoor.E
open Go.Ev
theorem within_ev (fu n : Nat) (op a b : Int) : evF (G fu) (n+1) 91 [.d (.int .i64 op), .d (.int .i64 a), .d (.int .i64 b)] [] = some (.d (.bool (decide (a ≤ op) && decide (op ≤ b))), []) := by
  rw [evF.eq_2, evX.eq_def, Gext, exts_no _ (f := 91) (by decide), GP, Tryd.func91]; simp only [Tryd.f91, evB]
  by_cases h : a ≤ op
  · simp only [go_sem, Nat.reduceAdd, Nat.reduceMul, Nat.reduceSub, Nat.reduceLT, Nat.reduceLeDiff, Nat.reduceEqDiff, Nat.reduceBEq, Nat.reduceBeqDiff, Int.reduceEq, Int.reduceLT, Int.reduceLE, Int.reduceToNat, Int.reduceNeg, Int.reduceAdd, Int.reduceSub, Int.reduceMul, reduceIte, reduceCtorEq, Nat.reducePow, Nat.reduceDiv, Nat.reduceMod, Int.reduceBEq, h]
  · simp only [go_sem, Nat.reduceAdd, Nat.reduceMul, Nat.reduceSub, Nat.reduceLT, Nat.reduceLeDiff, Nat.reduceEqDiff, Nat.reduceBEq, Nat.reduceBeqDiff, Int.reduceEq, Int.reduceLT, Int.reduceLE, Int.reduceToNat, Int.reduceNeg, Int.reduceAdd, Int.reduceSub, Int.reduceMul, reduceIte, reduceCtorEq, Nat.reducePow, Nat.reduceDiv, Nat.reduceMod, Int.reduceBEq, h]
def shapeF (op : Int) : Option (List Int × Int) :=
  if op = 69 then some ([127], 127) else if op = 80 then some ([126], 127) else if 70 ≤ op ∧ op ≤ 79 then some ([127, 127], 127) else if 81 ≤ op ∧ op ≤ 90 then some ([126, 126], 127) else
  if 103 ≤ op ∧ op ≤ 105 then some ([127], 127) else if 106 ≤ op ∧ op ≤ 120 then some ([127, 127], 127) else if 121 ≤ op ∧ op ≤ 123 then some ([126], 126) else if 124 ≤ op ∧ op ≤ 138 then some ([126, 126], 126) else
  if op = 167 then some ([126], 127) else if op = 172 ∨ op = 173 then some ([127], 126) else none
def shapeR : Option (List Int × Int) → Option Res
  | some (p, r) => some (.tup [.row 0 0 0 p.length, .d (.int .u8 r), .d (.bool true)], [.row 1 (byt p) 0 false false])
  | none => some (.tup [.row 0 0 0 0, .d (.int .u8 0), .d (.bool false)], [.row 1 [] 0 false false])
theorem shape_ev (fu n : Nat) (op : Int) : evF (G fu) (n+2) 78 [.d (.int .i64 op)] [] = shapeR (shapeF op) := by
  have Wi := within_ev fu n op
  rw [evF.eq_2, evX.eq_def, Gext, exts_no _ (f := 78) (by decide), GP, Tryd.func78]; simp only [Tryd.f78, evB]
  unfold shapeF
  by_cases c1 : op = 69
  · subst c1; simp only [go_sem, Nat.reduceAdd, Nat.reduceMul, Nat.reduceSub, Nat.reduceLT, Nat.reduceLeDiff, Nat.reduceEqDiff, Nat.reduceBEq, Nat.reduceBeqDiff, Int.reduceEq, Int.reduceLT, Int.reduceLE, Int.reduceToNat, Int.reduceNeg, Int.reduceAdd, Int.reduceSub, Int.reduceMul, reduceIte, reduceCtorEq, Nat.reducePow, Nat.reduceDiv, Nat.reduceMod, Int.reduceBEq, shapeR, List.map_nil]
  by_cases c2 : op = 80
  · subst c2; simp only [go_sem, Nat.reduceAdd, Nat.reduceMul, Nat.reduceSub, Nat.reduceLT, Nat.reduceLeDiff, Nat.reduceEqDiff, Nat.reduceBEq, Nat.reduceBeqDiff, Int.reduceEq, Int.reduceLT, Int.reduceLE, Int.reduceToNat, Int.reduceNeg, Int.reduceAdd, Int.reduceSub, Int.reduceMul, reduceIte, reduceCtorEq, Nat.reducePow, Nat.reduceDiv, Nat.reduceMod, Int.reduceBEq, shapeR, List.map_nil]
  have dd : ∀ a b : Int, (decide (a ≤ op) && decide (op ≤ b)) = decide (a ≤ op ∧ op ≤ b) := fun a b => by simp
  simp only [dd] at Wi
  by_cases c3 : 70 ≤ op ∧ op ≤ 79
  · simp only [go_sem, Nat.reduceAdd, Nat.reduceMul, Nat.reduceSub, Nat.reduceLT, Nat.reduceLeDiff, Nat.reduceEqDiff, Nat.reduceBEq, Nat.reduceBeqDiff, Int.reduceEq, Int.reduceLT, Int.reduceLE, Int.reduceToNat, Int.reduceNeg, Int.reduceAdd, Int.reduceSub, Int.reduceMul, reduceIte, reduceCtorEq, Nat.reducePow, Nat.reduceDiv, Nat.reduceMod, Int.reduceBEq, c1, c2, Wi, c3, shapeR, List.map_nil]
  by_cases c4 : 81 ≤ op ∧ op ≤ 90
  · simp only [go_sem, Nat.reduceAdd, Nat.reduceMul, Nat.reduceSub, Nat.reduceLT, Nat.reduceLeDiff, Nat.reduceEqDiff, Nat.reduceBEq, Nat.reduceBeqDiff, Int.reduceEq, Int.reduceLT, Int.reduceLE, Int.reduceToNat, Int.reduceNeg, Int.reduceAdd, Int.reduceSub, Int.reduceMul, reduceIte, reduceCtorEq, Nat.reducePow, Nat.reduceDiv, Nat.reduceMod, Int.reduceBEq, c1, c2, Wi, c3, c4, shapeR, List.map_nil]
  by_cases c5 : 103 ≤ op ∧ op ≤ 105
  · simp only [go_sem, Nat.reduceAdd, Nat.reduceMul, Nat.reduceSub, Nat.reduceLT, Nat.reduceLeDiff, Nat.reduceEqDiff, Nat.reduceBEq, Nat.reduceBeqDiff, Int.reduceEq, Int.reduceLT, Int.reduceLE, Int.reduceToNat, Int.reduceNeg, Int.reduceAdd, Int.reduceSub, Int.reduceMul, reduceIte, reduceCtorEq, Nat.reducePow, Nat.reduceDiv, Nat.reduceMod, Int.reduceBEq, c1, c2, Wi, c3, c4, c5, shapeR, List.map_nil]
  by_cases c6 : 106 ≤ op ∧ op ≤ 120
  · simp only [go_sem, Nat.reduceAdd, Nat.reduceMul, Nat.reduceSub, Nat.reduceLT, Nat.reduceLeDiff, Nat.reduceEqDiff, Nat.reduceBEq, Nat.reduceBeqDiff, Int.reduceEq, Int.reduceLT, Int.reduceLE, Int.reduceToNat, Int.reduceNeg, Int.reduceAdd, Int.reduceSub, Int.reduceMul, reduceIte, reduceCtorEq, Nat.reducePow, Nat.reduceDiv, Nat.reduceMod, Int.reduceBEq, c1, c2, Wi, c3, c4, c5, c6, shapeR, List.map_nil]
  by_cases c7 : 121 ≤ op ∧ op ≤ 123
  · simp only [go_sem, Nat.reduceAdd, Nat.reduceMul, Nat.reduceSub, Nat.reduceLT, Nat.reduceLeDiff, Nat.reduceEqDiff, Nat.reduceBEq, Nat.reduceBeqDiff, Int.reduceEq, Int.reduceLT, Int.reduceLE, Int.reduceToNat, Int.reduceNeg, Int.reduceAdd, Int.reduceSub, Int.reduceMul, reduceIte, reduceCtorEq, Nat.reducePow, Nat.reduceDiv, Nat.reduceMod, Int.reduceBEq, c1, c2, Wi, c3, c4, c5, c6, c7, shapeR, List.map_nil]
  by_cases c8 : 124 ≤ op ∧ op ≤ 138
  · simp only [go_sem, Nat.reduceAdd, Nat.reduceMul, Nat.reduceSub, Nat.reduceLT, Nat.reduceLeDiff, Nat.reduceEqDiff, Nat.reduceBEq, Nat.reduceBeqDiff, Int.reduceEq, Int.reduceLT, Int.reduceLE, Int.reduceToNat, Int.reduceNeg, Int.reduceAdd, Int.reduceSub, Int.reduceMul, reduceIte, reduceCtorEq, Nat.reducePow, Nat.reduceDiv, Nat.reduceMod, Int.reduceBEq, c1, c2, Wi, c3, c4, c5, c6, c7, c8, shapeR, List.map_nil]
  by_cases c9 : op = 167
  · subst c9; simp only [go_sem, Nat.reduceAdd, Nat.reduceMul, Nat.reduceSub, Nat.reduceLT, Nat.reduceLeDiff, Nat.reduceEqDiff, Nat.reduceBEq, Nat.reduceBeqDiff, Int.reduceEq, Int.reduceLT, Int.reduceLE, Int.reduceToNat, Int.reduceNeg, Int.reduceAdd, Int.reduceSub, Int.reduceMul, reduceIte, reduceCtorEq, Nat.reducePow, Nat.reduceDiv, Nat.reduceMod, Int.reduceBEq, Wi, shapeR, List.map_nil]
  by_cases c10 : op = 172
  · subst c10; simp only [go_sem, Nat.reduceAdd, Nat.reduceMul, Nat.reduceSub, Nat.reduceLT, Nat.reduceLeDiff, Nat.reduceEqDiff, Nat.reduceBEq, Nat.reduceBeqDiff, Int.reduceEq, Int.reduceLT, Int.reduceLE, Int.reduceToNat, Int.reduceNeg, Int.reduceAdd, Int.reduceSub, Int.reduceMul, reduceIte, reduceCtorEq, Nat.reducePow, Nat.reduceDiv, Nat.reduceMod, Int.reduceBEq, Wi, shapeR, List.map_nil]
  by_cases c11 : op = 173
  · subst c11; simp only [go_sem, Nat.reduceAdd, Nat.reduceMul, Nat.reduceSub, Nat.reduceLT, Nat.reduceLeDiff, Nat.reduceEqDiff, Nat.reduceBEq, Nat.reduceBeqDiff, Int.reduceEq, Int.reduceLT, Int.reduceLE, Int.reduceToNat, Int.reduceNeg, Int.reduceAdd, Int.reduceSub, Int.reduceMul, reduceIte, reduceCtorEq, Nat.reducePow, Nat.reduceDiv, Nat.reduceMod, Int.reduceBEq, Wi, shapeR, List.map_nil]
  simp only [go_sem, Nat.reduceAdd, Nat.reduceMul, Nat.reduceSub, Nat.reduceLT, Nat.reduceLeDiff, Nat.reduceEqDiff, Nat.reduceBEq, Nat.reduceBeqDiff, Int.reduceEq, Int.reduceLT, Int.reduceLE, Int.reduceToNat, Int.reduceNeg, Int.reduceAdd, Int.reduceSub, Int.reduceMul, reduceIte, reduceCtorEq, Nat.reducePow, Nat.reduceDiv, Nat.reduceMod, Int.reduceBEq, c1, c2, Wi, c3, c4, c5, c6, c7, c8, c9, c10, c11, shapeR, List.map_nil]
def Byt (l : List Int) : Prop := ∀ x ∈ l, 0 ≤ x ∧ x < 256
theorem u8_inj {a b : Int} (ha : 0 ≤ a ∧ a < 256) (hb : 0 ≤ b ∧ b < 256) (h : UInt8.ofNat a.toNat = UInt8.ofNat b.toNat) : a = b := by
  have := congrArg UInt8.toNat h
  simp only [UInt8.toNat_ofNat'] at this
  omega
theorem u8s_inj : ∀ {a b : List Int}, Byt a → Byt b → a.map (fun n => UInt8.ofNat n.toNat) = b.map (fun n => UInt8.ofNat n.toNat) → a = b
  | [], [], _, _, _ => rfl
  | [], _ :: _, _, _, h => by simp at h
  | _ :: _, [], _, _, h => by simp at h
  | x :: a, y :: b, ha, hb, h => by
    simp only [List.map_cons, List.cons.injEq] at h
    rw [u8_inj (ha x (by simp)) (hb y (by simp)) h.1, u8s_inj (fun z hz => ha z (by simp [hz])) (fun z hz => hb z (by simp [hz])) h.2]
theorem equal_ev (fu n : Nat) (a b : List Int) (ha : Byt a) (hb : Byt b) : evF (G fu) (n+1) 72 [.d (.list (byt a)), .d (.list (byt b))] [] = some (.d (.bool (decide (a = b))), []) := by
  rw [evF.eq_2, evX.eq_def, Gext, exts_no _ (f := 72) (by decide), GP, Tryd.func72]; simp only [Tryd.f72, evB]
  have e : (a.map (fun n => UInt8.ofNat n.toNat) = b.map (fun n => UInt8.ofNat n.toNat)) ↔ a = b := ⟨u8s_inj ha hb, fun e => by rw [e]⟩
  simp only [go_sem, Nat.reduceAdd, Nat.reduceMul, Nat.reduceSub, Nat.reduceLT, Nat.reduceLeDiff, Nat.reduceEqDiff, Nat.reduceBEq, Nat.reduceBeqDiff, Int.reduceEq, Int.reduceLT, Int.reduceLE, Int.reduceToNat, Int.reduceNeg, Int.reduceAdd, Int.reduceSub, Int.reduceMul, reduceIte, reduceCtorEq, Nat.reducePow, Nat.reduceDiv, Nat.reduceMod, Int.reduceBEq, strOf_byt, e]
theorem tval_ev (fu n : Nat) (c : Int) : evF (G fu) (n+1) 57 [.d (.int .u8 c)] [] = some (.d (.bool (valB c)), []) := by
  rw [evF.eq_2, evX.eq_def, Gext, exts_no _ (f := 57) (by decide), GP, Tryd.func57]; simp only [Tryd.f57, evB]
  unfold valB
  by_cases h1 : c = 127
  · subst h1; simp only [go_sem, Nat.reduceAdd, Nat.reduceMul, Nat.reduceSub, Nat.reduceLT, Nat.reduceLeDiff, Nat.reduceEqDiff, Nat.reduceBEq, Nat.reduceBeqDiff, Int.reduceEq, Int.reduceLT, Int.reduceLE, Int.reduceToNat, Int.reduceNeg, Int.reduceAdd, Int.reduceSub, Int.reduceMul, reduceIte, reduceCtorEq, Nat.reducePow, Nat.reduceDiv, Nat.reduceMod, Int.reduceBEq]
  · by_cases h2 : c = 126
    · subst h2; simp only [go_sem, Nat.reduceAdd, Nat.reduceMul, Nat.reduceSub, Nat.reduceLT, Nat.reduceLeDiff, Nat.reduceEqDiff, Nat.reduceBEq, Nat.reduceBeqDiff, Int.reduceEq, Int.reduceLT, Int.reduceLE, Int.reduceToNat, Int.reduceNeg, Int.reduceAdd, Int.reduceSub, Int.reduceMul, reduceIte, reduceCtorEq, Nat.reducePow, Nat.reduceDiv, Nat.reduceMod, Int.reduceBEq]
    · have e1 : (c == 126) = false := by simpa using h2
      have e2 : (c == 127) = false := by simpa using h1
      simp only [go_sem, Nat.reduceAdd, Nat.reduceMul, Nat.reduceSub, Nat.reduceLT, Nat.reduceLeDiff, Nat.reduceEqDiff, Nat.reduceBEq, Nat.reduceBeqDiff, Int.reduceEq, Int.reduceLT, Int.reduceLE, Int.reduceToNat, Int.reduceNeg, Int.reduceAdd, Int.reduceSub, Int.reduceMul, reduceIte, reduceCtorEq, Nat.reducePow, Nat.reduceDiv, Nat.reduceMod, Int.reduceBEq, h1, h2, e1, e2]
theorem tsane1_ev (fu n : Nat) (c : Int) : evF (G fu) (n+2) 56 [.d (.int .u8 c)] [] = some (.d (.bool (!valB c)), []) := by
  have hv := tval_ev fu n c
  rw [evF.eq_2, evX.eq_def, Gext, exts_no _ (f := 56) (by decide), GP, Tryd.func56]; simp only [Tryd.f56, evB]
  simp only [go_sem, Nat.reduceAdd, Nat.reduceMul, Nat.reduceSub, Nat.reduceLT, Nat.reduceLeDiff, Nat.reduceEqDiff, Nat.reduceBEq, Nat.reduceBeqDiff, Int.reduceEq, Int.reduceLT, Int.reduceLE, Int.reduceToNat, Int.reduceNeg, Int.reduceAdd, Int.reduceSub, Int.reduceMul, reduceIte, reduceCtorEq, Nat.reducePow, Nat.reduceDiv, Nat.reduceMod, Int.reduceBEq, hv]
def typeSane (t : List Int × List Int) : Bool := decide ((t.1.length : Int) ≤ 16) && decide ((t.2.length : Int) ≤ 1) && t.1.all valB && t.2.all valB
def tyD (t : List Int × List Int) : D := .agg [.list (byt t.1), .list (byt t.2)]
theorem typeSane_ev (fu n : Nat) (t : List Int × List Int) (hf : t.1.length < fu) (hf2 : t.2.length < fu) (h1 : t.1.length < 1000000) (h2 : t.2.length < 1000000) : evF (G fu) (n+5) 30 [.d (tyD t)] [] = some (.d (.bool (typeSane t)), []) := by
  have A := containsB_ev fu n 56 (fun c => !valB c) t.1 (tsane1_ev fu n) rfl hf h1
  have B := containsB_ev fu n 56 (fun c => !valB c) t.2 (tsane1_ev fu n) rfl hf2 h2
  rw [any_not] at A B
  unfold typeSane
  rw [evF.eq_2, evX.eq_def, Gext, exts_no _ (f := 30) (by decide), GP, Tryd.func30]; simp only [Tryd.f30, evB]
  by_cases c1 : (t.1.length : Int) ≤ 16
  · by_cases c2 : (t.2.length : Int) ≤ 1
    · cases ha : t.1.all valB with
      | false => rw [ha] at A; simp only [go_sem, Nat.reduceAdd, Nat.reduceMul, Nat.reduceSub, Nat.reduceLT, Nat.reduceLeDiff, Nat.reduceEqDiff, Nat.reduceBEq, Nat.reduceBeqDiff, Int.reduceEq, Int.reduceLT, Int.reduceLE, Int.reduceToNat, Int.reduceNeg, Int.reduceAdd, Int.reduceSub, Int.reduceMul, reduceIte, reduceCtorEq, Nat.reducePow, Nat.reduceDiv, Nat.reduceMod, Int.reduceBEq, tyD, byt_len, c1, c2, A, ha]
      | true => rw [ha] at A; simp only [go_sem, Nat.reduceAdd, Nat.reduceMul, Nat.reduceSub, Nat.reduceLT, Nat.reduceLeDiff, Nat.reduceEqDiff, Nat.reduceBEq, Nat.reduceBeqDiff, Int.reduceEq, Int.reduceLT, Int.reduceLE, Int.reduceToNat, Int.reduceNeg, Int.reduceAdd, Int.reduceSub, Int.reduceMul, reduceIte, reduceCtorEq, Nat.reducePow, Nat.reduceDiv, Nat.reduceMod, Int.reduceBEq, tyD, byt_len, c1, c2, A, B, ha, Bool.not_not]
    · simp only [go_sem, Nat.reduceAdd, Nat.reduceMul, Nat.reduceSub, Nat.reduceLT, Nat.reduceLeDiff, Nat.reduceEqDiff, Nat.reduceBEq, Nat.reduceBeqDiff, Int.reduceEq, Int.reduceLT, Int.reduceLE, Int.reduceToNat, Int.reduceNeg, Int.reduceAdd, Int.reduceSub, Int.reduceMul, reduceIte, reduceCtorEq, Nat.reducePow, Nat.reduceDiv, Nat.reduceMod, Int.reduceBEq, tyD, byt_len, c1, c2]
  · simp only [go_sem, Nat.reduceAdd, Nat.reduceMul, Nat.reduceSub, Nat.reduceLT, Nat.reduceLeDiff, Nat.reduceEqDiff, Nat.reduceBEq, Nat.reduceBeqDiff, Int.reduceEq, Int.reduceLT, Int.reduceLE, Int.reduceToNat, Int.reduceNeg, Int.reduceAdd, Int.reduceSub, Int.reduceMul, reduceIte, reduceCtorEq, Nat.reducePow, Nat.reduceDiv, Nat.reduceMod, Int.reduceBEq, tyD, byt_len, c1]
end Go.Proofs.YtfpioigggjnffaaDoor.E

/- The reading of check's checker: what it does to its stack. -/
set_option autoImplicit false
set_option maxRecDepth 100000
set_option maxHeartbeats 4000000
set_option linter.unusedSimpArgs false
set_option linter.unusedVariables false
set_option pp.maxSteps 20000
namespace Go.Proofs.YtfpioigggjnffaaDoor.E
open Go.Ev
def glD (g : Int × Bool) : D := .agg [.int .u8 g.1, .bool g.2]
def TEnv.dd (e : TEnv) : D := .agg [.list (e.types.map tyD), .list (e.funcs.map (D.int .i64)), .int .i64 e.tables, .int .i64 e.mems, .list (e.globals.map glD), .list (byt e.locs), .list (byt e.results)]
/-- the checker, as it lies -/
def ck (e : TEnv) (w : WkS) : List V := [.d (.list (e.types.map tyD)), .d (.list (e.funcs.map (D.int .i64))), .d (.int .i64 e.tables), .d (.int .i64 e.mems), .d (.list (e.globals.map glD)), .d (.list (byt e.locs)), .d (.list (byt e.results)), .d (.list (byt w.s.vals)), .d (.list (ctlds w.s.ctrls)), .d (.int .i64 w.e)]
theorem must_ev (fu n : Nat) (e : TEnv) (w : WkS) (ok : Bool) (x : Int) : evF (G fu) (n+1) 69 [.ptr 0 0, .d (.bool ok), .d (.int .i64 x)] [.cells (ck e w)] = some (.tup [], [.cells (ck e (w.must ok x))]) := by
  rw [evF.eq_2, evX.eq_def, Gext, exts_no _ (f := 69) (by decide), GP, Tryd.func69]; simp only [Tryd.f69, evB]
  unfold WkS.must
  by_cases h : w.e = 0
  · have h2 : (w.e == 0) = true := by simpa using h
    cases ok with
    | true => simp only [go_sem, Nat.reduceAdd, Nat.reduceMul, Nat.reduceSub, Nat.reduceLT, Nat.reduceLeDiff, Nat.reduceEqDiff, Nat.reduceBEq, Nat.reduceBeqDiff, Int.reduceEq, Int.reduceLT, Int.reduceLE, Int.reduceToNat, Int.reduceNeg, Int.reduceAdd, Int.reduceSub, Int.reduceMul, reduceIte, reduceCtorEq, Nat.reducePow, Nat.reduceDiv, Nat.reduceMod, Int.reduceBEq, ck, h, h2]
    | false => simp only [go_sem, Nat.reduceAdd, Nat.reduceMul, Nat.reduceSub, Nat.reduceLT, Nat.reduceLeDiff, Nat.reduceEqDiff, Nat.reduceBEq, Nat.reduceBeqDiff, Int.reduceEq, Int.reduceLT, Int.reduceLE, Int.reduceToNat, Int.reduceNeg, Int.reduceAdd, Int.reduceSub, Int.reduceMul, reduceIte, reduceCtorEq, Nat.reducePow, Nat.reduceDiv, Nat.reduceMod, Int.reduceBEq, ck, h, h2]
  · have h2 : (w.e == 0) = false := by simpa using h
    cases ok with
    | true => simp only [go_sem, Nat.reduceAdd, Nat.reduceMul, Nat.reduceSub, Nat.reduceLT, Nat.reduceLeDiff, Nat.reduceEqDiff, Nat.reduceBEq, Nat.reduceBeqDiff, Int.reduceEq, Int.reduceLT, Int.reduceLE, Int.reduceToNat, Int.reduceNeg, Int.reduceAdd, Int.reduceSub, Int.reduceMul, reduceIte, reduceCtorEq, Nat.reducePow, Nat.reduceDiv, Nat.reduceMod, Int.reduceBEq, ck, h, h2]
    | false => simp only [go_sem, Nat.reduceAdd, Nat.reduceMul, Nat.reduceSub, Nat.reduceLT, Nat.reduceLeDiff, Nat.reduceEqDiff, Nat.reduceBEq, Nat.reduceBeqDiff, Int.reduceEq, Int.reduceLT, Int.reduceLE, Int.reduceToNat, Int.reduceNeg, Int.reduceAdd, Int.reduceSub, Int.reduceMul, reduceIte, reduceCtorEq, Nat.reducePow, Nat.reduceDiv, Nat.reduceMod, Int.reduceBEq, ck, h, h2]
/-- what a stack's function told, taken over -/
def takeS (w : WkS) (s : Stk) (x : Int) : WkS := if w.e ≠ 0 then w else if x = 0 then ⟨s, 0⟩ else ⟨w.s, x⟩
theorem take_ev (fu n : Nat) (e : TEnv) (w : WkS) (s : Stk) (x : Int) : evF (G fu) (n+2) 83 [.ptr 0 0, .d s.dd, .d (.int .i64 x)] [.cells (ck e w)] = some (.tup [], [.cells (ck e (takeS w s x))]) := by
  have M := must_ev fu n e w (decide (x = 0)) x
  rw [evF.eq_2, evX.eq_def, Gext, exts_no _ (f := 83) (by decide), GP, Tryd.func83]; simp only [Tryd.f83, evB]
  unfold takeS
  unfold WkS.must at M
  by_cases h : w.e = 0
  · have h2 : (w.e == 0) = true := by simpa using h
    by_cases hx : x = 0
    · subst hx
      simp only [ck, h, h2, decide_true, Bool.not_true, Bool.false_and, Bool.false_eq_true, if_false] at M
      simp only [go_sem, Nat.reduceAdd, Nat.reduceMul, Nat.reduceSub, Nat.reduceLT, Nat.reduceLeDiff, Nat.reduceEqDiff, Nat.reduceBEq, Nat.reduceBeqDiff, Int.reduceEq, Int.reduceLT, Int.reduceLE, Int.reduceToNat, Int.reduceNeg, Int.reduceAdd, Int.reduceSub, Int.reduceMul, reduceIte, reduceCtorEq, Nat.reducePow, Nat.reduceDiv, Nat.reduceMod, Int.reduceBEq, ck, Stk.dd, h, ne_eq, M]
    · simp only [ck, h, h2, hx, decide_false, Bool.not_false, Bool.true_and, if_true] at M
      simp only [go_sem, Nat.reduceAdd, Nat.reduceMul, Nat.reduceSub, Nat.reduceLT, Nat.reduceLeDiff, Nat.reduceEqDiff, Nat.reduceBEq, Nat.reduceBeqDiff, Int.reduceEq, Int.reduceLT, Int.reduceLE, Int.reduceToNat, Int.reduceNeg, Int.reduceAdd, Int.reduceSub, Int.reduceMul, reduceIte, reduceCtorEq, Nat.reducePow, Nat.reduceDiv, Nat.reduceMod, Int.reduceBEq, ck, Stk.dd, h, ne_eq, hx, M]
  · have h2 : (w.e == 0) = false := by simpa using h
    simp only [ck, h2, Bool.and_false, Bool.false_eq_true, if_false] at M
    simp only [go_sem, Nat.reduceAdd, Nat.reduceMul, Nat.reduceSub, Nat.reduceLT, Nat.reduceLeDiff, Nat.reduceEqDiff, Nat.reduceBEq, Nat.reduceBeqDiff, Int.reduceEq, Int.reduceLT, Int.reduceLE, Int.reduceToNat, Int.reduceNeg, Int.reduceAdd, Int.reduceSub, Int.reduceMul, reduceIte, reduceCtorEq, Nat.reducePow, Nat.reduceDiv, Nat.reduceMod, Int.reduceBEq, ck, Stk.dd, h, ne_eq, M]
def takeR (w : WkS) : Except Int Stk → WkS
  | .ok s => takeS w s 0
  | .error x => takeS w stk0 x
theorem takeS_put (w : WkS) (r : Except Int Stk) (he : ∀ x, r = .error x → x ≠ 0) : w.put r = takeR w r := by
  unfold WkS.put takeR takeS
  cases r with
  | ok s => by_cases h : w.e = 0 <;> simp [h]
  | error x => have := he x rfl; by_cases h : w.e = 0 <;> simp [h, this]
theorem put_off {w : WkS} {r : Except Int Stk} (h : ¬ w.e = 0) : w.put r = w := by unfold WkS.put; rw [if_pos h]
theorem ckwant_ev (fu n : Nat) (e : TEnv) (w : WkS) (l : List Int) (hs : SzOk fu w.s) (hl : l.length < 1000000) : evF (G fu) (n+9) 63 [.ptr 0 0, .d (.list (byt l))] [.cells (ck e w)] = some (.tup [], [.cells (ck e (w.want l))]) := by
  have R := wantR_ev fu n w.s l hs hl
  rw [evF.eq_2, evX.eq_def, Gext, exts_no _ (f := 63) (by decide), GP, Tryd.func63]; simp only [Tryd.f63, evB]
  unfold WkS.want
  by_cases h : w.e = 0
  · rw [takeS_put w _ (fun _ x => by have := wantS_err x; omega)]
    cases hr : wantS w.s l with
    | ok s =>
      rw [hr] at R
      have T := take_ev fu (n+6) e w s 0
      simp only [ck, h] at T
      simp only [stkR, Stk.dd] at R T
      simp only [go_sem, Nat.reduceAdd, Nat.reduceMul, Nat.reduceSub, Nat.reduceLT, Nat.reduceLeDiff, Nat.reduceEqDiff, Nat.reduceBEq, Nat.reduceBeqDiff, Int.reduceEq, Int.reduceLT, Int.reduceLE, Int.reduceToNat, Int.reduceNeg, Int.reduceAdd, Int.reduceSub, Int.reduceMul, reduceIte, reduceCtorEq, Nat.reducePow, Nat.reduceDiv, Nat.reduceMod, Int.reduceBEq, ck, h, R, T, takeR]
    | error x =>
      rw [hr] at R
      have T := take_ev fu (n+6) e w stk0 x
      simp only [ck, h] at T
      simp only [stkR, Stk.dd] at R T
      simp only [go_sem, Nat.reduceAdd, Nat.reduceMul, Nat.reduceSub, Nat.reduceLT, Nat.reduceLeDiff, Nat.reduceEqDiff, Nat.reduceBEq, Nat.reduceBeqDiff, Int.reduceEq, Int.reduceLT, Int.reduceLE, Int.reduceToNat, Int.reduceNeg, Int.reduceAdd, Int.reduceSub, Int.reduceMul, reduceIte, reduceCtorEq, Nat.reducePow, Nat.reduceDiv, Nat.reduceMod, Int.reduceBEq, ck, h, R, T, takeR]
  · simp only [go_sem, Nat.reduceAdd, Nat.reduceMul, Nat.reduceSub, Nat.reduceLT, Nat.reduceLeDiff, Nat.reduceEqDiff, Nat.reduceBEq, Nat.reduceBeqDiff, Int.reduceEq, Int.reduceLT, Int.reduceLE, Int.reduceToNat, Int.reduceNeg, Int.reduceAdd, Int.reduceSub, Int.reduceMul, reduceIte, reduceCtorEq, Nat.reducePow, Nat.reduceDiv, Nat.reduceMod, Int.reduceBEq, ck, h, put_off h]
theorem ckpush_ev (fu n : Nat) (e : TEnv) (w : WkS) (l : List Int) (hs : SzOk fu w.s) (hl : l.length < 1000000) (hl2 : l.length < fu) (hf : 3 < fu) : evF (G fu) (n+9) 67 [.ptr 0 0, .d (.list (byt l))] [.cells (ck e w)] = some (.tup [], [.cells (ck e (w.push l))]) := by
  have R := push_ev fu (n+1) w.s l hs hl2 hl hf
  rw [evF.eq_2, evX.eq_def, Gext, exts_no _ (f := 67) (by decide), GP, Tryd.func67]; simp only [Tryd.f67, evB]
  unfold WkS.push
  by_cases h : w.e = 0
  · rw [takeS_put w _ (fun _ x => by have := pushS_err x; omega)]
    cases hr : pushS w.s l with
    | ok s =>
      rw [hr] at R
      have T := take_ev fu (n+6) e w s 0
      simp only [ck, h] at T
      simp only [stkR, Stk.dd] at R T
      simp only [go_sem, Nat.reduceAdd, Nat.reduceMul, Nat.reduceSub, Nat.reduceLT, Nat.reduceLeDiff, Nat.reduceEqDiff, Nat.reduceBEq, Nat.reduceBeqDiff, Int.reduceEq, Int.reduceLT, Int.reduceLE, Int.reduceToNat, Int.reduceNeg, Int.reduceAdd, Int.reduceSub, Int.reduceMul, reduceIte, reduceCtorEq, Nat.reducePow, Nat.reduceDiv, Nat.reduceMod, Int.reduceBEq, ck, h, R, T, takeR]
    | error x =>
      rw [hr] at R
      have T := take_ev fu (n+6) e w stk0 x
      simp only [ck, h] at T
      simp only [stkR, Stk.dd] at R T
      simp only [go_sem, Nat.reduceAdd, Nat.reduceMul, Nat.reduceSub, Nat.reduceLT, Nat.reduceLeDiff, Nat.reduceEqDiff, Nat.reduceBEq, Nat.reduceBeqDiff, Int.reduceEq, Int.reduceLT, Int.reduceLE, Int.reduceToNat, Int.reduceNeg, Int.reduceAdd, Int.reduceSub, Int.reduceMul, reduceIte, reduceCtorEq, Nat.reducePow, Nat.reduceDiv, Nat.reduceMod, Int.reduceBEq, ck, h, R, T, takeR]
  · simp only [go_sem, Nat.reduceAdd, Nat.reduceMul, Nat.reduceSub, Nat.reduceLT, Nat.reduceLeDiff, Nat.reduceEqDiff, Nat.reduceBEq, Nat.reduceBeqDiff, Int.reduceEq, Int.reduceLT, Int.reduceLE, Int.reduceToNat, Int.reduceNeg, Int.reduceAdd, Int.reduceSub, Int.reduceMul, reduceIte, reduceCtorEq, Nat.reducePow, Nat.reduceDiv, Nat.reduceMod, Int.reduceBEq, ck, h, put_off h]
theorem ckkill_ev (fu n : Nat) (e : TEnv) (w : WkS) (hs : SzOk fu w.s) : evF (G fu) (n+9) 66 [.ptr 0 0] [.cells (ck e w)] = some (.tup [], [.cells (ck e w.kill)]) := by
  have R := killR_ev fu n w.s hs
  rw [evF.eq_2, evX.eq_def, Gext, exts_no _ (f := 66) (by decide), GP, Tryd.func66]; simp only [Tryd.f66, evB]
  unfold WkS.kill
  by_cases h : w.e = 0
  · rw [takeS_put w _ (fun _ x => by have := killS_err x; omega)]
    cases hr : killS w.s with
    | ok s =>
      rw [hr] at R
      have T := take_ev fu (n+6) e w s 0
      simp only [ck, h] at T
      simp only [stkR, Stk.dd] at R T
      simp only [go_sem, Nat.reduceAdd, Nat.reduceMul, Nat.reduceSub, Nat.reduceLT, Nat.reduceLeDiff, Nat.reduceEqDiff, Nat.reduceBEq, Nat.reduceBeqDiff, Int.reduceEq, Int.reduceLT, Int.reduceLE, Int.reduceToNat, Int.reduceNeg, Int.reduceAdd, Int.reduceSub, Int.reduceMul, reduceIte, reduceCtorEq, Nat.reducePow, Nat.reduceDiv, Nat.reduceMod, Int.reduceBEq, ck, h, R, T, takeR]
    | error x =>
      rw [hr] at R
      have T := take_ev fu (n+6) e w stk0 x
      simp only [ck, h] at T
      simp only [stkR, Stk.dd] at R T
      simp only [go_sem, Nat.reduceAdd, Nat.reduceMul, Nat.reduceSub, Nat.reduceLT, Nat.reduceLeDiff, Nat.reduceEqDiff, Nat.reduceBEq, Nat.reduceBeqDiff, Int.reduceEq, Int.reduceLT, Int.reduceLE, Int.reduceToNat, Int.reduceNeg, Int.reduceAdd, Int.reduceSub, Int.reduceMul, reduceIte, reduceCtorEq, Nat.reducePow, Nat.reduceDiv, Nat.reduceMod, Int.reduceBEq, ck, h, R, T, takeR]
  · simp only [go_sem, Nat.reduceAdd, Nat.reduceMul, Nat.reduceSub, Nat.reduceLT, Nat.reduceLeDiff, Nat.reduceEqDiff, Nat.reduceBEq, Nat.reduceBeqDiff, Int.reduceEq, Int.reduceLT, Int.reduceLE, Int.reduceToNat, Int.reduceNeg, Int.reduceAdd, Int.reduceSub, Int.reduceMul, reduceIte, reduceCtorEq, Nat.reducePow, Nat.reduceDiv, Nat.reduceMod, Int.reduceBEq, ck, h, put_off h]
theorem ckopen_ev (fu n : Nat) (e : TEnv) (w : WkS) (op : Int) (l : List Int) (hs : SzOk fu w.s) (hl : l.length < 1000000) : evF (G fu) (n+9) 64 [.ptr 0 0, .d (.int .i64 op), .d (.list (byt l))] [.cells (ck e w)] = some (.tup [], [.cells (ck e (w.opens op l))]) := by
  have R := openR_ev fu (n+1) w.s op l hs hl
  rw [evF.eq_2, evX.eq_def, Gext, exts_no _ (f := 64) (by decide), GP, Tryd.func64]; simp only [Tryd.f64, evB]
  unfold WkS.opens
  by_cases h : w.e = 0
  · rw [takeS_put w _ (fun _ x => by have := openS_err x; omega)]
    cases hr : openS w.s op l with
    | ok s =>
      rw [hr] at R
      have T := take_ev fu (n+6) e w s 0
      simp only [ck, h] at T
      simp only [stkR, Stk.dd] at R T
      simp only [go_sem, Nat.reduceAdd, Nat.reduceMul, Nat.reduceSub, Nat.reduceLT, Nat.reduceLeDiff, Nat.reduceEqDiff, Nat.reduceBEq, Nat.reduceBeqDiff, Int.reduceEq, Int.reduceLT, Int.reduceLE, Int.reduceToNat, Int.reduceNeg, Int.reduceAdd, Int.reduceSub, Int.reduceMul, reduceIte, reduceCtorEq, Nat.reducePow, Nat.reduceDiv, Nat.reduceMod, Int.reduceBEq, ck, h, R, T, takeR]
    | error x =>
      rw [hr] at R
      have T := take_ev fu (n+6) e w stk0 x
      simp only [ck, h] at T
      simp only [stkR, Stk.dd] at R T
      simp only [go_sem, Nat.reduceAdd, Nat.reduceMul, Nat.reduceSub, Nat.reduceLT, Nat.reduceLeDiff, Nat.reduceEqDiff, Nat.reduceBEq, Nat.reduceBeqDiff, Int.reduceEq, Int.reduceLT, Int.reduceLE, Int.reduceToNat, Int.reduceNeg, Int.reduceAdd, Int.reduceSub, Int.reduceMul, reduceIte, reduceCtorEq, Nat.reducePow, Nat.reduceDiv, Nat.reduceMod, Int.reduceBEq, ck, h, R, T, takeR]
  · simp only [go_sem, Nat.reduceAdd, Nat.reduceMul, Nat.reduceSub, Nat.reduceLT, Nat.reduceLeDiff, Nat.reduceEqDiff, Nat.reduceBEq, Nat.reduceBeqDiff, Int.reduceEq, Int.reduceLT, Int.reduceLE, Int.reduceToNat, Int.reduceNeg, Int.reduceAdd, Int.reduceSub, Int.reduceMul, reduceIte, reduceCtorEq, Nat.reducePow, Nat.reduceDiv, Nat.reduceMod, Int.reduceBEq, ck, h, put_off h]
theorem ckpop_ev (fu n : Nat) (e : TEnv) (w : WkS) (hs : SzOk fu w.s) : evF (G fu) (n+9) 76 [.ptr 0 0] [.cells (ck e w)] = some (.d (.int .u8 w.pop.1), [.cells (ck e w.pop.2)]) := by
  have R := popR_ev fu n w.s hs
  rw [evF.eq_2, evX.eq_def, Gext, exts_no _ (f := 76) (by decide), GP, Tryd.func76]; simp only [Tryd.f76, evB]
  unfold WkS.pop
  cases hr : popS w.s with
  | ok z =>
    obtain ⟨t, s⟩ := z
    rw [hr] at R
    have T := take_ev fu (n+6) e w s 0
    simp only
    rw [takeS_put w _ (fun _ x => by cases x)]
    simp only [popR, ck, Stk.dd] at R T
    simp only [go_sem, Nat.reduceAdd, Nat.reduceMul, Nat.reduceSub, Nat.reduceLT, Nat.reduceLeDiff, Nat.reduceEqDiff, Nat.reduceBEq, Nat.reduceBeqDiff, Int.reduceEq, Int.reduceLT, Int.reduceLE, Int.reduceToNat, Int.reduceNeg, Int.reduceAdd, Int.reduceSub, Int.reduceMul, reduceIte, reduceCtorEq, Nat.reducePow, Nat.reduceDiv, Nat.reduceMod, Int.reduceBEq, ck, R, T, takeR]
  | error x =>
    rw [hr] at R
    have T := take_ev fu (n+6) e w stk0 x
    simp only
    rw [takeS_put w _ (fun y hy => by cases hy; have := popS_err hr; omega)]
    simp only [popR, ck, Stk.dd] at R T
    simp only [go_sem, Nat.reduceAdd, Nat.reduceMul, Nat.reduceSub, Nat.reduceLT, Nat.reduceLeDiff, Nat.reduceEqDiff, Nat.reduceBEq, Nat.reduceBeqDiff, Int.reduceEq, Int.reduceLT, Int.reduceLE, Int.reduceToNat, Int.reduceNeg, Int.reduceAdd, Int.reduceSub, Int.reduceMul, reduceIte, reduceCtorEq, Nat.reducePow, Nat.reduceDiv, Nat.reduceMod, Int.reduceBEq, ck, R, T, takeR]
theorem ckshut_ev (fu n : Nat) (e : TEnv) (w : WkS) (hs : SzOk fu w.s) : evF (G fu) (n+9) 89 [.ptr 0 0] [.cells (ck e w)] = some (.d w.closed.1.dd, [.cells (ck e w.closed.2)]) := by
  have R := closeR_ev fu n w.s hs
  rw [evF.eq_2, evX.eq_def, Gext, exts_no _ (f := 89) (by decide), GP, Tryd.func89]; simp only [Tryd.f89, evB]
  unfold WkS.closed
  cases hr : closeS w.s with
  | ok z =>
    obtain ⟨t, s⟩ := z
    rw [hr] at R
    have T := take_ev fu (n+6) e w s 0
    simp only
    rw [takeS_put w _ (fun _ x => by cases x)]
    simp only [closeR, ck, Stk.dd, Ctl.dd] at R T
    simp only [go_sem, Nat.reduceAdd, Nat.reduceMul, Nat.reduceSub, Nat.reduceLT, Nat.reduceLeDiff, Nat.reduceEqDiff, Nat.reduceBEq, Nat.reduceBeqDiff, Int.reduceEq, Int.reduceLT, Int.reduceLE, Int.reduceToNat, Int.reduceNeg, Int.reduceAdd, Int.reduceSub, Int.reduceMul, reduceIte, reduceCtorEq, Nat.reducePow, Nat.reduceDiv, Nat.reduceMod, Int.reduceBEq, ck, Ctl.dd, R, T, takeR]
  | error x =>
    rw [hr] at R
    have T := take_ev fu (n+6) e w stk0 x
    simp only
    rw [takeS_put w _ (fun y hy => by cases hy; have := closeS_err hr; omega)]
    simp only [closeR, ck, Stk.dd, Ctl.dd, ctl0] at R T
    simp only [go_sem, Nat.reduceAdd, Nat.reduceMul, Nat.reduceSub, Nat.reduceLT, Nat.reduceLeDiff, Nat.reduceEqDiff, Nat.reduceBEq, Nat.reduceBeqDiff, Int.reduceEq, Int.reduceLT, Int.reduceLE, Int.reduceToNat, Int.reduceNeg, Int.reduceAdd, Int.reduceSub, Int.reduceMul, reduceIte, reduceCtorEq, Nat.reducePow, Nat.reduceDiv, Nat.reduceMod, Int.reduceBEq, ck, Ctl.dd, R, T, takeR]
theorem cklabel_ev (fu n : Nat) (e : TEnv) (w : WkS) (k : Int) (hs : SzOk fu w.s) (hk : -9223372036854775808 ≤ k ∧ k ≤ 9223372036854775807) : evF (G fu) (n+8) 65 [.ptr 0 0, .d (.int .i64 k)] [.cells (ck e w)] =
    some (.row 1 0 0 (w.label k).1.length, [.cells (ck e (w.label k).2), .row 1 (byt (w.label k).1) 0 false false]) := by
  have R := labelR_ev fu n w.s k hs hk
  rw [evF.eq_2, evX.eq_def, Gext, exts_no _ (f := 65) (by decide), GP, Tryd.func65]; simp only [Tryd.f65, evB]
  unfold WkS.label
  cases hr : labelS w.s k with
  | ok l =>
    rw [hr] at R
    have T := must_ev fu (n+6) e w true 0
    have hw : w.must true 0 = w := rfl
    rw [hw] at T
    simp only [labR, ck, Stk.dd] at R T
    simp only [go_sem, Nat.reduceAdd, Nat.reduceMul, Nat.reduceSub, Nat.reduceLT, Nat.reduceLeDiff, Nat.reduceEqDiff, Nat.reduceBEq, Nat.reduceBeqDiff, Int.reduceEq, Int.reduceLT, Int.reduceLE, Int.reduceToNat, Int.reduceNeg, Int.reduceAdd, Int.reduceSub, Int.reduceMul, reduceIte, reduceCtorEq, Nat.reducePow, Nat.reduceDiv, Nat.reduceMod, Int.reduceBEq, ck, R, T, takeR]
  | error x =>
    rw [hr] at R
    have T := must_ev fu (n+6) e w false x
    have he : ¬ x = 0 := by
      unfold labelS at hr
      split at hr
      · cases hr; decide
      · split at hr
        · cases hr; decide
        · split at hr
          · cases hr; decide
          · cases hr
    simp only [labR, ck, Stk.dd] at R T
    simp only [go_sem, Nat.reduceAdd, Nat.reduceMul, Nat.reduceSub, Nat.reduceLT, Nat.reduceLeDiff, Nat.reduceEqDiff, Nat.reduceBEq, Nat.reduceBeqDiff, Int.reduceEq, Int.reduceLT, Int.reduceLE, Int.reduceToNat, Int.reduceNeg, Int.reduceAdd, Int.reduceSub, Int.reduceMul, reduceIte, reduceCtorEq, Nat.reducePow, Nat.reduceDiv, Nat.reduceMod, Int.reduceBEq, ck, R, T, he, List.map_nil]
end Go.Proofs.YtfpioigggjnffaaDoor.E
