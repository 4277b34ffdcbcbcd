/- F4, F5, F6, Q15, Q16. -/
import Derived.Test.YtfpioigggjnffaaDoorQ13
import Derived.Test.YtfpioigggjnffaaDoorETi
set_option linter.unnecessarySimpa false
set_option linter.unusedSimpArgs false
set_option linter.unusedVariables false
/- The walk's reading with Matches' teller. -/
set_option autoImplicit false
set_option maxRecDepth 100000
set_option maxHeartbeats 4000000
set_option linter.unusedSimpArgs false
set_option linter.unusedVariables false
set_option pp.maxSteps 20000
namespace Go.Proofs.YtfpioigggjnffaaDoor.E
open Go.Ev
/-! Matches' teller. -/
def tellM (l : List TInstr) (k : Nat) (_ : Int) (e : Nest) (M : List Nest) : List Nest :=
  if (l.getD k in0).op = 11 then
    (if e.2 = -1 then M.set e.1.toNat (e.2, ↑k) else (M.set e.1.toNat (e.2, ↑k)).set e.2.toNat (((M.set e.1.toNat (e.2, ↑k)).getD e.2.toNat (0, 0)).1, ↑k))
  else M
theorem tellM_length (l : List TInstr) (k : Nat) (d : Int) (e : Nest) (M : List Nest) : (tellM l k d e M).length = M.length := by
  unfold tellM
  split
  · split <;> simp
  · rfl
theorem tellM_len {l : List TInstr} {s0 : List Nest} : ∀ {k : Nat} {st : List Nest} {s : List Nest}, walkG (tellM l) s0 l k = some (st, s) → s.length = s0.length
  | 0, st, s, h => by
    simp only [walkG, Option.some.injEq, Prod.mk.injEq] at h
    rw [← h.2]
  | k + 1, st, s, h => by
    simp only [walkG] at h
    split at h
    · cases h
    · rename_i st0 ts0 h0
      split at h
      · cases h
      · rename_i st1 d e h1
        simp only [Option.some.injEq, Prod.mk.injEq] at h
        obtain ⟨rfl, rfl⟩ := h
        rw [tellM_length]
        exact tellM_len h0
section
variable (fu n : Nat) (l : List TInstr) (k : Nat) (hk : k < l.length) (d a b : Int) (M : List Nest)
include hk
theorem tellM_other (h11 : (l.getD k in0).op ≠ 11) : evF (G fu) (n+1) 29 [.d (.int .i64 k), .d (.int .i64 d), .d (.agg [.int .i64 a, .int .i64 b]), .ptr 0 0, .ptr 1 0] [.cells [.d (.list (l.map TInstr.d))], .cells [.row 2 0 0 l.length], .row 2 (M.map nestD) 0 false false] =
    some (.tup [], [.cells [.d (.list (l.map TInstr.d))], .cells [.row 2 0 0 l.length], .row 2 ((tellM l k d (a, b) M).map nestD) 0 false false]) := by
  rw [evF.eq_2, evX.eq_def, Gext, exts_no _ (f := 29) (by decide), GP, Tryd.func29]; simp only [Tryd.f29, evB]
  simp only [go_sem, Nat.reduceAdd, Nat.reduceMul, Nat.reduceSub, Nat.reduceLT, Nat.reduceLeDiff, Nat.reduceEqDiff, Nat.reduceBEq, Nat.reduceBeqDiff, Int.reduceEq, Int.reduceLT, Int.reduceLE, Int.reduceToNat, Int.reduceNeg, Int.reduceAdd, Int.reduceSub, Int.reduceMul, reduceIte, reduceCtorEq, Nat.reducePow, Nat.reduceDiv, Nat.reduceMod, Int.reduceBEq, idx, getD_map (d := in0) hk, TInstr.d, tellM, h11]
variable (h11 : (l.getD k in0).op = 11) (ha : 0 ≤ a) (hal : a < l.length) (hM : M.length = l.length)
include h11 ha hal hM
theorem tellM_end (hb : b = -1) : evF (G fu) (n+1) 29 [.d (.int .i64 k), .d (.int .i64 d), .d (.agg [.int .i64 a, .int .i64 b]), .ptr 0 0, .ptr 1 0] [.cells [.d (.list (l.map TInstr.d))], .cells [.row 2 0 0 l.length], .row 2 (M.map nestD) 0 false false] =
    some (.tup [], [.cells [.d (.list (l.map TInstr.d))], .cells [.row 2 0 0 l.length], .row 2 ((tellM l k d (a, b) M).map nestD) 0 false false]) := by
  subst hb
  have hx : (M.map nestD)[a.toNat]? = some (.agg [.int .i64 (M.getD a.toNat (0, 0)).1, .int .i64 (M.getD a.toNat (0, 0)).2]) := getD_map (f := nestD) (by omega)
  rw [evF.eq_2, evX.eq_def, Gext, exts_no _ (f := 29) (by decide), GP, Tryd.func29]; simp only [Tryd.f29, evB]
  simp only [go_sem, Nat.reduceAdd, Nat.reduceMul, Nat.reduceSub, Nat.reduceLT, Nat.reduceLeDiff, Nat.reduceEqDiff, Nat.reduceBEq, Nat.reduceBeqDiff, Int.reduceEq, Int.reduceLT, Int.reduceLE, Int.reduceToNat, Int.reduceNeg, Int.reduceAdd, Int.reduceSub, Int.reduceMul, reduceIte, reduceCtorEq, Nat.reducePow, Nat.reduceDiv, Nat.reduceMod, Int.reduceBEq, idx, getD_map (d := in0) hk, TInstr.d, tellM, h11, ha, hal, hx, List.map_set, nestD]
theorem tellM_both (hb : ¬ b = -1) (hb0 : 0 ≤ b) (hbl : b < l.length) : evF (G fu) (n+1) 29 [.d (.int .i64 k), .d (.int .i64 d), .d (.agg [.int .i64 a, .int .i64 b]), .ptr 0 0, .ptr 1 0] [.cells [.d (.list (l.map TInstr.d))], .cells [.row 2 0 0 l.length], .row 2 (M.map nestD) 0 false false] =
    some (.tup [], [.cells [.d (.list (l.map TInstr.d))], .cells [.row 2 0 0 l.length], .row 2 ((tellM l k d (a, b) M).map nestD) 0 false false]) := by
  have hx : (M.map nestD)[a.toNat]? = some (.agg [.int .i64 (M.getD a.toNat (0, 0)).1, .int .i64 (M.getD a.toNat (0, 0)).2]) := getD_map (f := nestD) (by omega)
  have hy : ((M.map nestD).set a.toNat (.agg [.int .i64 b, .int .i64 k]))[b.toNat]? = some (.agg [.int .i64 ((M.set a.toNat (b, ↑k)).getD b.toNat (0, 0)).1, .int .i64 ((M.set a.toNat (b, ↑k)).getD b.toNat (0, 0)).2]) := by
    have := getD_map (f := nestD) (l := M.set a.toNat (b, (k : Int))) (i := b.toNat) (d := (0, 0)) (by simp; omega)
    rw [List.map_set] at this
    exact this
  rw [evF.eq_2, evX.eq_def, Gext, exts_no _ (f := 29) (by decide), GP, Tryd.func29]; simp only [Tryd.f29, evB]
  simp only [go_sem, Nat.reduceAdd, Nat.reduceMul, Nat.reduceSub, Nat.reduceLT, Nat.reduceLeDiff, Nat.reduceEqDiff, Nat.reduceBEq, Nat.reduceBeqDiff, Int.reduceEq, Int.reduceLT, Int.reduceLE, Int.reduceToNat, Int.reduceNeg, Int.reduceAdd, Int.reduceSub, Int.reduceMul, reduceIte, reduceCtorEq, Nat.reducePow, Nat.reduceDiv, Nat.reduceMod, Int.reduceBEq, idx, getD_map (d := in0) hk, TInstr.d, tellM, h11, ha, hal, hx, hb, hb0, hbl, hy, List.map_set, nestD]
end
theorem walkM_ev (fu n : Nat) (l : List TInstr) (h : 21 < fu) (hl : l.length < fu) (hs : l.length < 100000) (s0 : List Nest) (hs0 : s0.length = l.length) :
    ∃ os : List Nest, evF (G fu) (n+4) 28 [.d (.list (l.map TInstr.d)), .fn (.func 29) [] [.ptr 0 0, .ptr 1 0]] [.cells [.d (.list (l.map TInstr.d))], .cells [.row 2 0 0 l.length], .row 2 ((s0).map nestD) 0 false false] = some (.d (.bool (walkOk l)), [.cells [.d (.list (l.map TInstr.d))], .cells [.row 2 0 0 l.length], .row 2 ((os).map nestD) 0 false false]) ∧
      ∀ st s, walkG (tellM l) s0 l l.length = some (st, s) → os = s := by
  rw [evF.eq_2, evX.eq_def, Gext, exts_no _ (f := 28) (by decide), GP, Tryd.func28]; simp only [Tryd.f28, evB]
  simp only [go_sem, Nat.reduceAdd, Nat.reduceMul, Nat.reduceSub, Nat.reduceLT, Nat.reduceLeDiff, Nat.reduceEqDiff, Nat.reduceBEq, Nat.reduceBeqDiff, Int.reduceEq, Int.reduceLT, Int.reduceLE, Int.reduceToNat, Int.reduceNeg, Int.reduceAdd, Int.reduceSub, Int.reduceMul, reduceIte, reduceCtorEq, Nat.reducePow, Nat.reduceDiv, Nat.reduceMod, Int.reduceBEq, List.length_map]
  generalize hr : loopN _ _ _ _ _ = r
  obtain ⟨x, s1, rfl, hx, hJ⟩ : ∃ x s1, r = some (x, s1) ∧ leaves x ∧ ((∃ st, ∃ s : List Nest, ∃ H, x = .exit 0 ∧ walkG (tellM l) s0 l l.length = some (st, s) ∧ WkX st H ∧ s1 = ⟨[(5, .ptr 832 0)], [(0, .cells [.d (.list (l.map TInstr.d))]), (1, .cells [.row 2 0 0 l.length]), (2, .row 2 ((s).map nestD) 0 false false)] ++ H⟩) ∨
      (∃ os : List Nest, x = .ret ∧ walkG (tellM l) s0 l l.length = none ∧ s1 = ⟨[(4, .d (.bool false))], [(0, .cells [.d (.list (l.map TInstr.d))]), (1, .cells [.row 2 0 0 l.length]), (2, .row 2 ((os).map nestD) 0 false false)]⟩)) := by
    rw [← hr]
    refine loop_inv (J := fun x s1 => ((∃ st, ∃ s : List Nest, ∃ H, x = .exit 0 ∧ walkG (tellM l) s0 l l.length = some (st, s) ∧ WkX st H ∧ s1 = ⟨[(5, .ptr 832 0)], [(0, .cells [.d (.list (l.map TInstr.d))]), (1, .cells [.row 2 0 0 l.length]), (2, .row 2 ((s).map nestD) 0 false false)] ++ H⟩) ∨
      (∃ os : List Nest, x = .ret ∧ walkG (tellM l) s0 l l.length = none ∧ s1 = ⟨[(4, .d (.bool false))], [(0, .cells [.d (.list (l.map TInstr.d))]), (1, .cells [.row 2 0 0 l.length]), (2, .row 2 ((os).map nestD) 0 false false)]⟩)))
      l.length (fun i z => ∃ st, ∃ s : List Nest, ∃ H, walkG (tellM l) s0 l i = some (st, s) ∧ WkH (.list (l.map TInstr.d)) st H ∧ z = ⟨[(1, .fn (.func 29) [] [.ptr 0 0, .ptr 1 0]), (2, .ptr 192 0), (5, .ptr 832 0), (13, .d (.list (l.map TInstr.d))), (14, .d (.int .i64 l.length)), (15, .d (.int .i64 i))], [(0, .cells [.d (.list (l.map TInstr.d))]), (1, .cells [.row 2 0 0 l.length]), (2, .row 2 ((s).map nestD) 0 false false)] ++ H⟩) ?_ ?_ fu _ hl ⟨[], s0, _, rfl, .nil rfl, rfl⟩
    · rintro i z hi ⟨st, s, H, hw, hH, rfl⟩
      have W := wrap_i64 (show -9223372036854775808 ≤ (i : Int) + 1 by omega) (by omega)
      have hw1 : ∀ st' d e, stepF l st i (l.getD i in0).op = some (st', d, e) → walkG (tellM l) s0 l (i + 1) = some (st', (tellM l) i d e s) := fun st' d e h => by simp only [walkG, hw, h]
      have hw2 : stepF l st i (l.getD i in0).op = none → walkG (tellM l) s0 l l.length = none := fun h => walkG_none (k := i + 1) (by simp only [walkG, hw, h]) _ (by omega)
      obtain ⟨hin, hlen⟩ := walkG_in hw
      have hlen0 : (0 : Nat) ≤ i := by omega
      have hop : opensB (l.getD i in0).op = true ∨ (opensB (l.getD i in0).op = false ∧ (l.getD i in0).op ≠ 5 ∧ (l.getD i in0).op ≠ 11) ∨ ((l.getD i in0).op = 5 ∨ (l.getD i in0).op = 11) := by
        cases opensB (l.getD i in0).op <;> simp <;> omega
      have hM : s.length = l.length := (tellM_len hw).trans hs0
      cases hH with
      | nil hst =>
        subst hst
        rcases hop with ho | ⟨ho, h5, h11⟩ | h5
        · have q := step_nil_open fu n l i (l.getD i in0) h ho
          simp only [TInstr.d, nestD] at q
          simp only [go_sem, Nat.reduceAdd, Nat.reduceMul, Nat.reduceSub, Nat.reduceLT, Nat.reduceLeDiff, Nat.reduceEqDiff, Nat.reduceBEq, Nat.reduceBeqDiff, Int.reduceEq, Int.reduceLT, Int.reduceLE, Int.reduceToNat, Int.reduceNeg, Int.reduceAdd, Int.reduceSub, Int.reduceMul, reduceIte, reduceCtorEq, Nat.reducePow, Nat.reduceDiv, Nat.reduceMod, Int.reduceBEq, Int.ofNat_lt, hi, idx, getD_map (d := in0) hi, TInstr.d, q, tellM_other fu (n+2) l i hi _ _ _ _ (opens_not11 ho), W]
          exact ⟨.normal, _, rfl, _, _, _, hw1 _ _ _ (stepF_open ho), .row [nestD (i, -1)] false (by simp), rfl⟩
        · have q := step_nil_plain fu n l i (l.getD i in0) h ho h5 h11
          simp only [TInstr.d, nestD] at q
          simp only [go_sem, Nat.reduceAdd, Nat.reduceMul, Nat.reduceSub, Nat.reduceLT, Nat.reduceLeDiff, Nat.reduceEqDiff, Nat.reduceBEq, Nat.reduceBeqDiff, Int.reduceEq, Int.reduceLT, Int.reduceLE, Int.reduceToNat, Int.reduceNeg, Int.reduceAdd, Int.reduceSub, Int.reduceMul, reduceIte, reduceCtorEq, Nat.reducePow, Nat.reduceDiv, Nat.reduceMod, Int.reduceBEq, Int.ofNat_lt, hi, idx, getD_map (d := in0) hi, TInstr.d, q, tellM_other fu (n+2) l i hi _ _ _ _ h11, W]
          exact ⟨.normal, _, rfl, _, _, _, hw1 _ _ _ (stepF_plain ho h5 h11), .nil rfl, rfl⟩
        · have q := step_nil_bare fu n l i (l.getD i in0) h h5
          simp only [TInstr.d, nestD] at q
          simp only [go_sem, Nat.reduceAdd, Nat.reduceMul, Nat.reduceSub, Nat.reduceLT, Nat.reduceLeDiff, Nat.reduceEqDiff, Nat.reduceBEq, Nat.reduceBeqDiff, Int.reduceEq, Int.reduceLT, Int.reduceLE, Int.reduceToNat, Int.reduceNeg, Int.reduceAdd, Int.reduceSub, Int.reduceMul, reduceIte, reduceCtorEq, Nat.reducePow, Nat.reduceDiv, Nat.reduceMod, Int.reduceBEq, Int.ofNat_lt, hi, idx, getD_map (d := in0) hi, TInstr.d, q, hlen0, W]
          exact ⟨.ret, _, rfl, .inr ⟨_, rfl, hw2 (stepF_bare h5), rfl⟩⟩
      | row xs chg hxs =>
        rcases hop with ho | ⟨ho, h5, h11⟩ | h5
        · have q := step_row_open fu n l i (l.getD i in0) h st.length xs ho (by omega)
          simp only [TInstr.d, nestD] at q
          simp only [go_sem, Nat.reduceAdd, Nat.reduceMul, Nat.reduceSub, Nat.reduceLT, Nat.reduceLeDiff, Nat.reduceEqDiff, Nat.reduceBEq, Nat.reduceBeqDiff, Int.reduceEq, Int.reduceLT, Int.reduceLE, Int.reduceToNat, Int.reduceNeg, Int.reduceAdd, Int.reduceSub, Int.reduceMul, reduceIte, reduceCtorEq, Nat.reducePow, Nat.reduceDiv, Nat.reduceMod, Int.reduceBEq, Int.ofNat_lt, hi, idx, getD_map (d := in0) hi, TInstr.d, q, tellM_other fu (n+2) l i hi _ _ _ _ (opens_not11 ho), W]
          exact ⟨.normal, _, rfl, _, _, _, hw1 _ _ _ (stepF_open ho), .row _ _ (take_push hxs), rfl⟩
        · have q := step_row_plain fu n l i (l.getD i in0) h st.length xs ho h5 h11
          simp only [TInstr.d, nestD] at q
          simp only [go_sem, Nat.reduceAdd, Nat.reduceMul, Nat.reduceSub, Nat.reduceLT, Nat.reduceLeDiff, Nat.reduceEqDiff, Nat.reduceBEq, Nat.reduceBeqDiff, Int.reduceEq, Int.reduceLT, Int.reduceLE, Int.reduceToNat, Int.reduceNeg, Int.reduceAdd, Int.reduceSub, Int.reduceMul, reduceIte, reduceCtorEq, Nat.reducePow, Nat.reduceDiv, Nat.reduceMod, Int.reduceBEq, Int.ofNat_lt, hi, idx, getD_map (d := in0) hi, TInstr.d, q, tellM_other fu (n+2) l i hi _ _ _ _ h11, W]
          exact ⟨.normal, _, rfl, _, _, _, hw1 _ _ _ (stepF_plain ho h5 h11), .row _ _ hxs, rfl⟩
        · cases st with
          | nil =>
            have q := step_row_bare fu n l i (l.getD i in0) h xs h5
            simp only [TInstr.d, nestD] at q
            simp only [go_sem, Nat.reduceAdd, Nat.reduceMul, Nat.reduceSub, Nat.reduceLT, Nat.reduceLeDiff, Nat.reduceEqDiff, Nat.reduceBEq, Nat.reduceBeqDiff, Int.reduceEq, Int.reduceLT, Int.reduceLE, Int.reduceToNat, Int.reduceNeg, Int.reduceAdd, Int.reduceSub, Int.reduceMul, reduceIte, reduceCtorEq, Nat.reducePow, Nat.reduceDiv, Nat.reduceMod, Int.reduceBEq, Int.ofNat_lt, hi, idx, getD_map (d := in0) hi, TInstr.d, q, hlen0, W]
            exact ⟨.ret, _, rfl, .inr ⟨_, rfl, hw2 (stepF_bare h5), rfl⟩⟩
          | cons p st =>
            obtain ⟨hx1, hx2⟩ := take_top hxs
            obtain ⟨a, b⟩ := p
            have hab : nestIn i (a, b) := hin (a, b) (by simp)
            unfold nestIn at hab
            have hab1 : 0 ≤ a ∧ a < (i : Int) ∧ (b = -1 ∨ (0 ≤ b ∧ b < (i : Int) ∧ a ≠ b)) := hab
            have hsl : st.length < 1000000 := by simp at hlen; omega
            rcases h5 with h5 | h11
            · by_cases hh : b = -1 ∧ ifAt l a = true
              · have q := step_row_else fu n l i (l.getD i in0) h st.length xs a b hx1 hsl h5 (by omega) (by omega)
                rw [if_pos hh] at q
                simp only [TInstr.d, nestD] at q
                simp only [go_sem, Nat.reduceAdd, Nat.reduceMul, Nat.reduceSub, Nat.reduceLT, Nat.reduceLeDiff, Nat.reduceEqDiff, Nat.reduceBEq, Nat.reduceBeqDiff, Int.reduceEq, Int.reduceLT, Int.reduceLE, Int.reduceToNat, Int.reduceNeg, Int.reduceAdd, Int.reduceSub, Int.reduceMul, reduceIte, reduceCtorEq, Nat.reducePow, Nat.reduceDiv, Nat.reduceMod, Int.reduceBEq, Int.ofNat_lt, hi, idx, getD_map (d := in0) hi, TInstr.d, q, tellM_other fu (n+2) l i hi _ _ _ _ (by omega), W]
                exact ⟨.normal, _, rfl, _, _, _, hw1 _ _ _ (by rw [h5]; exact stepF_else (a, b) hh), .row _ _ (take_set hxs), rfl⟩
              · have q := step_row_else fu n l i (l.getD i in0) h st.length xs a b hx1 hsl h5 (by omega) (by omega)
                rw [if_neg hh] at q
                simp only [TInstr.d, nestD] at q
                simp only [go_sem, Nat.reduceAdd, Nat.reduceMul, Nat.reduceSub, Nat.reduceLT, Nat.reduceLeDiff, Nat.reduceEqDiff, Nat.reduceBEq, Nat.reduceBeqDiff, Int.reduceEq, Int.reduceLT, Int.reduceLE, Int.reduceToNat, Int.reduceNeg, Int.reduceAdd, Int.reduceSub, Int.reduceMul, reduceIte, reduceCtorEq, Nat.reducePow, Nat.reduceDiv, Nat.reduceMod, Int.reduceBEq, Int.ofNat_lt, hi, idx, getD_map (d := in0) hi, TInstr.d, q, hlen0, W]
                exact ⟨.ret, _, rfl, .inr ⟨_, rfl, hw2 (by rw [h5]; exact stepF_twice (a, b) hh), rfl⟩⟩
            · by_cases hpop : b = -1
              · have q := step_row_pop fu n l i (l.getD i in0) h st.length xs a b hx1 hsl h11
                simp only [TInstr.d, nestD] at q
                simp only [go_sem, Nat.reduceAdd, Nat.reduceMul, Nat.reduceSub, Nat.reduceLT, Nat.reduceLeDiff, Nat.reduceEqDiff, Nat.reduceBEq, Nat.reduceBeqDiff, Int.reduceEq, Int.reduceLT, Int.reduceLE, Int.reduceToNat, Int.reduceNeg, Int.reduceAdd, Int.reduceSub, Int.reduceMul, reduceIte, reduceCtorEq, Nat.reducePow, Nat.reduceDiv, Nat.reduceMod, Int.reduceBEq, Int.ofNat_lt, hi, idx, getD_map (d := in0) hi, TInstr.d, q, tellM_end fu (n+2) l i hi st.length a b s h11 (by omega) (by omega) hM hpop, W]
                exact ⟨.normal, _, rfl, _, _, _, hw1 _ _ _ (by rw [h11]; exact stepF_pop (a, b)), .row _ _ hx2, rfl⟩
              · have q := step_row_pop fu n l i (l.getD i in0) h st.length xs a b hx1 hsl h11
                simp only [TInstr.d, nestD] at q
                simp only [go_sem, Nat.reduceAdd, Nat.reduceMul, Nat.reduceSub, Nat.reduceLT, Nat.reduceLeDiff, Nat.reduceEqDiff, Nat.reduceBEq, Nat.reduceBeqDiff, Int.reduceEq, Int.reduceLT, Int.reduceLE, Int.reduceToNat, Int.reduceNeg, Int.reduceAdd, Int.reduceSub, Int.reduceMul, reduceIte, reduceCtorEq, Nat.reducePow, Nat.reduceDiv, Nat.reduceMod, Int.reduceBEq, Int.ofNat_lt, hi, idx, getD_map (d := in0) hi, TInstr.d, q, tellM_both fu (n+2) l i hi st.length a b s h11 (by omega) (by omega) hM hpop (by omega) (by omega), W]
                exact ⟨.normal, _, rfl, _, _, _, hw1 _ _ _ (by rw [h11]; exact stepF_pop (a, b)), .row _ _ hx2, rfl⟩

    · rintro z ⟨st, s, H, hw, hH, rfl⟩
      cases hH with
      | nil hst =>
        simp only [go_sem, Nat.reduceAdd, Nat.reduceMul, Nat.reduceSub, Nat.reduceLT, Nat.reduceLeDiff, Nat.reduceEqDiff, Nat.reduceBEq, Nat.reduceBeqDiff, Int.reduceEq, Int.reduceLT, Int.reduceLE, Int.reduceToNat, Int.reduceNeg, Int.reduceAdd, Int.reduceSub, Int.reduceMul, reduceIte, reduceCtorEq, Nat.reducePow, Nat.reduceDiv, Nat.reduceMod, Int.reduceBEq, Int.ofNat_lt, Nat.lt_irrefl]
        exact ⟨_, _, rfl, trivial, .inl ⟨_, _, _, rfl, hw, .nil hst, rfl⟩⟩
      | row xs chg hxs =>
        simp only [go_sem, Nat.reduceAdd, Nat.reduceMul, Nat.reduceSub, Nat.reduceLT, Nat.reduceLeDiff, Nat.reduceEqDiff, Nat.reduceBEq, Nat.reduceBeqDiff, Int.reduceEq, Int.reduceLT, Int.reduceLE, Int.reduceToNat, Int.reduceNeg, Int.reduceAdd, Int.reduceSub, Int.reduceMul, reduceIte, reduceCtorEq, Nat.reducePow, Nat.reduceDiv, Nat.reduceMod, Int.reduceBEq, Int.ofNat_lt, Nat.lt_irrefl]
        exact ⟨_, _, rfl, trivial, .inl ⟨_, _, _, rfl, hw, .row xs chg hxs, rfl⟩⟩
  rcases hJ with ⟨st, s, H, rfl, hw, hH, rfl⟩ | ⟨os, rfl, hw, rfl⟩
  · refine ⟨s, ?_, fun st' s' e => by rw [hw] at e; cases e; rfl⟩
    have : walkOk l = decide (st.length = 0) := by rw [walkOk_of hw]; cases st <;> rfl
    rw [this]
    cases hH with
    | nil hst =>
      subst hst
      simp only [go_sem, Nat.reduceAdd, Nat.reduceMul, Nat.reduceSub, Nat.reduceLT, Nat.reduceLeDiff, Nat.reduceEqDiff, Nat.reduceBEq, Nat.reduceBeqDiff, Int.reduceEq, Int.reduceLT, Int.reduceLE, Int.reduceToNat, Int.reduceNeg, Int.reduceAdd, Int.reduceSub, Int.reduceMul, reduceIte, reduceCtorEq, Nat.reducePow, Nat.reduceDiv, Nat.reduceMod, Int.reduceBEq]
    | row xs chg hxs =>
      simp only [go_sem, Nat.reduceAdd, Nat.reduceMul, Nat.reduceSub, Nat.reduceLT, Nat.reduceLeDiff, Nat.reduceEqDiff, Nat.reduceBEq, Nat.reduceBeqDiff, Int.reduceEq, Int.reduceLT, Int.reduceLE, Int.reduceToNat, Int.reduceNeg, Int.reduceAdd, Int.reduceSub, Int.reduceMul, reduceIte, reduceCtorEq, Nat.reducePow, Nat.reduceDiv, Nat.reduceMod, Int.reduceBEq]
      exact congrArg (fun b => some (V.d (D.bool b), _)) (decide_eq_decide.2 (by omega))
  · refine ⟨os, ?_, fun st s e => by rw [hw] at e; cases e⟩
    simp only [go_sem, Nat.reduceAdd, Nat.reduceMul, Nat.reduceSub, Nat.reduceLT, Nat.reduceLeDiff, Nat.reduceEqDiff, Nat.reduceBEq, Nat.reduceBeqDiff, Int.reduceEq, Int.reduceLT, Int.reduceLE, Int.reduceToNat, Int.reduceNeg, Int.reduceAdd, Int.reduceSub, Int.reduceMul, reduceIte, reduceCtorEq, Nat.reducePow, Nat.reduceDiv, Nat.reduceMod, Int.reduceBEq, walkOk_none hw]
end Go.Proofs.YtfpioigggjnffaaDoor.E

/- The walk's reading with Depths' teller. -/
set_option autoImplicit false
set_option maxRecDepth 100000
set_option maxHeartbeats 4000000
set_option linter.unusedSimpArgs false
set_option linter.unusedVariables false
set_option pp.maxSteps 20000
namespace Go.Proofs.YtfpioigggjnffaaDoor.E
open Go.Ev
/-! Depths' teller. -/
def tellD (_ : Nat) (d : Int) (_ : Nest) (s : List Int) : List Int := s ++ [d]
theorem tellD_len {l : List TInstr} {s0 : List Int} : ∀ {k : Nat} {st : List Nest} {s : List Int}, walkG tellD s0 l k = some (st, s) → s.length = s0.length + k
  | 0, st, s, h => by
    simp only [walkG, Option.some.injEq, Prod.mk.injEq] at h
    rw [← h.2]; rfl
  | k + 1, st, s, h => by
    simp only [walkG] at h
    split at h
    · cases h
    · rename_i st0 ts0 h0
      split at h
      · cases h
      · rename_i st1 d e h1
        simp only [Option.some.injEq, Prod.mk.injEq] at h
        obtain ⟨rfl, rfl⟩ := h
        simp [tellD, tellD_len h0]; omega
end Go.Proofs.YtfpioigggjnffaaDoor.E

/- The reading of slices.Repeat and body.Matches. -/
set_option autoImplicit false
set_option maxRecDepth 100000
set_option maxHeartbeats 4000000
set_option linter.unusedSimpArgs false
set_option linter.unusedVariables false
set_option pp.maxSteps 20000
namespace Go.Proofs.YtfpioigggjnffaaDoor.E
open Go.Ev
theorem mul64_one (fu n : Nat) (c : Int) (h0 : 0 ≤ c) (h1 : c < 4294967296) : evF (G fu) (n+1) 80 [.d (.int .u64 1), .d (.int .u64 c)] [] = some (.tup [.d (.int .u64 0), .d (.int .u64 c)], []) := by
  have a1 : c % 4294967296 = c := Int.emod_eq_of_lt h0 h1
  have a2 : c / 4294967296 = 0 := Int.ediv_eq_zero_of_lt h0 h1
  rw [evF.eq_2, evX.eq_def, Gext, exts_no _ (f := 80) (by decide), GP, Tryd.func80]; simp only [Tryd.f80, evB]
  simp only [go_sem, Nat.reduceAdd, Nat.reduceMul, Nat.reduceSub, Nat.reduceLT, Nat.reduceLeDiff, Nat.reduceEqDiff, Nat.reduceBEq, Nat.reduceBeqDiff, Int.reduceEq, Int.reduceLT, Int.reduceLE, Int.reduceToNat, Int.reduceNeg, Int.reduceAdd, Int.reduceSub, Int.reduceMul, reduceIte, reduceCtorEq, Nat.reducePow, Nat.reduceDiv, Nat.reduceMod, Int.reduceBEq, and_mask32 (show (0 : Int) ≤ 1 by omega) (by omega), and_mask32 h0 (by omega), shr32, a1, a2, Int.one_mul, Int.zero_mul, Int.mul_zero, Int.zero_add, Int.add_zero, wrap_u64 h0 (by omega), show IntKind.wrap .u64 0 = 0 from rfl, show (1 : Int) % 4294967296 = 1 from rfl, show (1 : Int) / 4294967296 = 0 from rfl, and_mask32 (show (0 : Int) ≤ 0 by omega) (by omega), show (0 : Int) % 4294967296 = 0 from rfl, show (0 : Int) / 4294967296 = 0 from rfl]
theorem mul_one (fu n : Nat) (c : Int) (h0 : 0 ≤ c) (h1 : c < 4294967296) : evF (G fu) (n+2) 53 [.d (.int .u64 1), .d (.int .u64 c)] [] = some (.tup [.d (.int .u64 0), .d (.int .u64 c)], []) := by
  rw [evF.eq_2, evX.eq_def, Gext, exts_no _ (f := 53) (by decide), GP, Tryd.func53]; simp only [Tryd.f53, evB]
  simp only [go_sem, Nat.reduceAdd, Nat.reduceMul, Nat.reduceSub, Nat.reduceLT, Nat.reduceLeDiff, Nat.reduceEqDiff, Nat.reduceBEq, Nat.reduceBeqDiff, Int.reduceEq, Int.reduceLT, Int.reduceLE, Int.reduceToNat, Int.reduceNeg, Int.reduceAdd, Int.reduceSub, Int.reduceMul, reduceIte, reduceCtorEq, Nat.reducePow, Nat.reduceDiv, Nat.reduceMod, Int.reduceBEq, mul64_one fu n c h0 h1]
/-- A row of which c things are laid. -/
def rep (N c : Nat) (x z : D) : List D := List.replicate c x ++ List.replicate (N - c) z
theorem rep_len {N c : Nat} {x z : D} (h : c ≤ N) : (rep N c x z).length = N := by simp [rep]; omega
theorem rep_take {N c : Nat} {x z : D} : (rep N c x z).take c = List.replicate c x := by simp [rep]
theorem rep_drop {N c n : Nat} {x z : D} : (rep N c x z).drop (c + n) = List.replicate (N - c - n) z := by simp [rep, List.drop_append, Nat.sub_sub]
theorem rep_copy {N c n : Nat} {x z : D} (hn : n ≤ c) (h : c + n ≤ N) : List.replicate c x ++ ((List.replicate c x).take n ++ (rep N c x z).drop (c + n)) = rep N (c + n) x z := by
  rw [rep_drop, List.take_replicate, Nat.min_eq_left hn, ← List.append_assoc, List.replicate_append_replicate]
  simp [rep, Nat.sub_sub]
theorem rep_one (N : Nat) (x z : D) : List.take (min 1 N) [x] ++ List.drop (min 1 N) (List.replicate N z) = rep N (min 1 N) x z := by
  cases N with
  | zero => rfl
  | succ N =>
    have : min 1 (N + 1) = 1 := by omega
    rw [this]
    simp [rep]
theorem repeat_ev (fu n : Nat) (p : Nest) (N : Nat) (hN : N < 100000) (hf : N < fu) : evF (G fu) (n+3) 27 [.d (.list [nestD p]), .d (.int .i64 N)] [] = some (.row 0 0 0 N, [.row 2 ((List.replicate N p).map nestD) 0 false false]) := by
  rw [evF.eq_2, evX.eq_def, Gext, exts_no _ (f := 27) (by decide), GP, Tryd.func27]; simp only [Tryd.f27, evB]
  have h0 : ¬ ((N : Int) < 0) := by omega
  have h1 : ¬ ((9223372036854775807 : Int) < N) := by omega
  simp only [go_sem, Nat.reduceAdd, Nat.reduceMul, Nat.reduceSub, Nat.reduceLT, Nat.reduceLeDiff, Nat.reduceEqDiff, Nat.reduceBEq, Nat.reduceBeqDiff, Int.reduceEq, Int.reduceLT, Int.reduceLE, Int.reduceToNat, Int.reduceNeg, Int.reduceAdd, Int.reduceSub, Int.reduceMul, reduceIte, reduceCtorEq, Nat.reducePow, Nat.reduceDiv, Nat.reduceMod, Int.reduceBEq, nestD, h0, h1, wrap_u64 (show (0 : Int) ≤ 1 by omega) (by omega), wrap_u64 (show (0 : Int) ≤ N by omega) (by omega), wrap_i64 (show -9223372036854775808 ≤ (N : Int) by omega) (by omega), mul_one fu n N (by omega) (by omega), show N * 17 ≤ 1099511627776 by omega]
  rw [rep_one]
  generalize hr : loopN _ _ _ _ _ = r
  obtain ⟨x, s1, rfl, hx, rfl, rfl⟩ : ∃ x s1, r = some (x, s1) ∧ leaves x ∧ (x = .exit 0 ∧ s1 = ⟨[(7, .row 1984 0 0 N)], [(1984, .row 2 (rep N N (.agg [.int .i64 p.1, .int .i64 p.2]) (.agg [.int .i64 0, .int .i64 0])) 0 false false)]⟩) := by
    rw [← hr]
    refine loop_inv (J := fun x s1 => (x = .exit 0 ∧ s1 = ⟨[(7, .row 1984 0 0 N)], [(1984, .row 2 (rep N N (.agg [.int .i64 p.1, .int .i64 p.2]) (.agg [.int .i64 0, .int .i64 0])) 0 false false)]⟩))
      N (fun i z => ∃ c, min (i + 1) N ≤ c ∧ c ≤ N ∧ z = ⟨[(7, .row 1984 0 0 N), (8, .d (.int .i64 c))], [(1984, .row 2 (rep N c (.agg [.int .i64 p.1, .int .i64 p.2]) (.agg [.int .i64 0, .int .i64 0])) 0 false false)]⟩) ?_ ?_ fu _ hf ⟨min 1 N, by omega, by omega, rfl⟩
    · rintro i z hi ⟨c, h2, h3, rfl⟩
      by_cases hc : c < N
      · simp only [go_sem, Nat.reduceAdd, Nat.reduceMul, Nat.reduceSub, Nat.reduceLT, Nat.reduceLeDiff, Nat.reduceEqDiff, Nat.reduceBEq, Nat.reduceBeqDiff, Int.reduceEq, Int.reduceLT, Int.reduceLE, Int.reduceToNat, Int.reduceNeg, Int.reduceAdd, Int.reduceSub, Int.reduceMul, reduceIte, reduceCtorEq, Nat.reducePow, Nat.reduceDiv, Nat.reduceMod, Int.reduceBEq, Int.ofNat_lt, hc, show (0 : Int) ≤ c by omega, show (c : Int) ≤ N by omega, Int.sub_zero, Int.le_refl, Int.toNat_sub, rep_take, sizedAll_rep (n := c) (show cellsOkD 2 (.agg [.int .i64 p.1, .int .i64 p.2]) = some [.int .i64 p.1, .int .i64 p.2] from rfl), List.length_replicate, rep_copy (show min c (N - c) ≤ c by omega) (show c + min c (N - c) ≤ N by omega), wrap_i64 (show -9223372036854775808 ≤ (c : Int) + ((min c (N - c) : Nat) : Int) by omega) (by omega)]
        rw [cond_free]
        · simp only [go_sem, Nat.reduceAdd, Nat.reduceMul, Nat.reduceSub, Nat.reduceLT, Nat.reduceLeDiff, Nat.reduceEqDiff, Nat.reduceBEq, Nat.reduceBeqDiff, Int.reduceEq, Int.reduceLT, Int.reduceLE, Int.reduceToNat, Int.reduceNeg, Int.reduceAdd, Int.reduceSub, Int.reduceMul, reduceIte, reduceCtorEq, Nat.reducePow, Nat.reduceDiv, Nat.reduceMod, Int.reduceBEq]
          exact ⟨.normal, _, rfl, c + min c (N - c), by omega, by omega, rfl⟩
        · rfl
      · obtain rfl : c = N := by omega
        simp only [go_sem, Nat.reduceAdd, Nat.reduceMul, Nat.reduceSub, Nat.reduceLT, Nat.reduceLeDiff, Nat.reduceEqDiff, Nat.reduceBEq, Nat.reduceBeqDiff, Int.reduceEq, Int.reduceLT, Int.reduceLE, Int.reduceToNat, Int.reduceNeg, Int.reduceAdd, Int.reduceSub, Int.reduceMul, reduceIte, reduceCtorEq, Nat.reducePow, Nat.reduceDiv, Nat.reduceMod, Int.reduceBEq, Int.ofNat_lt, Nat.lt_irrefl]
        exact ⟨_, _, rfl, rfl, rfl⟩
    · rintro z ⟨c, h2, h3, rfl⟩
      obtain rfl : c = N := by omega
      simp only [go_sem, Nat.reduceAdd, Nat.reduceMul, Nat.reduceSub, Nat.reduceLT, Nat.reduceLeDiff, Nat.reduceEqDiff, Nat.reduceBEq, Nat.reduceBeqDiff, Int.reduceEq, Int.reduceLT, Int.reduceLE, Int.reduceToNat, Int.reduceNeg, Int.reduceAdd, Int.reduceSub, Int.reduceMul, reduceIte, reduceCtorEq, Nat.reducePow, Nat.reduceDiv, Nat.reduceMod, Int.reduceBEq, Int.ofNat_lt, Nat.lt_irrefl]
      exact ⟨_, _, rfl, trivial, rfl, rfl⟩
  simp only [go_sem, Nat.reduceAdd, Nat.reduceMul, Nat.reduceSub, Nat.reduceLT, Nat.reduceLeDiff, Nat.reduceEqDiff, Nat.reduceBEq, Nat.reduceBeqDiff, Int.reduceEq, Int.reduceLT, Int.reduceLE, Int.reduceToNat, Int.reduceNeg, Int.reduceAdd, Int.reduceSub, Int.reduceMul, reduceIte, reduceCtorEq, Nat.reducePow, Nat.reduceDiv, Nat.reduceMod, Int.reduceBEq]
  simp [rep, nestD]
/-- Where blocks' parts are; do they nest? -/
def matchesF (l : List TInstr) : List Nest := match walkG (tellM l) (List.replicate l.length (-1, -1)) l l.length with
  | some (st, M) => if st.isEmpty then M else []
  | none => []
theorem matchesF_len (l : List TInstr) (h : walkOk l = true) : (matchesF l).length = l.length := by
  unfold matchesF
  cases hw : walkG (tellM l) (List.replicate l.length (-1, -1)) l l.length with
  | none => rw [walkOk_none hw] at h; cases h
  | some q =>
    obtain ⟨st, M⟩ := q
    rw [walkOk_of hw] at h
    simp only [h, if_true]
    rw [tellM_len hw]; simp
theorem matchesF_no (l : List TInstr) (h : walkOk l = false) : matchesF l = [] := by
  unfold matchesF
  cases hw : walkG (tellM l) (List.replicate l.length (-1, -1)) l l.length with
  | none => rfl
  | some q =>
    obtain ⟨st, M⟩ := q
    rw [walkOk_of hw] at h
    simp only [h, Bool.false_eq_true, if_false]
theorem matches_ev (fu n : Nat) (l : List TInstr) (h : 21 < fu) (hl : l.length < fu) (hs : l.length < 100000) : evF (G fu) (n+5) 16 [.d (.list (l.map TInstr.d))] [] =
    some (.tup [.row 0 0 0 (matchesF l).length, .d (.bool (walkOk l))], [.row 2 ((matchesF l).map nestD) 0 false false]) := by
  obtain ⟨os, h1, h2⟩ := walkM_ev fu n l h hl hs (List.replicate l.length (-1, -1)) (by simp)
  have hr := repeat_ev fu (n+1) (-1, -1) l.length hs hl
  simp only [nestD] at hr
  rw [evF.eq_2, evX.eq_def, Gext, exts_no _ (f := 16) (by decide), GP, Tryd.func16]; simp only [Tryd.f16, evB]
  cases hk : walkOk l with
  | false =>
    rw [hk] at h1
    simp only [go_sem, Nat.reduceAdd, Nat.reduceMul, Nat.reduceSub, Nat.reduceLT, Nat.reduceLeDiff, Nat.reduceEqDiff, Nat.reduceBEq, Nat.reduceBeqDiff, Int.reduceEq, Int.reduceLT, Int.reduceLE, Int.reduceToNat, Int.reduceNeg, Int.reduceAdd, Int.reduceSub, Int.reduceMul, reduceIte, reduceCtorEq, Nat.reducePow, Nat.reduceDiv, Nat.reduceMod, Int.reduceBEq, List.length_map, hr, h1, matchesF_no l hk]
  | true =>
    have hlen := matchesF_len l hk
    have : matchesF l = os := by
      unfold matchesF
      cases hw : walkG (tellM l) (List.replicate l.length (-1, -1)) l l.length with
      | none => rw [walkOk_none hw] at hk; cases hk
      | some q =>
        obtain ⟨st, M⟩ := q
        have hq := walkOk_of hw
        rw [hk] at hq
        simp only [← hq, if_true]
        exact (h2 st M hw).symm
    rw [hlen, this]
    rw [hk] at h1
    simp only [go_sem, Nat.reduceAdd, Nat.reduceMul, Nat.reduceSub, Nat.reduceLT, Nat.reduceLeDiff, Nat.reduceEqDiff, Nat.reduceBEq, Nat.reduceBeqDiff, Int.reduceEq, Int.reduceLT, Int.reduceLE, Int.reduceToNat, Int.reduceNeg, Int.reduceAdd, Int.reduceSub, Int.reduceMul, reduceIte, reduceCtorEq, Nat.reducePow, Nat.reduceDiv, Nat.reduceMod, Int.reduceBEq, List.length_map, hr, h1]
/-- How deep each instruction is. -/
def depthsF (l : List TInstr) : List Int := match walkG tellD [] l l.length with
  | some (st, s) => if st.isEmpty then s else []
  | none => []
theorem depthsF_len (l : List TInstr) (h : walkOk l = true) : (depthsF l).length = l.length := by
  unfold depthsF
  cases hw : walkG tellD [] l l.length with
  | none => rw [walkOk_none hw] at h; cases h
  | some q =>
    obtain ⟨st, M⟩ := q
    rw [walkOk_of hw] at h
    simp only [h, if_true]
    rw [tellD_len hw]; simp
theorem depthsF_no (l : List TInstr) (h : walkOk l = false) : depthsF l = [] := by
  unfold depthsF
  cases hw : walkG tellD [] l l.length with
  | none => rfl
  | some q =>
    obtain ⟨st, M⟩ := q
    rw [walkOk_of hw] at h
    simp only [h, Bool.false_eq_true, if_false]
end Go.Proofs.YtfpioigggjnffaaDoor.E

/- The reading of check.Path. -/
set_option autoImplicit false
set_option maxRecDepth 100000
set_option maxHeartbeats 4000000
set_option linter.unusedSimpArgs false
set_option linter.unusedVariables false
set_option pp.maxSteps 20000
namespace Go.Proofs.YtfpioigggjnffaaDoor.E
open Go.Ev
theorem Rm.go {b : Nat} {e : TEnv} (he : ESm e) {s : Stk} (h : Rm b s) (i : TInstr) : Rm (b + 65) (goS accE shapeF e s i).s := by
  have hR : Rm b (⟨s, 0⟩ : WkS).s := h
  unfold goS
  simp only
  split
  · exact hR.kill.up (by omega)
  split
  · exact h.up (by omega)
  split
  · unfold nestedS
    split
    · exact (hR.want _).opens _ _ (by omega)
    split
    · exact ((hR.must _ _).closed).opens _ _ (by omega)
    split
    · refine (((hR.must _ _).closed).must _ _).push ?_
      have := closed_len ((⟨s, 0⟩ : WkS).must (decide (1 < s.ctrls.length)) 5)
      simp only; omega
    · exact hR.opens _ _ (by omega)
  split
  · unfold branchS
    split
    · exact (hR.want _).kill.up (by omega)
    · simp only
      have hl := fin_len (label_fin ⟨s, 0⟩ i.a)
      have h1 : Rm b (labelsS ((⟨s, 0⟩ : WkS).label i.a).2 ((⟨s, 0⟩ : WkS).label i.a).1 i.labels).s := (hR.label i.a).labels _ _
      have h2 : Rm b (if i.op = 12 then labelsS ((⟨s, 0⟩ : WkS).label i.a).2 ((⟨s, 0⟩ : WkS).label i.a).1 i.labels else (labelsS ((⟨s, 0⟩ : WkS).label i.a).2 ((⟨s, 0⟩ : WkS).label i.a).1 i.labels).want [127]).s := by
        split
        · exact h1
        · exact h1.want _
      split
      · exact (h2.want _).push (by omega)
      · exact (h2.want _).kill.up (by omega)
  split
  · unfold callS
    simp only
    have key : ∀ (o : Option (List Int × List Int)) (w : WkS), Rm b w.s → (o.getD ([], [])).2.length ≤ 64 → Rm (b + 65) ((w.want (o.getD ([], [])).1).push (o.getD ([], [])).2).s := fun o w hw hl => (hw.want _).push (by omega)
    split
    · refine key _ _ ((hR.must _ _).want _) ?_
      split
      · exact (getM_sm he).2
      · simp
    · exact key _ _ (hR.must _ _) (type_sm he).2
  split
  · unfold chosenS
    split
    · exact hR.pop.up (by omega)
    · exact (((hR.want _).pop.pop).must _ _).push (by simp)
  split
  · unfold variableS
    simp only
    have key : ∀ r : Int × WkS, Rm b r.2.s → Rm (b + 65) (if i.op = 32 ∨ i.op = 34 ∨ i.op = 35 then (if i.op ≠ 32 ∧ i.op ≠ 35 then r.2.want [r.1] else r.2).push [r.1] else (if i.op ≠ 32 ∧ i.op ≠ 35 then r.2.want [r.1] else r.2)).s := fun r hr => by
      have h1 : Rm b (if i.op ≠ 32 ∧ i.op ≠ 35 then r.2.want [r.1] else r.2).s := by
        split
        · exact hr.want _
        · exact hr
      split
      · exact h1.push (by simp)
      · exact h1.up (by omega)
    refine key _ ?_
    split
    · split
      · exact hR
      · exact hR.must _ _
    · split
      · exact hR.must _ _
      · exact hR.must _ _
  split
  · unfold memoryS
    simp only
    have h1 := hR.must (decide (0 < e.mems)) 6
    split
    · exact h1.push (by simp)
    split
    · exact (h1.want _).push (by simp)
    · have h2 := h1.must (decide (i.a ≤ 3) && decide ((2 : Int) ^ i.a.toNat ≤ (accE i.op).2.1)) 5
      split
      · exact (h2.want _).up (by omega)
      · exact (h2.want _).push (by simp)
  split
  · exact hR.push (by simp)
  split
  · exact hR.push (by simp)
  split
  · exact (hR.want _).push (by simp)
  · exact h.up (by omega)
theorem Rm.step {b : Nat} {e : TEnv} (he : ESm e) {s s' : Stk} (h : Rm b s) {i : TInstr} (hs : stepS saneF accE shapeF e s i = .ok s') : Rm (b + 65) s' := by
  have := (stepS_parts hs).2.2.2
  rw [← this]; exact h.go he i
theorem stepS_ne {e : TEnv} {s : Stk} {i : TInstr} {f : Int} (h : stepS saneF accE shapeF e s i = .error f) : ¬ f = 0 := by
  unfold stepS at h
  split at h
  · cases h; decide
  · simp only at h
    split at h
    · rename_i hne; simp only [Except.error.injEq] at h; rw [← h]; exact hne
    · cases h
abbrev stkds (p : List Stk) : List D := p.map Stk.dd
def pathR : Except Int (List Stk) → Option Res
  | .ok p => some (.tup [.row 0 0 0 p.length, .d (.int .i64 0)], [.row 2 (stkds p) 0 false false])
  | .error e => some (.tup [.row 0 0 0 0, .d (.int .i64 e)], [.row 2 [] 0 false false])
/-- the stacks ahead of all instructions, and behind the last -/
def pathF (e : TEnv) (l : List TInstr) : Except Int (List Stk) := if walkOk l then if envSane e then pathS saneF accE shapeF e (start e) l else .error 1 else .error 3
theorem path_snoc {e : TEnv} {s : Stk} {l : List TInstr} {x : TInstr} : pathS saneF accE shapeF e s (l ++ [x]) = match pathS saneF accE shapeF e s l with
    | .error f => .error f
    | .ok p => match stepS saneF accE shapeF e (p.getLastD s) x with
      | .error f => .error f
      | .ok t => .ok (p ++ [t]) := by
  induction l generalizing s with
  | nil =>
    simp only [List.nil_append, pathS]
    have hl : [s].getLastD s = s := rfl
    rw [hl]
    cases hs : stepS saneF accE shapeF e s x <;> simp only [List.cons_append, List.nil_append]
  | cons i l ih =>
    simp only [List.cons_append, pathS]
    cases hs : stepS saneF accE shapeF e s i with
    | error f => rfl
    | ok s' =>
      simp only
      rw [ih]
      cases hp : pathS saneF accE shapeF e s' l with
      | error f => rfl
      | ok p =>
        simp only
        have hl : p.getLastD s' = (s :: p).getLastD s := by
          have : p ≠ [] := by
            intro hh; subst hh
            have := pathS_len hp
            simp at this
          cases p with
          | nil => exact absurd rfl this
          | cons a p => rfl
        rw [hl]
        cases stepS saneF accE shapeF e ((s :: p).getLastD s) x <;> simp only [List.cons_append]
theorem path_errT {e : TEnv} {s : Stk} {l : List TInstr} {f : Int} : ∀ {k : Nat}, pathS saneF accE shapeF e s (l.take k) = .error f → pathS saneF accE shapeF e s l = .error f := by
  intro k h
  induction l generalizing s k with
  | nil => simpa using h
  | cons i l ih =>
    cases k with
    | zero => simp [pathS] at h
    | succ k =>
      simp only [List.take_succ_cons, pathS] at h ⊢
      cases hs : stepS saneF accE shapeF e s i with
      | error g => rw [hs] at h; exact h
      | ok s' =>
        rw [hs] at h
        simp only at h ⊢
        cases hp : pathS saneF accE shapeF e s' (l.take k) with
        | error g =>
          rw [hp] at h
          cases h
          rw [ih hp]
        | ok p => rw [hp] at h; cases h
theorem stk_sized (p : List Stk) : sizedAll 2 (stkds p) = true := sizedAll_map (fun x => ⟨_, rfl⟩) p
theorem path_ev (fu n : Nat) (e : TEnv) (h : EOk fu e) (l : List TInstr) (hl : l.length * 65 + 300 < fu) (hl2 : l.length * 65 + 300 < 1000000) (hb : ∀ i ∈ l, i.labels.length < fu ∧ i.labels.length < 1000000) :
    evF (G fu) (n+13) 10 [.d e.dd, .d (.list (l.map TInstr.d))] [] = pathR (pathF e l) := by
  have M := matches_ev fu (n+7) l (by omega) (by omega) (by omega)
  have S := envSane_ev fu (n+6) e h
  unfold pathF
  rw [evF.eq_2, evX.eq_def, Gext, exts_no _ (f := 10) (by decide), GP, Tryd.func10]; simp only [Tryd.f10, evB]
  simp only [TEnv.dd] at S
  cases hw : walkOk l with
  | false =>
    rw [hw] at M
    simp only [go_sem, Nat.reduceAdd, Nat.reduceMul, Nat.reduceSub, Nat.reduceLT, Nat.reduceLeDiff, Nat.reduceEqDiff, Nat.reduceBEq, Nat.reduceBeqDiff, Int.reduceEq, Int.reduceLT, Int.reduceLE, Int.reduceToNat, Int.reduceNeg, Int.reduceAdd, Int.reduceSub, Int.reduceMul, reduceIte, reduceCtorEq, Nat.reducePow, Nat.reduceDiv, Nat.reduceMod, Int.reduceBEq, TEnv.dd, M, pathR]
  | true =>
    rw [hw] at M
    cases hs : envSane e with
    | false =>
      rw [hs] at S
      simp only [go_sem, Nat.reduceAdd, Nat.reduceMul, Nat.reduceSub, Nat.reduceLT, Nat.reduceLeDiff, Nat.reduceEqDiff, Nat.reduceBEq, Nat.reduceBeqDiff, Int.reduceEq, Int.reduceLT, Int.reduceLE, Int.reduceToNat, Int.reduceNeg, Int.reduceAdd, Int.reduceSub, Int.reduceMul, reduceIte, reduceCtorEq, Nat.reducePow, Nat.reduceDiv, Nat.reduceMod, Int.reduceBEq, TEnv.dd, M, S, pathR]
    | true =>
      rw [hs] at S
      have hfin : finB e.results = true := by
        unfold envSane at hs
        simp only [Bool.and_eq_true, decide_eq_true_eq, List.all_append] at hs
        match hr : e.results, hs with
        | [], _ => rfl
        | [c], hs => simpa [finB] using hs.1.2.1.2
        | a :: b :: r, hs => have := hs.2; simp at this; omega
      have O := openR_ev fu (n+5) stk0 2 e.results ⟨by simp [stk0]; omega, by simp [stk0]; omega, by simp [stk0], by simp [stk0]⟩ (by have := h.results; omega)
      have hop : openS stk0 2 e.results = .ok (start e) := start_open hfin
      rw [hop] at O
      simp only [stkR, Stk.dd, stk0, List.map_nil] at O
      simp only [go_sem, Nat.reduceAdd, Nat.reduceMul, Nat.reduceSub, Nat.reduceLT, Nat.reduceLeDiff, Nat.reduceEqDiff, Nat.reduceBEq, Nat.reduceBeqDiff, Int.reduceEq, Int.reduceLT, Int.reduceLE, Int.reduceToNat, Int.reduceNeg, Int.reduceAdd, Int.reduceSub, Int.reduceMul, reduceIte, reduceCtorEq, Nat.reducePow, Nat.reduceDiv, Nat.reduceMod, Int.reduceBEq, TEnv.dd, M, S, O, List.length_map, byt0]
      generalize hr : loopN _ _ _ _ _ = r
      obtain ⟨x, s1, rfl, hx, hJ⟩ : ∃ x s1, r = some (x, s1) ∧ Go.Ev.leaves x ∧ ((∃ p c, x = .exit 0 ∧ pathS saneF accE shapeF e (start e) l = .ok p ∧ s1 = ⟨[(10, V.row 2048 0 0 p.length)], [(2048, .row 2 (stkds p) 0 false c)]⟩) ∨
          (∃ f, x = .ret ∧ pathS saneF accE shapeF e (start e) l = .error f ∧ s1 = ⟨[(4, V.nilsl), (5, V.d (D.int .i64 f))], []⟩)) := by
        rw [← hr]
        refine loop_inv (J := fun x s1 => ((∃ p c, x = .exit 0 ∧ pathS saneF accE shapeF e (start e) l = .ok p ∧ s1 = ⟨[(10, V.row 2048 0 0 p.length)], [(2048, .row 2 (stkds p) 0 false c)]⟩) ∨
          (∃ f, x = .ret ∧ pathS saneF accE shapeF e (start e) l = .error f ∧ s1 = ⟨[(4, V.nilsl), (5, V.d (D.int .i64 f))], []⟩)))
          l.length (fun k z => ∃ p c, pathS saneF accE shapeF e (start e) (l.take k) = .ok p ∧ Rm (65 * k + 1) (p.getLastD (start e)) ∧ p.length = k + 1 ∧
            z = ⟨[(2, V.ptr 192 0), (8, V.ptr 576 0), (10, V.row 2048 0 0 p.length), (32, V.d (D.list (List.map TInstr.d l))), (33, V.d (D.int IntKind.i64 l.length)), (34, V.d (D.int IntKind.i64 k))], [(192, .cells [V.d (D.list (List.map tyD e.types)), V.d (D.list (List.map (D.int IntKind.i64) e.funcs)), V.d (D.int IntKind.i64 e.tables), V.d (D.int IntKind.i64 e.mems), V.d (D.list (List.map glD e.globals)), V.d (D.list (byt e.locs)), V.d (D.list (byt e.results))]), (576, .cells [V.d (D.list (byt (p.getLastD (start e)).vals)), V.d (D.list (ctlds (p.getLastD (start e)).ctrls))]), (2048, .row 2 (stkds p) 0 false c)]⟩) ?_ ?_ fu _ (by omega) ?_
        · rintro k z hk ⟨p, c, hp, hrm, hpl, rfl⟩
          have hxi : (l.map TInstr.d)[k]? = some (l.getD k in0).d := getD_map hk
          have hkI : (k : Int) < l.length := by omega
          have W := wrap_i64 (show -9223372036854775808 ≤ (k : Int) + 1 by omega) (by omega)
          have hm : l.getD k in0 ∈ l := by
            rw [List.getD_eq_getElem?_getD, List.getElem?_eq_getElem hk]; exact List.getElem_mem hk
          have P := step_ev fu n (65 * k + 1) e h.sm (p.getLastD (start e)) (by omega) (by omega) hrm (l.getD k in0) (hb _ hm).1 (hb _ hm).2
          have e1 : l.take (k + 1) = l.take k ++ [l.getD k in0] := by
            rw [List.take_add_one, List.getElem?_eq_getElem hk, List.getD_eq_getElem?_getD, List.getElem?_eq_getElem hk]; rfl
          have hsn := path_snoc (e := e) (s := start e) (l := l.take k) (x := l.getD k in0)
          rw [← e1, hp] at hsn
          have hsE : pathS saneF accE shapeF e (start e) (l.take k) = .ok p := hp
          simp only at hsn
          have hrs := fun s' => Rm.step h.sm hrm (s' := s') (i := l.getD k in0)
          generalize l.getD k in0 = i at *
          generalize hlast : p.getLastD (start e) = s at *
          cases hst : stepS saneF accE shapeF e s i with
          | error f =>
            rw [hst] at hsn P
            have hf : ¬ f = 0 := stepS_ne hst
            simp only [stkR, TEnv.dd, Stk.dd, TInstr.d, stk0, List.map_nil] at P
            simp only [go_sem, Nat.reduceAdd, Nat.reduceMul, Nat.reduceSub, Nat.reduceLT, Nat.reduceLeDiff, Nat.reduceEqDiff, Nat.reduceBEq, Nat.reduceBeqDiff, Int.reduceEq, Int.reduceLT, Int.reduceLE, Int.reduceToNat, Int.reduceNeg, Int.reduceAdd, Int.reduceSub, Int.reduceMul, reduceIte, reduceCtorEq, Nat.reducePow, Nat.reduceDiv, Nat.reduceMod, Int.reduceBEq, hkI, idx, hxi, TInstr.d, P, hf]
            exact ⟨_, _, rfl, .inr ⟨f, rfl, path_errT hsn, rfl⟩⟩
          | ok s' =>
            rw [hst] at hsn P
            have hlast2 : (p ++ [s']).getLastD (start e) = s' := by simp [List.getLastD_eq_getLast?]
            have hr2 : p.length + 1 ≤ 1099511627776 := by omega
            have z1 : sizedAll 2 [Stk.dd s'] = true := rfl
            have t1 : (stkds p).take p.length = stkds p := List.take_of_length_le (by simp)
            have t2 : stkds p ++ [Stk.dd s'] = stkds (p ++ [s']) := by simp [stkds]
            simp only [stkR, TEnv.dd, Stk.dd, TInstr.d] at P
            simp only [Stk.dd] at z1 t2
            simp only [go_sem, Nat.reduceAdd, Nat.reduceMul, Nat.reduceSub, Nat.reduceLT, Nat.reduceLeDiff, Nat.reduceEqDiff, Nat.reduceBEq, Nat.reduceBeqDiff, Int.reduceEq, Int.reduceLT, Int.reduceLE, Int.reduceToNat, Int.reduceNeg, Int.reduceAdd, Int.reduceSub, Int.reduceMul, reduceIte, reduceCtorEq, Nat.reducePow, Nat.reduceDiv, Nat.reduceMod, Int.reduceBEq, hkI, idx, hxi, TInstr.d, P, W, z1, hr2, t1, t2]
            refine ⟨_, _, rfl, p ++ [s'], true, hsn, ?_, by simp [hpl], ?_⟩
            · rw [hlast2]; exact (hrs s' hst).up (by omega)
            · rw [hlast2, List.length_append]; rfl
        · rintro z ⟨p, c, hp, hrm, hpl, rfl⟩
          rw [List.take_length] at hp
          simp only [go_sem, Nat.reduceAdd, Nat.reduceMul, Nat.reduceSub, Nat.reduceLT, Nat.reduceLeDiff, Nat.reduceEqDiff, Nat.reduceBEq, Nat.reduceBeqDiff, Int.reduceEq, Int.reduceLT, Int.reduceLE, Int.reduceToNat, Int.reduceNeg, Int.reduceAdd, Int.reduceSub, Int.reduceMul, reduceIte, reduceCtorEq, Nat.reducePow, Nat.reduceDiv, Nat.reduceMod, Int.reduceBEq, Int.lt_irrefl]
          exact ⟨_, _, rfl, trivial, .inl ⟨p, c, rfl, hp, rfl⟩⟩
        · exact ⟨[start e], false, rfl, ⟨by simp [start], by simp [start, List.getLastD]⟩, rfl, rfl⟩
      rcases hJ with ⟨p, c, rfl, hp, rfl⟩ | ⟨f, rfl, hp, rfl⟩
      · rw [hp]
        simp only [go_sem, Nat.reduceAdd, Nat.reduceMul, Nat.reduceSub, Nat.reduceLT, Nat.reduceLeDiff, Nat.reduceEqDiff, Nat.reduceBEq, Nat.reduceBeqDiff, Int.reduceEq, Int.reduceLT, Int.reduceLE, Int.reduceToNat, Int.reduceNeg, Int.reduceAdd, Int.reduceSub, Int.reduceMul, reduceIte, reduceCtorEq, Nat.reducePow, Nat.reduceDiv, Nat.reduceMod, Int.reduceBEq, pathR]
      · rw [hp]
        simp only [go_sem, Nat.reduceAdd, Nat.reduceMul, Nat.reduceSub, Nat.reduceLT, Nat.reduceLeDiff, Nat.reduceEqDiff, Nat.reduceBEq, Nat.reduceBeqDiff, Int.reduceEq, Int.reduceLT, Int.reduceLE, Int.reduceToNat, Int.reduceNeg, Int.reduceAdd, Int.reduceSub, Int.reduceMul, reduceIte, reduceCtorEq, Nat.reducePow, Nat.reduceDiv, Nat.reduceMod, Int.reduceBEq, pathR]
end Go.Proofs.YtfpioigggjnffaaDoor.E

/- The reading of check.Body; what the laws of chapter 10 make of an environment. -/
set_option autoImplicit false
set_option maxRecDepth 100000
set_option maxHeartbeats 4000000
set_option linter.unusedSimpArgs false
set_option linter.unusedVariables false
set_option pp.maxSteps 20000
namespace Go.Proofs.YtfpioigggjnffaaDoor.E
open Go.Ev
theorem path_rm {e : TEnv} (he : ESm e) {l : List TInstr} : ∀ {b : Nat} {s : Stk} {p : List Stk}, Rm b s → pathS saneF accE shapeF e s l = .ok p → ∀ x ∈ p, Rm (b + 65 * l.length) x := by
  induction l with
  | nil =>
    intro b s p h e x hx
    cases e
    simp only [List.mem_singleton] at hx
    subst hx; exact h.up (by omega)
  | cons i l ih =>
    intro b s p h e x hx
    obtain ⟨s', q, h1, h2, rfl⟩ := pathS_cons e
    rcases List.mem_cons.1 hx with rfl | hx
    · exact h.up (by omega)
    · have := ih (h.step he h1) h2 x hx
      exact this.up (by simp only [List.length_cons]; omega)
theorem start_rm (e : TEnv) : Rm 1 (start e) := ⟨by simp [start], by simp [start]⟩
def bodyF (e : TEnv) (l : List TInstr) : Int := match pathF e l with
  | .error f => f
  | .ok p => match closeS (p.getLastD stk0) with
    | .ok _ => 0
    | .error _ => 5
theorem pathF_ok {e : TEnv} {l : List TInstr} {p : List Stk} (h : pathF e l = .ok p) : walkOk l = true ∧ envSane e = true ∧ pathS saneF accE shapeF e (start e) l = .ok p := by
  unfold pathF at h
  split at h
  · rename_i hw
    split at h
    · rename_i hs; exact ⟨hw, hs, h⟩
    · cases h
  · cases h
theorem pathF_ne {e : TEnv} {l : List TInstr} {f : Int} (h : pathF e l = .error f) : ¬ f = 0 := by
  unfold pathF at h
  split at h
  · split at h
    · induction l generalizing f with
      | nil => simp [pathS] at h
      | cons i l ih => 
        clear ih
        revert h
        generalize start e = s
        intro h
        have key : ∀ (l : List TInstr) (s : Stk), pathS saneF accE shapeF e s l = .error f → ¬ f = 0 := by
          intro l
          induction l with
          | nil => intro s h; simp [pathS] at h
          | cons i l ih =>
            intro s h
            simp only [pathS] at h
            cases hs : stepS saneF accE shapeF e s i with
            | error g => rw [hs] at h; cases h; exact stepS_ne hs
            | ok s' =>
              rw [hs] at h
              simp only at h
              cases hp : pathS saneF accE shapeF e s' l with
              | error g => rw [hp] at h; cases h; exact ih s' hp
              | ok p => rw [hp] at h; cases h
        exact key _ _ h
    · cases h; decide
  · cases h; decide
theorem body_ev (fu n : Nat) (e : TEnv) (h : EOk fu e) (l : List TInstr) (hl : l.length * 65 + 300 < fu) (hl2 : l.length * 65 + 300 < 1000000) (hb : ∀ i ∈ l, i.labels.length < fu ∧ i.labels.length < 1000000) :
    evF (G fu) (n+14) 13 [.d e.dd, .d (.list (l.map TInstr.d))] [] = some (.d (.int .i64 (bodyF e l)), []) := by
  have P := path_ev fu n e h l hl hl2 hb
  simp only [TEnv.dd] at P
  unfold bodyF
  rw [evF.eq_2, evX.eq_def, Gext, exts_no _ (f := 13) (by decide), GP, Tryd.func13]; simp only [Tryd.f13, evB]
  cases hp : pathF e l with
  | error f =>
    rw [hp] at P
    simp only [pathR] at P
    have hf := pathF_ne hp
    simp only [go_sem, Nat.reduceAdd, Nat.reduceMul, Nat.reduceSub, Nat.reduceLT, Nat.reduceLeDiff, Nat.reduceEqDiff, Nat.reduceBEq, Nat.reduceBeqDiff, Int.reduceEq, Int.reduceLT, Int.reduceLE, Int.reduceToNat, Int.reduceNeg, Int.reduceAdd, Int.reduceSub, Int.reduceMul, reduceIte, reduceCtorEq, Nat.reducePow, Nat.reduceDiv, Nat.reduceMod, Int.reduceBEq, TEnv.dd, P, hf]
  | ok p =>
    rw [hp] at P
    simp only [pathR] at P
    have hps := (pathF_ok hp).2.2
    have hpl := pathS_len hps
    have hx : (stkds p)[p.length - 1]? = some (p.getD (p.length - 1) stk0).dd := getD_map (by omega)
    have hlast : p.getD (p.length - 1) stk0 = p.getLastD stk0 := by
      rw [List.getLastD_eq_getLast?, List.getLast?_eq_getElem?, List.getD_eq_getElem?_getD]
    have hm : p.getLastD stk0 ∈ p := by
      rw [← hlast, List.getD_eq_getElem?_getD, List.getElem?_eq_getElem (show p.length - 1 < p.length by omega)]
      exact List.getElem_mem _
    have hR := path_rm h.sm (start_rm e) hps _ hm
    have C := closeR_ev fu (n+5) (p.getLastD stk0) (hR.ok (by omega) (by omega))
    rw [hlast] at hx
    have Wn : IntKind.wrap .i64 ((p.length : Int) - 1) = ((p.length - 1 : Nat) : Int) := by rw [wrap_i64 (by omega) (by omega)]; omega
    have hlt : ((p.length - 1 : Nat) : Int) < p.length := by omega
    have t1 : (stkds p).take p.length = stkds p := List.take_of_length_le (by simp)
    obtain ⟨s, hS⟩ : ∃ s, p.getLastD stk0 = s := ⟨_, rfl⟩
    rw [hS] at hx C
    simp only [Stk.dd] at hx C
    cases hc : closeS s with
    | ok r =>
      rw [hc] at C
      simp only [closeR, Stk.dd, Ctl.dd] at C
      simp only [go_sem, Nat.reduceAdd, Nat.reduceMul, Nat.reduceSub, Nat.reduceLT, Nat.reduceLeDiff, Nat.reduceEqDiff, Nat.reduceBEq, Nat.reduceBeqDiff, Int.reduceEq, Int.reduceLT, Int.reduceLE, Int.reduceToNat, Int.reduceNeg, Int.reduceAdd, Int.reduceSub, Int.reduceMul, reduceIte, reduceCtorEq, Nat.reducePow, Nat.reduceDiv, Nat.reduceMod, Int.reduceBEq, TEnv.dd, P, Wn, hlt, hx, C, t1, hS, hc]
    | error f =>
      rw [hc] at C
      have hf : ¬ f = 0 := by have := closeS_err hc; omega
      simp only [closeR, Stk.dd, Ctl.dd, stk0, ctl0, List.map_nil] at C
      simp only [go_sem, Nat.reduceAdd, Nat.reduceMul, Nat.reduceSub, Nat.reduceLT, Nat.reduceLeDiff, Nat.reduceEqDiff, Nat.reduceBEq, Nat.reduceBeqDiff, Int.reduceEq, Int.reduceLT, Int.reduceLE, Int.reduceToNat, Int.reduceNeg, Int.reduceAdd, Int.reduceSub, Int.reduceMul, reduceIte, reduceCtorEq, Nat.reducePow, Nat.reduceDiv, Nat.reduceMod, Int.reduceBEq, TEnv.dd, P, Wn, hlt, hx, C, hf, t1, hS, hc]
end Go.Proofs.YtfpioigggjnffaaDoor.E
