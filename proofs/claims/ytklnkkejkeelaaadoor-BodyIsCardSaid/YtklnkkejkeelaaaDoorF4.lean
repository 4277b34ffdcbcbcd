/- F4, F5. -/
import Derived.Test.YtklnkkejkeelaaaDoorF3
set_option linter.unnecessarySimpa false
set_option linter.unusedSimpArgs false
set_option linter.unusedVariables false
/- The walk's reading with Matches' teller. -/
set_option autoImplicit false
set_option maxRecDepth 100000
set_option maxHeartbeats 4000000
set_option linter.unusedSimpArgs false
set_option linter.unusedVariables false
set_option pp.maxSteps 20000
namespace Go.Proofs.YtklnkkejkeelaaaDoor.E
open Go.Ev
/-! Matches' teller. -/
def tellM (l : List TInstr) (k : Nat) (_ : Int) (e : Nest) (M : List Nest) : List Nest :=
  if (l.getD k in0).op = 11 then
    (if e.2 = -1 then M.set e.1.toNat (e.2, ↑k) else (M.set e.1.toNat (e.2, ↑k)).set e.2.toNat (((M.set e.1.toNat (e.2, ↑k)).getD e.2.toNat (0, 0)).1, ↑k))
  else M
theorem tellM_length (l : List TInstr) (k : Nat) (d : Int) (e : Nest) (M : List Nest) : (tellM l k d e M).length = M.length := by
  unfold tellM
  split
  · split <;> simp
  · rfl
theorem tellM_len {l : List TInstr} {s0 : List Nest} : ∀ {k : Nat} {st : List Nest} {s : List Nest}, walkG (tellM l) s0 l k = some (st, s) → s.length = s0.length
  | 0, st, s, h => by
    simp only [walkG, Option.some.injEq, Prod.mk.injEq] at h
    rw [← h.2]
  | k + 1, st, s, h => by
    simp only [walkG] at h
    split at h
    · cases h
    · rename_i st0 ts0 h0
      split at h
      · cases h
      · rename_i st1 d e h1
        simp only [Option.some.injEq, Prod.mk.injEq] at h
        obtain ⟨rfl, rfl⟩ := h
        rw [tellM_length]
        exact tellM_len h0
section
variable (fu n : Nat) (l : List TInstr) (k : Nat) (hk : k < l.length) (d a b : Int) (M : List Nest)
include hk
theorem tellM_other (h11 : (l.getD k in0).op ≠ 11) : evF (G fu) (n+1) 51 [.d (.int .i64 k), .d (.int .i64 d), .d (.agg [.int .i64 a, .int .i64 b]), .ptr 0 0, .ptr 1 0] [.cells [.d (.list (l.map TInstr.d))], .cells [.row 2 0 0 l.length], .row 2 (M.map nestD) 0 false false] =
    some (.tup [], [.cells [.d (.list (l.map TInstr.d))], .cells [.row 2 0 0 l.length], .row 2 ((tellM l k d (a, b) M).map nestD) 0 false false]) := by
  rw [evF.eq_2, evX.eq_def, Gext, exts_no _ (f := 51) (by decide), GP, Tryd.func51]; simp only [Tryd.f51, evB]
  simp only [go_sem, Nat.reduceAdd, Nat.reduceMul, Nat.reduceSub, Nat.reduceLT, Nat.reduceLeDiff, Nat.reduceEqDiff, Nat.reduceBEq, Nat.reduceBeqDiff, Int.reduceEq, Int.reduceLT, Int.reduceLE, Int.reduceToNat, Int.reduceNeg, Int.reduceAdd, Int.reduceSub, Int.reduceMul, reduceIte, reduceCtorEq, Nat.reducePow, Nat.reduceDiv, Nat.reduceMod, Int.reduceBEq, idx, getD_map (d := in0) hk, TInstr.d, tellM, h11]
variable (h11 : (l.getD k in0).op = 11) (ha : 0 ≤ a) (hal : a < l.length) (hM : M.length = l.length)
include h11 ha hal hM
theorem tellM_end (hb : b = -1) : evF (G fu) (n+1) 51 [.d (.int .i64 k), .d (.int .i64 d), .d (.agg [.int .i64 a, .int .i64 b]), .ptr 0 0, .ptr 1 0] [.cells [.d (.list (l.map TInstr.d))], .cells [.row 2 0 0 l.length], .row 2 (M.map nestD) 0 false false] =
    some (.tup [], [.cells [.d (.list (l.map TInstr.d))], .cells [.row 2 0 0 l.length], .row 2 ((tellM l k d (a, b) M).map nestD) 0 false false]) := by
  subst hb
  have hx : (M.map nestD)[a.toNat]? = some (.agg [.int .i64 (M.getD a.toNat (0, 0)).1, .int .i64 (M.getD a.toNat (0, 0)).2]) := getD_map (f := nestD) (by omega)
  rw [evF.eq_2, evX.eq_def, Gext, exts_no _ (f := 51) (by decide), GP, Tryd.func51]; simp only [Tryd.f51, evB]
  simp only [go_sem, Nat.reduceAdd, Nat.reduceMul, Nat.reduceSub, Nat.reduceLT, Nat.reduceLeDiff, Nat.reduceEqDiff, Nat.reduceBEq, Nat.reduceBeqDiff, Int.reduceEq, Int.reduceLT, Int.reduceLE, Int.reduceToNat, Int.reduceNeg, Int.reduceAdd, Int.reduceSub, Int.reduceMul, reduceIte, reduceCtorEq, Nat.reducePow, Nat.reduceDiv, Nat.reduceMod, Int.reduceBEq, idx, getD_map (d := in0) hk, TInstr.d, tellM, h11, ha, hal, hx, List.map_set, nestD]
theorem tellM_both (hb : ¬ b = -1) (hb0 : 0 ≤ b) (hbl : b < l.length) : evF (G fu) (n+1) 51 [.d (.int .i64 k), .d (.int .i64 d), .d (.agg [.int .i64 a, .int .i64 b]), .ptr 0 0, .ptr 1 0] [.cells [.d (.list (l.map TInstr.d))], .cells [.row 2 0 0 l.length], .row 2 (M.map nestD) 0 false false] =
    some (.tup [], [.cells [.d (.list (l.map TInstr.d))], .cells [.row 2 0 0 l.length], .row 2 ((tellM l k d (a, b) M).map nestD) 0 false false]) := by
  have hx : (M.map nestD)[a.toNat]? = some (.agg [.int .i64 (M.getD a.toNat (0, 0)).1, .int .i64 (M.getD a.toNat (0, 0)).2]) := getD_map (f := nestD) (by omega)
  have hy : ((M.map nestD).set a.toNat (.agg [.int .i64 b, .int .i64 k]))[b.toNat]? = some (.agg [.int .i64 ((M.set a.toNat (b, ↑k)).getD b.toNat (0, 0)).1, .int .i64 ((M.set a.toNat (b, ↑k)).getD b.toNat (0, 0)).2]) := by
    have := getD_map (f := nestD) (l := M.set a.toNat (b, (k : Int))) (i := b.toNat) (d := (0, 0)) (by simp; omega)
    rw [List.map_set] at this
    exact this
  rw [evF.eq_2, evX.eq_def, Gext, exts_no _ (f := 51) (by decide), GP, Tryd.func51]; simp only [Tryd.f51, evB]
  simp only [go_sem, Nat.reduceAdd, Nat.reduceMul, Nat.reduceSub, Nat.reduceLT, Nat.reduceLeDiff, Nat.reduceEqDiff, Nat.reduceBEq, Nat.reduceBeqDiff, Int.reduceEq, Int.reduceLT, Int.reduceLE, Int.reduceToNat, Int.reduceNeg, Int.reduceAdd, Int.reduceSub, Int.reduceMul, reduceIte, reduceCtorEq, Nat.reducePow, Nat.reduceDiv, Nat.reduceMod, Int.reduceBEq, idx, getD_map (d := in0) hk, TInstr.d, tellM, h11, ha, hal, hx, hb, hb0, hbl, hy, List.map_set, nestD]
end
theorem walkM_ev (fu n : Nat) (l : List TInstr) (h : 21 < fu) (hl : l.length < fu) (hs : l.length < 100000) (s0 : List Nest) (hs0 : s0.length = l.length) :
    ∃ os : List Nest, evF (G fu) (n+4) 50 [.d (.list (l.map TInstr.d)), .fn (.func 51) [] [.ptr 0 0, .ptr 1 0]] [.cells [.d (.list (l.map TInstr.d))], .cells [.row 2 0 0 l.length], .row 2 ((s0).map nestD) 0 false false] = some (.d (.bool (walkOk l)), [.cells [.d (.list (l.map TInstr.d))], .cells [.row 2 0 0 l.length], .row 2 ((os).map nestD) 0 false false]) ∧
      ∀ st s, walkG (tellM l) s0 l l.length = some (st, s) → os = s := by
  rw [evF.eq_2, evX.eq_def, Gext, exts_no _ (f := 50) (by decide), GP, Tryd.func50]; simp only [Tryd.f50, evB]
  simp only [go_sem, Nat.reduceAdd, Nat.reduceMul, Nat.reduceSub, Nat.reduceLT, Nat.reduceLeDiff, Nat.reduceEqDiff, Nat.reduceBEq, Nat.reduceBeqDiff, Int.reduceEq, Int.reduceLT, Int.reduceLE, Int.reduceToNat, Int.reduceNeg, Int.reduceAdd, Int.reduceSub, Int.reduceMul, reduceIte, reduceCtorEq, Nat.reducePow, Nat.reduceDiv, Nat.reduceMod, Int.reduceBEq, List.length_map]
  generalize hr : loopN _ _ _ _ _ = r
  obtain ⟨x, s1, rfl, hx, hJ⟩ : ∃ x s1, r = some (x, s1) ∧ leaves x ∧ ((∃ st, ∃ s : List Nest, ∃ H, x = .exit 0 ∧ walkG (tellM l) s0 l l.length = some (st, s) ∧ WkX st H ∧ s1 = ⟨[(5, .ptr 832 0)], [(0, .cells [.d (.list (l.map TInstr.d))]), (1, .cells [.row 2 0 0 l.length]), (2, .row 2 ((s).map nestD) 0 false false)] ++ H⟩) ∨
      (∃ os : List Nest, x = .ret ∧ walkG (tellM l) s0 l l.length = none ∧ s1 = ⟨[(4, .d (.bool false))], [(0, .cells [.d (.list (l.map TInstr.d))]), (1, .cells [.row 2 0 0 l.length]), (2, .row 2 ((os).map nestD) 0 false false)]⟩)) := by
    rw [← hr]
    refine loop_inv (J := fun x s1 => ((∃ st, ∃ s : List Nest, ∃ H, x = .exit 0 ∧ walkG (tellM l) s0 l l.length = some (st, s) ∧ WkX st H ∧ s1 = ⟨[(5, .ptr 832 0)], [(0, .cells [.d (.list (l.map TInstr.d))]), (1, .cells [.row 2 0 0 l.length]), (2, .row 2 ((s).map nestD) 0 false false)] ++ H⟩) ∨
      (∃ os : List Nest, x = .ret ∧ walkG (tellM l) s0 l l.length = none ∧ s1 = ⟨[(4, .d (.bool false))], [(0, .cells [.d (.list (l.map TInstr.d))]), (1, .cells [.row 2 0 0 l.length]), (2, .row 2 ((os).map nestD) 0 false false)]⟩)))
      l.length (fun i z => ∃ st, ∃ s : List Nest, ∃ H, walkG (tellM l) s0 l i = some (st, s) ∧ WkH (.list (l.map TInstr.d)) st H ∧ z = ⟨[(1, .fn (.func 51) [] [.ptr 0 0, .ptr 1 0]), (2, .ptr 192 0), (5, .ptr 832 0), (13, .d (.list (l.map TInstr.d))), (14, .d (.int .i64 l.length)), (15, .d (.int .i64 i))], [(0, .cells [.d (.list (l.map TInstr.d))]), (1, .cells [.row 2 0 0 l.length]), (2, .row 2 ((s).map nestD) 0 false false)] ++ H⟩) ?_ ?_ fu _ hl ⟨[], s0, _, rfl, .nil rfl, rfl⟩
    · rintro i z hi ⟨st, s, H, hw, hH, rfl⟩
      have W := wrap_i64 (show -9223372036854775808 ≤ (i : Int) + 1 by omega) (by omega)
      have hw1 : ∀ st' d e, stepF l st i (l.getD i in0).op = some (st', d, e) → walkG (tellM l) s0 l (i + 1) = some (st', (tellM l) i d e s) := fun st' d e h => by simp only [walkG, hw, h]
      have hw2 : stepF l st i (l.getD i in0).op = none → walkG (tellM l) s0 l l.length = none := fun h => walkG_none (k := i + 1) (by simp only [walkG, hw, h]) _ (by omega)
      obtain ⟨hin, hlen⟩ := walkG_in hw
      have hlen0 : (0 : Nat) ≤ i := by omega
      have hop : opensB (l.getD i in0).op = true ∨ (opensB (l.getD i in0).op = false ∧ (l.getD i in0).op ≠ 5 ∧ (l.getD i in0).op ≠ 11) ∨ ((l.getD i in0).op = 5 ∨ (l.getD i in0).op = 11) := by
        cases opensB (l.getD i in0).op <;> simp <;> omega
      have hM : s.length = l.length := (tellM_len hw).trans hs0
      cases hH with
      | nil hst =>
        subst hst
        rcases hop with ho | ⟨ho, h5, h11⟩ | h5
        · have q := step_nil_open fu n l i (l.getD i in0) h ho
          simp only [TInstr.d, nestD] at q
          simp only [go_sem, Nat.reduceAdd, Nat.reduceMul, Nat.reduceSub, Nat.reduceLT, Nat.reduceLeDiff, Nat.reduceEqDiff, Nat.reduceBEq, Nat.reduceBeqDiff, Int.reduceEq, Int.reduceLT, Int.reduceLE, Int.reduceToNat, Int.reduceNeg, Int.reduceAdd, Int.reduceSub, Int.reduceMul, reduceIte, reduceCtorEq, Nat.reducePow, Nat.reduceDiv, Nat.reduceMod, Int.reduceBEq, Int.ofNat_lt, hi, idx, getD_map (d := in0) hi, TInstr.d, q, tellM_other fu (n+2) l i hi _ _ _ _ (opens_not11 ho), W]
          exact ⟨.normal, _, rfl, _, _, _, hw1 _ _ _ (stepF_open ho), .row [nestD (i, -1)] false (by simp), rfl⟩
        · have q := step_nil_plain fu n l i (l.getD i in0) h ho h5 h11
          simp only [TInstr.d, nestD] at q
          simp only [go_sem, Nat.reduceAdd, Nat.reduceMul, Nat.reduceSub, Nat.reduceLT, Nat.reduceLeDiff, Nat.reduceEqDiff, Nat.reduceBEq, Nat.reduceBeqDiff, Int.reduceEq, Int.reduceLT, Int.reduceLE, Int.reduceToNat, Int.reduceNeg, Int.reduceAdd, Int.reduceSub, Int.reduceMul, reduceIte, reduceCtorEq, Nat.reducePow, Nat.reduceDiv, Nat.reduceMod, Int.reduceBEq, Int.ofNat_lt, hi, idx, getD_map (d := in0) hi, TInstr.d, q, tellM_other fu (n+2) l i hi _ _ _ _ h11, W]
          exact ⟨.normal, _, rfl, _, _, _, hw1 _ _ _ (stepF_plain ho h5 h11), .nil rfl, rfl⟩
        · have q := step_nil_bare fu n l i (l.getD i in0) h h5
          simp only [TInstr.d, nestD] at q
          simp only [go_sem, Nat.reduceAdd, Nat.reduceMul, Nat.reduceSub, Nat.reduceLT, Nat.reduceLeDiff, Nat.reduceEqDiff, Nat.reduceBEq, Nat.reduceBeqDiff, Int.reduceEq, Int.reduceLT, Int.reduceLE, Int.reduceToNat, Int.reduceNeg, Int.reduceAdd, Int.reduceSub, Int.reduceMul, reduceIte, reduceCtorEq, Nat.reducePow, Nat.reduceDiv, Nat.reduceMod, Int.reduceBEq, Int.ofNat_lt, hi, idx, getD_map (d := in0) hi, TInstr.d, q, hlen0, W]
          exact ⟨.ret, _, rfl, .inr ⟨_, rfl, hw2 (stepF_bare h5), rfl⟩⟩
      | row xs chg hxs =>
        rcases hop with ho | ⟨ho, h5, h11⟩ | h5
        · have q := step_row_open fu n l i (l.getD i in0) h st.length xs ho (by omega)
          simp only [TInstr.d, nestD] at q
          simp only [go_sem, Nat.reduceAdd, Nat.reduceMul, Nat.reduceSub, Nat.reduceLT, Nat.reduceLeDiff, Nat.reduceEqDiff, Nat.reduceBEq, Nat.reduceBeqDiff, Int.reduceEq, Int.reduceLT, Int.reduceLE, Int.reduceToNat, Int.reduceNeg, Int.reduceAdd, Int.reduceSub, Int.reduceMul, reduceIte, reduceCtorEq, Nat.reducePow, Nat.reduceDiv, Nat.reduceMod, Int.reduceBEq, Int.ofNat_lt, hi, idx, getD_map (d := in0) hi, TInstr.d, q, tellM_other fu (n+2) l i hi _ _ _ _ (opens_not11 ho), W]
          exact ⟨.normal, _, rfl, _, _, _, hw1 _ _ _ (stepF_open ho), .row _ _ (take_push hxs), rfl⟩
        · have q := step_row_plain fu n l i (l.getD i in0) h st.length xs ho h5 h11
          simp only [TInstr.d, nestD] at q
          simp only [go_sem, Nat.reduceAdd, Nat.reduceMul, Nat.reduceSub, Nat.reduceLT, Nat.reduceLeDiff, Nat.reduceEqDiff, Nat.reduceBEq, Nat.reduceBeqDiff, Int.reduceEq, Int.reduceLT, Int.reduceLE, Int.reduceToNat, Int.reduceNeg, Int.reduceAdd, Int.reduceSub, Int.reduceMul, reduceIte, reduceCtorEq, Nat.reducePow, Nat.reduceDiv, Nat.reduceMod, Int.reduceBEq, Int.ofNat_lt, hi, idx, getD_map (d := in0) hi, TInstr.d, q, tellM_other fu (n+2) l i hi _ _ _ _ h11, W]
          exact ⟨.normal, _, rfl, _, _, _, hw1 _ _ _ (stepF_plain ho h5 h11), .row _ _ hxs, rfl⟩
        · cases st with
          | nil =>
            have q := step_row_bare fu n l i (l.getD i in0) h xs h5
            simp only [TInstr.d, nestD] at q
            simp only [go_sem, Nat.reduceAdd, Nat.reduceMul, Nat.reduceSub, Nat.reduceLT, Nat.reduceLeDiff, Nat.reduceEqDiff, Nat.reduceBEq, Nat.reduceBeqDiff, Int.reduceEq, Int.reduceLT, Int.reduceLE, Int.reduceToNat, Int.reduceNeg, Int.reduceAdd, Int.reduceSub, Int.reduceMul, reduceIte, reduceCtorEq, Nat.reducePow, Nat.reduceDiv, Nat.reduceMod, Int.reduceBEq, Int.ofNat_lt, hi, idx, getD_map (d := in0) hi, TInstr.d, q, hlen0, W]
            exact ⟨.ret, _, rfl, .inr ⟨_, rfl, hw2 (stepF_bare h5), rfl⟩⟩
          | cons p st =>
            obtain ⟨hx1, hx2⟩ := take_top hxs
            obtain ⟨a, b⟩ := p
            have hab : nestIn i (a, b) := hin (a, b) (by simp)
            unfold nestIn at hab
            have hab1 : 0 ≤ a ∧ a < (i : Int) ∧ (b = -1 ∨ (0 ≤ b ∧ b < (i : Int) ∧ a ≠ b)) := hab
            have hsl : st.length < 1000000 := by simp at hlen; omega
            rcases h5 with h5 | h11
            · by_cases hh : b = -1 ∧ ifAt l a = true
              · have q := step_row_else fu n l i (l.getD i in0) h st.length xs a b hx1 hsl h5 (by omega) (by omega)
                rw [if_pos hh] at q
                simp only [TInstr.d, nestD] at q
                simp only [go_sem, Nat.reduceAdd, Nat.reduceMul, Nat.reduceSub, Nat.reduceLT, Nat.reduceLeDiff, Nat.reduceEqDiff, Nat.reduceBEq, Nat.reduceBeqDiff, Int.reduceEq, Int.reduceLT, Int.reduceLE, Int.reduceToNat, Int.reduceNeg, Int.reduceAdd, Int.reduceSub, Int.reduceMul, reduceIte, reduceCtorEq, Nat.reducePow, Nat.reduceDiv, Nat.reduceMod, Int.reduceBEq, Int.ofNat_lt, hi, idx, getD_map (d := in0) hi, TInstr.d, q, tellM_other fu (n+2) l i hi _ _ _ _ (by omega), W]
                exact ⟨.normal, _, rfl, _, _, _, hw1 _ _ _ (by rw [h5]; exact stepF_else (a, b) hh), .row _ _ (take_set hxs), rfl⟩
              · have q := step_row_else fu n l i (l.getD i in0) h st.length xs a b hx1 hsl h5 (by omega) (by omega)
                rw [if_neg hh] at q
                simp only [TInstr.d, nestD] at q
                simp only [go_sem, Nat.reduceAdd, Nat.reduceMul, Nat.reduceSub, Nat.reduceLT, Nat.reduceLeDiff, Nat.reduceEqDiff, Nat.reduceBEq, Nat.reduceBeqDiff, Int.reduceEq, Int.reduceLT, Int.reduceLE, Int.reduceToNat, Int.reduceNeg, Int.reduceAdd, Int.reduceSub, Int.reduceMul, reduceIte, reduceCtorEq, Nat.reducePow, Nat.reduceDiv, Nat.reduceMod, Int.reduceBEq, Int.ofNat_lt, hi, idx, getD_map (d := in0) hi, TInstr.d, q, hlen0, W]
                exact ⟨.ret, _, rfl, .inr ⟨_, rfl, hw2 (by rw [h5]; exact stepF_twice (a, b) hh), rfl⟩⟩
            · by_cases hpop : b = -1
              · have q := step_row_pop fu n l i (l.getD i in0) h st.length xs a b hx1 hsl h11
                simp only [TInstr.d, nestD] at q
                simp only [go_sem, Nat.reduceAdd, Nat.reduceMul, Nat.reduceSub, Nat.reduceLT, Nat.reduceLeDiff, Nat.reduceEqDiff, Nat.reduceBEq, Nat.reduceBeqDiff, Int.reduceEq, Int.reduceLT, Int.reduceLE, Int.reduceToNat, Int.reduceNeg, Int.reduceAdd, Int.reduceSub, Int.reduceMul, reduceIte, reduceCtorEq, Nat.reducePow, Nat.reduceDiv, Nat.reduceMod, Int.reduceBEq, Int.ofNat_lt, hi, idx, getD_map (d := in0) hi, TInstr.d, q, tellM_end fu (n+2) l i hi st.length a b s h11 (by omega) (by omega) hM hpop, W]
                exact ⟨.normal, _, rfl, _, _, _, hw1 _ _ _ (by rw [h11]; exact stepF_pop (a, b)), .row _ _ hx2, rfl⟩
              · have q := step_row_pop fu n l i (l.getD i in0) h st.length xs a b hx1 hsl h11
                simp only [TInstr.d, nestD] at q
                simp only [go_sem, Nat.reduceAdd, Nat.reduceMul, Nat.reduceSub, Nat.reduceLT, Nat.reduceLeDiff, Nat.reduceEqDiff, Nat.reduceBEq, Nat.reduceBeqDiff, Int.reduceEq, Int.reduceLT, Int.reduceLE, Int.reduceToNat, Int.reduceNeg, Int.reduceAdd, Int.reduceSub, Int.reduceMul, reduceIte, reduceCtorEq, Nat.reducePow, Nat.reduceDiv, Nat.reduceMod, Int.reduceBEq, Int.ofNat_lt, hi, idx, getD_map (d := in0) hi, TInstr.d, q, tellM_both fu (n+2) l i hi st.length a b s h11 (by omega) (by omega) hM hpop (by omega) (by omega), W]
                exact ⟨.normal, _, rfl, _, _, _, hw1 _ _ _ (by rw [h11]; exact stepF_pop (a, b)), .row _ _ hx2, rfl⟩

    · rintro z ⟨st, s, H, hw, hH, rfl⟩
      cases hH with
      | nil hst =>
        simp only [go_sem, Nat.reduceAdd, Nat.reduceMul, Nat.reduceSub, Nat.reduceLT, Nat.reduceLeDiff, Nat.reduceEqDiff, Nat.reduceBEq, Nat.reduceBeqDiff, Int.reduceEq, Int.reduceLT, Int.reduceLE, Int.reduceToNat, Int.reduceNeg, Int.reduceAdd, Int.reduceSub, Int.reduceMul, reduceIte, reduceCtorEq, Nat.reducePow, Nat.reduceDiv, Nat.reduceMod, Int.reduceBEq, Int.ofNat_lt, Nat.lt_irrefl]
        exact ⟨_, _, rfl, trivial, .inl ⟨_, _, _, rfl, hw, .nil hst, rfl⟩⟩
      | row xs chg hxs =>
        simp only [go_sem, Nat.reduceAdd, Nat.reduceMul, Nat.reduceSub, Nat.reduceLT, Nat.reduceLeDiff, Nat.reduceEqDiff, Nat.reduceBEq, Nat.reduceBeqDiff, Int.reduceEq, Int.reduceLT, Int.reduceLE, Int.reduceToNat, Int.reduceNeg, Int.reduceAdd, Int.reduceSub, Int.reduceMul, reduceIte, reduceCtorEq, Nat.reducePow, Nat.reduceDiv, Nat.reduceMod, Int.reduceBEq, Int.ofNat_lt, Nat.lt_irrefl]
        exact ⟨_, _, rfl, trivial, .inl ⟨_, _, _, rfl, hw, .row xs chg hxs, rfl⟩⟩
  rcases hJ with ⟨st, s, H, rfl, hw, hH, rfl⟩ | ⟨os, rfl, hw, rfl⟩
  · refine ⟨s, ?_, fun st' s' e => by rw [hw] at e; cases e; rfl⟩
    have : walkOk l = decide (st.length = 0) := by rw [walkOk_of hw]; cases st <;> rfl
    rw [this]
    cases hH with
    | nil hst =>
      subst hst
      simp only [go_sem, Nat.reduceAdd, Nat.reduceMul, Nat.reduceSub, Nat.reduceLT, Nat.reduceLeDiff, Nat.reduceEqDiff, Nat.reduceBEq, Nat.reduceBeqDiff, Int.reduceEq, Int.reduceLT, Int.reduceLE, Int.reduceToNat, Int.reduceNeg, Int.reduceAdd, Int.reduceSub, Int.reduceMul, reduceIte, reduceCtorEq, Nat.reducePow, Nat.reduceDiv, Nat.reduceMod, Int.reduceBEq]
    | row xs chg hxs =>
      simp only [go_sem, Nat.reduceAdd, Nat.reduceMul, Nat.reduceSub, Nat.reduceLT, Nat.reduceLeDiff, Nat.reduceEqDiff, Nat.reduceBEq, Nat.reduceBeqDiff, Int.reduceEq, Int.reduceLT, Int.reduceLE, Int.reduceToNat, Int.reduceNeg, Int.reduceAdd, Int.reduceSub, Int.reduceMul, reduceIte, reduceCtorEq, Nat.reducePow, Nat.reduceDiv, Nat.reduceMod, Int.reduceBEq]
      exact congrArg (fun b => some (V.d (D.bool b), _)) (decide_eq_decide.2 (by omega))
  · refine ⟨os, ?_, fun st s e => by rw [hw] at e; cases e⟩
    simp only [go_sem, Nat.reduceAdd, Nat.reduceMul, Nat.reduceSub, Nat.reduceLT, Nat.reduceLeDiff, Nat.reduceEqDiff, Nat.reduceBEq, Nat.reduceBeqDiff, Int.reduceEq, Int.reduceLT, Int.reduceLE, Int.reduceToNat, Int.reduceNeg, Int.reduceAdd, Int.reduceSub, Int.reduceMul, reduceIte, reduceCtorEq, Nat.reducePow, Nat.reduceDiv, Nat.reduceMod, Int.reduceBEq, walkOk_none hw]
end Go.Proofs.YtklnkkejkeelaaaDoor.E

/- The walk's reading with Depths' teller. -/
set_option autoImplicit false
set_option maxRecDepth 100000
set_option maxHeartbeats 4000000
set_option linter.unusedSimpArgs false
set_option linter.unusedVariables false
set_option pp.maxSteps 20000
namespace Go.Proofs.YtklnkkejkeelaaaDoor.E
open Go.Ev
/-! Depths' teller. -/
def tellD (_ : Nat) (d : Int) (_ : Nest) (s : List Int) : List Int := s ++ [d]
theorem tellD_len {l : List TInstr} {s0 : List Int} : ∀ {k : Nat} {st : List Nest} {s : List Int}, walkG tellD s0 l k = some (st, s) → s.length = s0.length + k
  | 0, st, s, h => by
    simp only [walkG, Option.some.injEq, Prod.mk.injEq] at h
    rw [← h.2]; rfl
  | k + 1, st, s, h => by
    simp only [walkG] at h
    split at h
    · cases h
    · rename_i st0 ts0 h0
      split at h
      · cases h
      · rename_i st1 d e h1
        simp only [Option.some.injEq, Prod.mk.injEq] at h
        obtain ⟨rfl, rfl⟩ := h
        simp [tellD, tellD_len h0]; omega
theorem tellD_nil (fu n : Nat) (k d a b : Int) : evF (G fu) (n+1) 52 [.d (.int .i64 k), .d (.int .i64 d), .d (.agg [.int .i64 a, .int .i64 b]), .ptr 0 0] [.cells [.nilsl]] = some (.tup [], [.cells [.row 1 0 0 1], .row 1 [.int .i64 d] 0 false false]) := by
  rw [evF.eq_2, evX.eq_def, Gext, exts_no _ (f := 52) (by decide), GP, Tryd.func52]; simp only [Tryd.f52, evB]
  simp only [go_sem, Nat.reduceAdd, Nat.reduceMul, Nat.reduceSub, Nat.reduceLT, Nat.reduceLeDiff, Nat.reduceEqDiff, Nat.reduceBEq, Nat.reduceBeqDiff, Int.reduceEq, Int.reduceLT, Int.reduceLE, Int.reduceToNat, Int.reduceNeg, Int.reduceAdd, Int.reduceSub, Int.reduceMul, reduceIte, reduceCtorEq, Nat.reducePow, Nat.reduceDiv, Nat.reduceMod, Int.reduceBEq]
theorem tellD_row (fu n : Nat) (k d a b : Int) (s : List Int) (m : Nat) (hm : m = s.length) (hs : s.length < 1000000) : evF (G fu) (n+1) 52 [.d (.int .i64 k), .d (.int .i64 d), .d (.agg [.int .i64 a, .int .i64 b]), .ptr 0 0] [.cells [.row 1 0 0 m], .row 1 (s.map (D.int .i64)) 0 false false] =
    some (.tup [], [.cells [.row 1 0 0 (m + 1)], .row 1 ((s ++ [d]).map (D.int .i64)) 0 false true]) := by
  subst hm
  rw [evF.eq_2, evX.eq_def, Gext, exts_no _ (f := 52) (by decide), GP, Tryd.func52]; simp only [Tryd.f52, evB]
  have ht : List.take s.length (s.map (D.int .i64)) = s.map (D.int .i64) := List.take_of_length_le (by simp)
  simp only [go_sem, Nat.reduceAdd, Nat.reduceMul, Nat.reduceSub, Nat.reduceLT, Nat.reduceLeDiff, Nat.reduceEqDiff, Nat.reduceBEq, Nat.reduceBeqDiff, Int.reduceEq, Int.reduceLT, Int.reduceLE, Int.reduceToNat, Int.reduceNeg, Int.reduceAdd, Int.reduceSub, Int.reduceMul, reduceIte, reduceCtorEq, Nat.reducePow, Nat.reduceDiv, Nat.reduceMod, Int.reduceBEq, show s.length + 1 ≤ 1099511627776 by omega, ht, List.map_append]
inductive DObj (s : List Int) : List Go.Ev.Obj → Prop
  | nil : s = [] → DObj s [.cells [.nilsl]]
  | row : DObj s [.cells [.row 1 0 0 s.length], .row 1 (s.map (D.int .i64)) 0 false false]
theorem walkD_ev (fu n : Nat) (l : List TInstr) (h : 21 < fu) (hl : l.length < fu) (hs : l.length < 100000) :
    ∃ os : List Go.Ev.Obj, ∃ ds : List Int, evF (G fu) (n+4) 50 [.d (.list (l.map TInstr.d)), .fn (.func 52) [] [.ptr 0 0]] [.cells [.nilsl]] = some (.d (.bool (walkOk l)), os) ∧
      DObj ds os ∧ ∀ st s, walkG tellD [] l l.length = some (st, s) → s = ds := by
  rw [evF.eq_2, evX.eq_def, Gext, exts_no _ (f := 50) (by decide), GP, Tryd.func50]; simp only [Tryd.f50, evB]
  simp only [go_sem, Nat.reduceAdd, Nat.reduceMul, Nat.reduceSub, Nat.reduceLT, Nat.reduceLeDiff, Nat.reduceEqDiff, Nat.reduceBEq, Nat.reduceBeqDiff, Int.reduceEq, Int.reduceLT, Int.reduceLE, Int.reduceToNat, Int.reduceNeg, Int.reduceAdd, Int.reduceSub, Int.reduceMul, reduceIte, reduceCtorEq, Nat.reducePow, Nat.reduceDiv, Nat.reduceMod, Int.reduceBEq, List.length_map]
  generalize hr : loopN _ _ _ _ _ = r
  obtain ⟨x, s1, rfl, hx, hJ⟩ : ∃ x s1, r = some (x, s1) ∧ leaves x ∧ ((x = .exit 0 ∧ l = [] ∧ s1 = ⟨[(5, .ptr 832 0)], [(0, .cells [.nilsl]), (832, .cells [.nilsl])]⟩) ∨ (∃ st, ∃ s : List Int, ∃ H dchg, x = .exit 0 ∧ walkG tellD [] l l.length = some (st, s) ∧ WkX st H ∧ s1 = ⟨[(5, .ptr 832 0)], (0, .cells [.row 2304 0 0 s.length]) :: (H ++ [(2304, .row 1 (s.map (D.int .i64)) 0 false dchg)])⟩) ∨
      (x = .ret ∧ walkG tellD [] l l.length = none ∧ s1 = ⟨[(4, .d (.bool false))], [(0, .cells [.nilsl])]⟩) ∨ (∃ s : List Int, ∃ dchg, x = .ret ∧ walkG tellD [] l l.length = none ∧ s1 = ⟨[(4, .d (.bool false))], [(0, .cells [.row 2304 0 0 s.length]), (2304, .row 1 (s.map (D.int .i64)) 0 false dchg)]⟩)) := by
    rw [← hr]
    refine loop_inv (J := fun x s1 => ((x = .exit 0 ∧ l = [] ∧ s1 = ⟨[(5, .ptr 832 0)], [(0, .cells [.nilsl]), (832, .cells [.nilsl])]⟩) ∨ (∃ st, ∃ s : List Int, ∃ H dchg, x = .exit 0 ∧ walkG tellD [] l l.length = some (st, s) ∧ WkX st H ∧ s1 = ⟨[(5, .ptr 832 0)], (0, .cells [.row 2304 0 0 s.length]) :: (H ++ [(2304, .row 1 (s.map (D.int .i64)) 0 false dchg)])⟩) ∨
      (x = .ret ∧ walkG tellD [] l l.length = none ∧ s1 = ⟨[(4, .d (.bool false))], [(0, .cells [.nilsl])]⟩) ∨ (∃ s : List Int, ∃ dchg, x = .ret ∧ walkG tellD [] l l.length = none ∧ s1 = ⟨[(4, .d (.bool false))], [(0, .cells [.row 2304 0 0 s.length]), (2304, .row 1 (s.map (D.int .i64)) 0 false dchg)]⟩)))
      l.length (fun i z => (i = 0 ∧ z = ⟨[(1, .fn (.func 52) [] [.ptr 0 0]), (2, .ptr 192 0), (5, .ptr 832 0), (13, .d (.list (l.map TInstr.d))), (14, .d (.int .i64 l.length)), (15, .d (.int .i64 0))], [(0, .cells [.nilsl]), (192, .cells [.d (.list (l.map TInstr.d))]), (832, .cells [.nilsl])]⟩) ∨ ∃ st, ∃ s : List Int, ∃ H dchg, walkG tellD [] l i = some (st, s) ∧ WkH (.list (l.map TInstr.d)) st H ∧ z = ⟨[(1, .fn (.func 52) [] [.ptr 0 0]), (2, .ptr 192 0), (5, .ptr 832 0), (13, .d (.list (l.map TInstr.d))), (14, .d (.int .i64 l.length)), (15, .d (.int .i64 i))], (0, .cells [.row 2304 0 0 s.length]) :: (H ++ [(2304, .row 1 (s.map (D.int .i64)) 0 false dchg)])⟩) ?_ ?_ fu _ hl (.inl ⟨rfl, rfl⟩)
    · rintro i z hi (⟨rfl, rfl⟩ | ⟨st, s, H, dchg, hw, hH, rfl⟩)
      · have hop : opensB (l.getD 0 in0).op = true ∨ (opensB (l.getD 0 in0).op = false ∧ (l.getD 0 in0).op ≠ 5 ∧ (l.getD 0 in0).op ≠ 11) ∨ ((l.getD 0 in0).op = 5 ∨ (l.getD 0 in0).op = 11) := by
          cases opensB (l.getD 0 in0).op <;> simp <;> omega
        have hw1 : ∀ st' d e, stepF l [] 0 (l.getD 0 in0).op = some (st', d, e) → walkG tellD [] l (0 + 1) = some (st', tellD 0 d e []) := fun st' d e h => by simp only [walkG, h]
        have hw2 : stepF l [] 0 (l.getD 0 in0).op = none → walkG tellD [] l l.length = none := fun h => walkG_none (k := 0 + 1) (by simp only [walkG, h]) _ (by omega)
        have W : IntKind.wrap .i64 1 = 1 := rfl
        rcases hop with ho | ⟨ho, h5, h11⟩ | h5
        · have q := step_nil_open fu n l 0 (l.getD 0 in0) h ho
          simp only [TInstr.d, nestD] at q
          simp only [go_sem, Nat.reduceAdd, Nat.reduceMul, Nat.reduceSub, Nat.reduceLT, Nat.reduceLeDiff, Nat.reduceEqDiff, Nat.reduceBEq, Nat.reduceBeqDiff, Int.reduceEq, Int.reduceLT, Int.reduceLE, Int.reduceToNat, Int.reduceNeg, Int.reduceAdd, Int.reduceSub, Int.reduceMul, reduceIte, reduceCtorEq, Nat.reducePow, Nat.reduceDiv, Nat.reduceMod, Int.reduceBEq, Int.ofNat_lt, show (0 : Int) < l.length by omega, idx, getD_map (d := in0) hi, TInstr.d, q, tellD_nil, W]
          exact ⟨.normal, _, rfl, _, _, _, false, hw1 _ _ _ (stepF_open ho), .row [nestD (0, -1)] false (by simp), rfl⟩
        · have q := step_nil_plain fu n l 0 (l.getD 0 in0) h ho h5 h11
          simp only [TInstr.d, nestD] at q
          simp only [go_sem, Nat.reduceAdd, Nat.reduceMul, Nat.reduceSub, Nat.reduceLT, Nat.reduceLeDiff, Nat.reduceEqDiff, Nat.reduceBEq, Nat.reduceBeqDiff, Int.reduceEq, Int.reduceLT, Int.reduceLE, Int.reduceToNat, Int.reduceNeg, Int.reduceAdd, Int.reduceSub, Int.reduceMul, reduceIte, reduceCtorEq, Nat.reducePow, Nat.reduceDiv, Nat.reduceMod, Int.reduceBEq, Int.ofNat_lt, show (0 : Int) < l.length by omega, idx, getD_map (d := in0) hi, TInstr.d, q, tellD_nil, W]
          exact ⟨.normal, _, rfl, _, _, _, false, hw1 _ _ _ (stepF_plain ho h5 h11), .nil rfl, rfl⟩
        · have q := step_nil_bare fu n l 0 (l.getD 0 in0) h h5
          simp only [TInstr.d, nestD] at q
          simp only [go_sem, Nat.reduceAdd, Nat.reduceMul, Nat.reduceSub, Nat.reduceLT, Nat.reduceLeDiff, Nat.reduceEqDiff, Nat.reduceBEq, Nat.reduceBeqDiff, Int.reduceEq, Int.reduceLT, Int.reduceLE, Int.reduceToNat, Int.reduceNeg, Int.reduceAdd, Int.reduceSub, Int.reduceMul, reduceIte, reduceCtorEq, Nat.reducePow, Nat.reduceDiv, Nat.reduceMod, Int.reduceBEq, Int.ofNat_lt, show (0 : Int) < l.length by omega, idx, getD_map (d := in0) hi, TInstr.d, q, tellD_nil, W]
          exact ⟨.ret, _, rfl, .inr (.inr (.inl ⟨rfl, hw2 (stepF_bare h5), rfl⟩))⟩
      · have W := wrap_i64 (show -9223372036854775808 ≤ (i : Int) + 1 by omega) (by omega)
        have hw1 : ∀ st' d e, stepF l st i (l.getD i in0).op = some (st', d, e) → walkG tellD [] l (i + 1) = some (st', tellD i d e s) := fun st' d e h => by simp only [walkG, hw, h]
        have hw2 : stepF l st i (l.getD i in0).op = none → walkG tellD [] l l.length = none := fun h => walkG_none (k := i + 1) (by simp only [walkG, hw, h]) _ (by omega)
        obtain ⟨hin, hlen⟩ := walkG_in hw
        have hlen0 : (0 : Nat) ≤ i := by omega
        have hop : opensB (l.getD i in0).op = true ∨ (opensB (l.getD i in0).op = false ∧ (l.getD i in0).op ≠ 5 ∧ (l.getD i in0).op ≠ 11) ∨ ((l.getD i in0).op = 5 ∨ (l.getD i in0).op = 11) := by
          cases opensB (l.getD i in0).op <;> simp <;> omega
        have hs6 : s.length < 1000000 := by have := tellD_len hw; simp at this; omega
        cases hH with
        | nil hst =>
          subst hst
          rcases hop with ho | ⟨ho, h5, h11⟩ | h5
          · have q := step_nil_open fu n l i (l.getD i in0) h ho
            simp only [TInstr.d, nestD] at q
            simp only [go_sem, Nat.reduceAdd, Nat.reduceMul, Nat.reduceSub, Nat.reduceLT, Nat.reduceLeDiff, Nat.reduceEqDiff, Nat.reduceBEq, Nat.reduceBeqDiff, Int.reduceEq, Int.reduceLT, Int.reduceLE, Int.reduceToNat, Int.reduceNeg, Int.reduceAdd, Int.reduceSub, Int.reduceMul, reduceIte, reduceCtorEq, Nat.reducePow, Nat.reduceDiv, Nat.reduceMod, Int.reduceBEq, Int.ofNat_lt, hi, idx, getD_map (d := in0) hi, TInstr.d, q, tellD_row fu (n+2) _ _ _ _ s _ rfl hs6, W]
            exact ⟨.normal, _, rfl, _, _, _, _, hw1 _ _ _ (stepF_open ho), .row [nestD (i, -1)] false (by simp), by simp only [tellD, List.length_append, List.length_cons, List.length_nil]; rfl⟩
          · have q := step_nil_plain fu n l i (l.getD i in0) h ho h5 h11
            simp only [TInstr.d, nestD] at q
            simp only [go_sem, Nat.reduceAdd, Nat.reduceMul, Nat.reduceSub, Nat.reduceLT, Nat.reduceLeDiff, Nat.reduceEqDiff, Nat.reduceBEq, Nat.reduceBeqDiff, Int.reduceEq, Int.reduceLT, Int.reduceLE, Int.reduceToNat, Int.reduceNeg, Int.reduceAdd, Int.reduceSub, Int.reduceMul, reduceIte, reduceCtorEq, Nat.reducePow, Nat.reduceDiv, Nat.reduceMod, Int.reduceBEq, Int.ofNat_lt, hi, idx, getD_map (d := in0) hi, TInstr.d, q, tellD_row fu (n+2) _ _ _ _ s _ rfl hs6, W]
            exact ⟨.normal, _, rfl, _, _, _, _, hw1 _ _ _ (stepF_plain ho h5 h11), .nil rfl, by simp only [tellD, List.length_append, List.length_cons, List.length_nil]; rfl⟩
          · have q := step_nil_bare fu n l i (l.getD i in0) h h5
            simp only [TInstr.d, nestD] at q
            simp only [go_sem, Nat.reduceAdd, Nat.reduceMul, Nat.reduceSub, Nat.reduceLT, Nat.reduceLeDiff, Nat.reduceEqDiff, Nat.reduceBEq, Nat.reduceBeqDiff, Int.reduceEq, Int.reduceLT, Int.reduceLE, Int.reduceToNat, Int.reduceNeg, Int.reduceAdd, Int.reduceSub, Int.reduceMul, reduceIte, reduceCtorEq, Nat.reducePow, Nat.reduceDiv, Nat.reduceMod, Int.reduceBEq, Int.ofNat_lt, hi, idx, getD_map (d := in0) hi, TInstr.d, q, hlen0, W]
            exact ⟨.ret, _, rfl, .inr (.inr (.inr ⟨s, _, rfl, hw2 (stepF_bare h5), rfl⟩))⟩
        | row xs chg hxs =>
          rcases hop with ho | ⟨ho, h5, h11⟩ | h5
          · have q := step_row_open fu n l i (l.getD i in0) h st.length xs ho (by omega)
            simp only [TInstr.d, nestD] at q
            simp only [go_sem, Nat.reduceAdd, Nat.reduceMul, Nat.reduceSub, Nat.reduceLT, Nat.reduceLeDiff, Nat.reduceEqDiff, Nat.reduceBEq, Nat.reduceBeqDiff, Int.reduceEq, Int.reduceLT, Int.reduceLE, Int.reduceToNat, Int.reduceNeg, Int.reduceAdd, Int.reduceSub, Int.reduceMul, reduceIte, reduceCtorEq, Nat.reducePow, Nat.reduceDiv, Nat.reduceMod, Int.reduceBEq, Int.ofNat_lt, hi, idx, getD_map (d := in0) hi, TInstr.d, q, tellD_row fu (n+2) _ _ _ _ s _ rfl hs6, W]
            exact ⟨.normal, _, rfl, _, _, _, _, hw1 _ _ _ (stepF_open ho), .row _ _ (take_push hxs), by simp only [tellD, List.length_append, List.length_cons, List.length_nil]; rfl⟩
          · have q := step_row_plain fu n l i (l.getD i in0) h st.length xs ho h5 h11
            simp only [TInstr.d, nestD] at q
            simp only [go_sem, Nat.reduceAdd, Nat.reduceMul, Nat.reduceSub, Nat.reduceLT, Nat.reduceLeDiff, Nat.reduceEqDiff, Nat.reduceBEq, Nat.reduceBeqDiff, Int.reduceEq, Int.reduceLT, Int.reduceLE, Int.reduceToNat, Int.reduceNeg, Int.reduceAdd, Int.reduceSub, Int.reduceMul, reduceIte, reduceCtorEq, Nat.reducePow, Nat.reduceDiv, Nat.reduceMod, Int.reduceBEq, Int.ofNat_lt, hi, idx, getD_map (d := in0) hi, TInstr.d, q, tellD_row fu (n+2) _ _ _ _ s _ rfl hs6, W]
            exact ⟨.normal, _, rfl, _, _, _, _, hw1 _ _ _ (stepF_plain ho h5 h11), .row _ _ hxs, by simp only [tellD, List.length_append, List.length_cons, List.length_nil]; rfl⟩
          · cases st with
            | nil =>
              have q := step_row_bare fu n l i (l.getD i in0) h xs h5
              simp only [TInstr.d, nestD] at q
              simp only [go_sem, Nat.reduceAdd, Nat.reduceMul, Nat.reduceSub, Nat.reduceLT, Nat.reduceLeDiff, Nat.reduceEqDiff, Nat.reduceBEq, Nat.reduceBeqDiff, Int.reduceEq, Int.reduceLT, Int.reduceLE, Int.reduceToNat, Int.reduceNeg, Int.reduceAdd, Int.reduceSub, Int.reduceMul, reduceIte, reduceCtorEq, Nat.reducePow, Nat.reduceDiv, Nat.reduceMod, Int.reduceBEq, Int.ofNat_lt, hi, idx, getD_map (d := in0) hi, TInstr.d, q, hlen0, W]
              exact ⟨.ret, _, rfl, .inr (.inr (.inr ⟨s, _, rfl, hw2 (stepF_bare h5), rfl⟩))⟩
            | cons p st =>
              obtain ⟨hx1, hx2⟩ := take_top hxs
              obtain ⟨a, b⟩ := p
              have hab : nestIn i (a, b) := hin (a, b) (by simp)
              unfold nestIn at hab
              have hab1 : 0 ≤ a ∧ a < (i : Int) ∧ (b = -1 ∨ (0 ≤ b ∧ b < (i : Int) ∧ a ≠ b)) := hab
              have hsl : st.length < 1000000 := by simp at hlen; omega
              rcases h5 with h5 | h11
              · by_cases hh : b = -1 ∧ ifAt l a = true
                · have q := step_row_else fu n l i (l.getD i in0) h st.length xs a b hx1 hsl h5 (by omega) (by omega)
                  rw [if_pos hh] at q
                  simp only [TInstr.d, nestD] at q
                  simp only [go_sem, Nat.reduceAdd, Nat.reduceMul, Nat.reduceSub, Nat.reduceLT, Nat.reduceLeDiff, Nat.reduceEqDiff, Nat.reduceBEq, Nat.reduceBeqDiff, Int.reduceEq, Int.reduceLT, Int.reduceLE, Int.reduceToNat, Int.reduceNeg, Int.reduceAdd, Int.reduceSub, Int.reduceMul, reduceIte, reduceCtorEq, Nat.reducePow, Nat.reduceDiv, Nat.reduceMod, Int.reduceBEq, Int.ofNat_lt, hi, idx, getD_map (d := in0) hi, TInstr.d, q, tellD_row fu (n+2) _ _ _ _ s _ rfl hs6, W]
                  exact ⟨.normal, _, rfl, _, _, _, _, hw1 _ _ _ (by rw [h5]; exact stepF_else (a, b) hh), .row _ _ (take_set hxs), by simp only [tellD, List.length_append, List.length_cons, List.length_nil]; rfl⟩
                · have q := step_row_else fu n l i (l.getD i in0) h st.length xs a b hx1 hsl h5 (by omega) (by omega)
                  rw [if_neg hh] at q
                  simp only [TInstr.d, nestD] at q
                  simp only [go_sem, Nat.reduceAdd, Nat.reduceMul, Nat.reduceSub, Nat.reduceLT, Nat.reduceLeDiff, Nat.reduceEqDiff, Nat.reduceBEq, Nat.reduceBeqDiff, Int.reduceEq, Int.reduceLT, Int.reduceLE, Int.reduceToNat, Int.reduceNeg, Int.reduceAdd, Int.reduceSub, Int.reduceMul, reduceIte, reduceCtorEq, Nat.reducePow, Nat.reduceDiv, Nat.reduceMod, Int.reduceBEq, Int.ofNat_lt, hi, idx, getD_map (d := in0) hi, TInstr.d, q, hlen0, W]
                  exact ⟨.ret, _, rfl, .inr (.inr (.inr ⟨s, _, rfl, hw2 (by rw [h5]; exact stepF_twice (a, b) hh), rfl⟩))⟩
              · have q := step_row_pop fu n l i (l.getD i in0) h st.length xs a b hx1 hsl h11
                simp only [TInstr.d, nestD] at q
                simp only [go_sem, Nat.reduceAdd, Nat.reduceMul, Nat.reduceSub, Nat.reduceLT, Nat.reduceLeDiff, Nat.reduceEqDiff, Nat.reduceBEq, Nat.reduceBeqDiff, Int.reduceEq, Int.reduceLT, Int.reduceLE, Int.reduceToNat, Int.reduceNeg, Int.reduceAdd, Int.reduceSub, Int.reduceMul, reduceIte, reduceCtorEq, Nat.reducePow, Nat.reduceDiv, Nat.reduceMod, Int.reduceBEq, Int.ofNat_lt, hi, idx, getD_map (d := in0) hi, TInstr.d, q, tellD_row fu (n+2) _ _ _ _ s _ rfl hs6, W]
                exact ⟨.normal, _, rfl, _, _, _, _, hw1 _ _ _ (by rw [h11]; exact stepF_pop (a, b)), .row _ _ hx2, by simp only [tellD, List.length_append, List.length_cons, List.length_nil]; rfl⟩
    · rintro z (⟨hl0, rfl⟩ | ⟨st, s, H, dchg, hw, hH, rfl⟩)
      · have hl1 : l = [] := List.eq_nil_of_length_eq_zero hl0
        subst hl1
        simp only [go_sem, Nat.reduceAdd, Nat.reduceMul, Nat.reduceSub, Nat.reduceLT, Nat.reduceLeDiff, Nat.reduceEqDiff, Nat.reduceBEq, Nat.reduceBeqDiff, Int.reduceEq, Int.reduceLT, Int.reduceLE, Int.reduceToNat, Int.reduceNeg, Int.reduceAdd, Int.reduceSub, Int.reduceMul, reduceIte, reduceCtorEq, Nat.reducePow, Nat.reduceDiv, Nat.reduceMod, Int.reduceBEq]
        exact ⟨_, _, rfl, trivial, .inl ⟨rfl, rfl⟩⟩
      · cases hH with
        | nil hst =>
          simp only [go_sem, Nat.reduceAdd, Nat.reduceMul, Nat.reduceSub, Nat.reduceLT, Nat.reduceLeDiff, Nat.reduceEqDiff, Nat.reduceBEq, Nat.reduceBeqDiff, Int.reduceEq, Int.reduceLT, Int.reduceLE, Int.reduceToNat, Int.reduceNeg, Int.reduceAdd, Int.reduceSub, Int.reduceMul, reduceIte, reduceCtorEq, Nat.reducePow, Nat.reduceDiv, Nat.reduceMod, Int.reduceBEq, Int.ofNat_lt, Nat.lt_irrefl]
          exact ⟨_, _, rfl, trivial, .inr (.inl ⟨_, _, _, _, rfl, hw, .nil hst, rfl⟩)⟩
        | row xs chg hxs =>
          simp only [go_sem, Nat.reduceAdd, Nat.reduceMul, Nat.reduceSub, Nat.reduceLT, Nat.reduceLeDiff, Nat.reduceEqDiff, Nat.reduceBEq, Nat.reduceBeqDiff, Int.reduceEq, Int.reduceLT, Int.reduceLE, Int.reduceToNat, Int.reduceNeg, Int.reduceAdd, Int.reduceSub, Int.reduceMul, reduceIte, reduceCtorEq, Nat.reducePow, Nat.reduceDiv, Nat.reduceMod, Int.reduceBEq, Int.ofNat_lt, Nat.lt_irrefl]
          exact ⟨_, _, rfl, trivial, .inr (.inl ⟨_, _, _, _, rfl, hw, .row xs chg hxs, rfl⟩)⟩
  rcases hJ with ⟨rfl, rfl, rfl⟩ | ⟨st, s, H, dchg, rfl, hw, hH, rfl⟩ | ⟨rfl, hw, rfl⟩ | ⟨s, dchg, rfl, hw, rfl⟩
  · refine ⟨[.cells [.nilsl]], [], ?_, .nil rfl, fun st s e => ?_⟩
    · simp only [go_sem, Nat.reduceAdd, Nat.reduceMul, Nat.reduceSub, Nat.reduceLT, Nat.reduceLeDiff, Nat.reduceEqDiff, Nat.reduceBEq, Nat.reduceBeqDiff, Int.reduceEq, Int.reduceLT, Int.reduceLE, Int.reduceToNat, Int.reduceNeg, Int.reduceAdd, Int.reduceSub, Int.reduceMul, reduceIte, reduceCtorEq, Nat.reducePow, Nat.reduceDiv, Nat.reduceMod, Int.reduceBEq]; rfl
    · simp only [List.length_nil, walkG, Option.some.injEq, Prod.mk.injEq] at e
      exact e.2.symm
  · refine ⟨[.cells [.row 1 0 0 s.length], .row 1 (s.map (D.int .i64)) 0 false false], s, ?_, .row, fun st' s' e => by rw [hw] at e; cases e; rfl⟩
    have : walkOk l = decide (st.length = 0) := by rw [walkOk_of hw]; cases st <;> rfl
    rw [this]
    cases hH with
    | nil hst =>
      subst hst
      simp only [go_sem, Nat.reduceAdd, Nat.reduceMul, Nat.reduceSub, Nat.reduceLT, Nat.reduceLeDiff, Nat.reduceEqDiff, Nat.reduceBEq, Nat.reduceBeqDiff, Int.reduceEq, Int.reduceLT, Int.reduceLE, Int.reduceToNat, Int.reduceNeg, Int.reduceAdd, Int.reduceSub, Int.reduceMul, reduceIte, reduceCtorEq, Nat.reducePow, Nat.reduceDiv, Nat.reduceMod, Int.reduceBEq]
    | row xs chg hxs =>
      simp only [go_sem, Nat.reduceAdd, Nat.reduceMul, Nat.reduceSub, Nat.reduceLT, Nat.reduceLeDiff, Nat.reduceEqDiff, Nat.reduceBEq, Nat.reduceBeqDiff, Int.reduceEq, Int.reduceLT, Int.reduceLE, Int.reduceToNat, Int.reduceNeg, Int.reduceAdd, Int.reduceSub, Int.reduceMul, reduceIte, reduceCtorEq, Nat.reducePow, Nat.reduceDiv, Nat.reduceMod, Int.reduceBEq]
      exact congrArg (fun b => some (V.d (D.bool b), _)) (decide_eq_decide.2 (by omega))
  · exact ⟨[.cells [.nilsl]], [], by simp only [go_sem, Nat.reduceAdd, Nat.reduceMul, Nat.reduceSub, Nat.reduceLT, Nat.reduceLeDiff, Nat.reduceEqDiff, Nat.reduceBEq, Nat.reduceBeqDiff, Int.reduceEq, Int.reduceLT, Int.reduceLE, Int.reduceToNat, Int.reduceNeg, Int.reduceAdd, Int.reduceSub, Int.reduceMul, reduceIte, reduceCtorEq, Nat.reducePow, Nat.reduceDiv, Nat.reduceMod, Int.reduceBEq, walkOk_none hw], .nil rfl, fun st s e => by rw [hw] at e; cases e⟩
  · exact ⟨[.cells [.row 1 0 0 s.length], .row 1 (s.map (D.int .i64)) 0 false false], s, by simp only [go_sem, Nat.reduceAdd, Nat.reduceMul, Nat.reduceSub, Nat.reduceLT, Nat.reduceLeDiff, Nat.reduceEqDiff, Nat.reduceBEq, Nat.reduceBeqDiff, Int.reduceEq, Int.reduceLT, Int.reduceLE, Int.reduceToNat, Int.reduceNeg, Int.reduceAdd, Int.reduceSub, Int.reduceMul, reduceIte, reduceCtorEq, Nat.reducePow, Nat.reduceDiv, Nat.reduceMod, Int.reduceBEq, walkOk_none hw], .row, fun st s e => by rw [hw] at e; cases e⟩
end Go.Proofs.YtklnkkejkeelaaaDoor.E
