/- The reading of the document's br_table (avocetref05.Reader.Instr), and Read. -/
import Derived.Test.YtklnkkejkeelaaaDoorM6
set_option linter.unnecessarySimpa false
set_option linter.unusedSimpArgs false
set_option linter.unusedVariables false
set_option autoImplicit false
set_option maxRecDepth 100000
set_option maxHeartbeats 4000000
set_option linter.unusedSimpArgs false
set_option linter.unusedVariables false
set_option pp.maxSteps 20000
namespace Go.Proofs.YtklnkkejkeelaaaDoor.E
open Go.Ev
inductive LbH (acc : List Int) : V → Map Go.Ev.Obj → Prop
  | nil : acc = [] → LbH acc .nilsl []
  | row (ys : List D) (m : Nat) (c : Bool) : ys = acc.map (D.int .i64) → m = acc.length → LbH acc (.row 4672 0 0 m) [(4672, .row 1 ys 0 false c)]
theorem rInstr4 (fu n : Nat) (l : List Int) (hb : Bs l) (x : Nat) (op : Int) (hfu : 80 < fu) (hx : x < l.length) (hl : l.length < 1099511627000) (hg : l.getD x 0 = op) (hk : kindF op = 4) : insR l x (evF (G fu) (n+5) 71 [.ptr 0 0] [rdr l x 0]) (match decT op (l.drop (x + 1)) with
    | .error e => .error e
    | .ok (i, n) => .ok (i, n + 1)) := by
  have hy := rByte_yes fu (n+3) l hb x hx hl
  rw [hg] at hy
  have hkk := rKind_ev fu (n+1) op
  rw [hk] at hkk
  have hf0 := rFail_no fu (n+3) l ((x + 1 : Nat) : Int) 0 3
  have hx1 : x + 1 ≤ l.length := hx
  have hu := rU_ok fu (n+1) l hb (x + 1) hfu hx1 hl
  rw [dec4 l (x + 1) op hk]
  unfold labG
  cases hs : rdU (l.drop (x + 1)) with
  | error e =>
    have he := rdU_err hs
    rw [hs] at hu
    have hfn := rFail_no fu (n+3) l ((x + 1 : Nat) : Int) e 4
    have hz := rU_bad fu (n+1) l ((x + 1 : Nat) : Int) e he
    simp only [ruRes] at hu
    refine ⟨⟨op, 0, 0, 0, []⟩, ((x + 1 : Nat) : Int), ?_⟩
    simp only [rdr, TInstr.d] at *
    rw [evF.eq_2, evX.eq_def, Gext, exts_no _ (f := 71) (by decide), GP, Tryd.func71]; simp only [Tryd.f71, evB]
    simp only [go_sem, Nat.reduceAdd, Nat.reduceMul, Nat.reduceSub, Nat.reduceLT, Nat.reduceLeDiff, Nat.reduceEqDiff, Nat.reduceBEq, Nat.reduceBeqDiff, Int.reduceEq, Int.reduceLT, Int.reduceLE, Int.reduceToNat, Int.reduceNeg, Int.reduceAdd, Int.reduceSub, Int.reduceMul, reduceIte, reduceCtorEq, Nat.reducePow, Nat.reduceDiv, Nat.reduceMod, Int.reduceBEq, hy, hkk, hf0, List.map_nil, hu, hfn, hz]
    rw [loop_some 0 (fun _ => ⟨[(0, .ptr 0 0), (2, .ptr 192 0), (3, .ptr 256 0), (5, .d (.int .i64 0)), (6, .d (.int .i64 0))], [(0, .cells [.d (.list (byt l)), .d (.int .i64 ((x + 1 : Nat) : Int)), .d (.int .i64 e)]), (192, .cells [.d (.int .i64 0), .d (.int .i64 0), .d (.int .i64 0), .d (.int .u64 0), .nilsl]), (256, .cells [.d (.int .i64 op), .d (.int .i64 0), .d (.int .i64 0), .d (.int .u64 0), .nilsl])] ++ []⟩) (.exit 1, ⟨[(0, .ptr 0 0), (2, .ptr 192 0), (3, .ptr 256 0)], [(0, .cells [.d (.list (byt l)), .d (.int .i64 ((x + 1 : Nat) : Int)), .d (.int .i64 e)]), (192, .cells [.d (.int .i64 0), .d (.int .i64 0), .d (.int .i64 0), .d (.int .u64 0), .nilsl]), (256, .cells [.d (.int .i64 op), .d (.int .i64 0), .d (.int .i64 0), .d (.int .u64 0), .nilsl])] ++ []⟩) trivial (by omega) ?_]
    case hs => intro i hi; omega
    case he => simp only [go_sem, Nat.reduceAdd, Nat.reduceMul, Nat.reduceSub, Nat.reduceLT, Nat.reduceLeDiff, Nat.reduceEqDiff, Nat.reduceBEq, Nat.reduceBeqDiff, Int.reduceEq, Int.reduceLT, Int.reduceLE, Int.reduceToNat, Int.reduceNeg, Int.reduceAdd, Int.reduceSub, Int.reduceMul, reduceIte, reduceCtorEq, Nat.reducePow, Nat.reduceDiv, Nat.reduceMod, Int.reduceBEq, List.map_nil]
    rotate_left
    · rfl
    simp only [go_sem, Nat.reduceAdd, Nat.reduceMul, Nat.reduceSub, Nat.reduceLT, Nat.reduceLeDiff, Nat.reduceEqDiff, Nat.reduceBEq, Nat.reduceBeqDiff, Int.reduceEq, Int.reduceLT, Int.reduceLE, Int.reduceToNat, Int.reduceNeg, Int.reduceAdd, Int.reduceSub, Int.reduceMul, reduceIte, reduceCtorEq, Nat.reducePow, Nat.reduceDiv, Nat.reduceMod, Int.reduceBEq, hz]
  | ok ds =>
    have hlt := rdU_lt (hb.drop (x + 1)) hs
    have hvn := val_nonneg ds
    have hlen := rdU_len hs
    rw [List.length_drop] at hlen
    rw [hs] at hu
    simp only [ruRes] at hu
    by_cases h64 : val ds ≤ 64
    · have h64' : ¬ 64 < val ds := by omega
      have hfn := rFail_no fu (n+3) l ((x + 1 + ds.length : Nat) : Int) 0 4
      obtain ⟨N, hN⟩ : ∃ N : Nat, val ds = N := ⟨(val ds).toNat, by omega⟩
      simp only [h64, if_true]
      rw [hN] at hu h64 h64' ⊢
      rw [Int.toNat_natCast]
      have hyl : x + 1 + ds.length ≤ l.length := by omega
      have hR : ∀ q, rdL N (l.drop (x + 1 + ds.length)) = .ok q → x + 1 + (ds.length + q.2) ≤ l.length ∧ x + 1 + ds.length + q.2 = x + 1 + (ds.length + q.2) := fun q hq => by
        obtain ⟨ls, c⟩ := q
        have := (rdL_ok (hb.drop _) hq).2.2.2
        rw [List.length_drop] at this
        exact ⟨by simp only; omega, by omega⟩
      generalize hy0 : x + 1 + ds.length = y0 at *
      simp only [rdr, TInstr.d] at hy hkk hf0 hu hfn ⊢
      rw [evF.eq_2, evX.eq_def, Gext, exts_no _ (f := 71) (by decide), GP, Tryd.func71]; simp only [Tryd.f71, evB]
      simp only [go_sem, Nat.reduceAdd, Nat.reduceMul, Nat.reduceSub, Nat.reduceLT, Nat.reduceLeDiff, Nat.reduceEqDiff, Nat.reduceBEq, Nat.reduceBeqDiff, Int.reduceEq, Int.reduceLT, Int.reduceLE, Int.reduceToNat, Int.reduceNeg, Int.reduceAdd, Int.reduceSub, Int.reduceMul, reduceIte, reduceCtorEq, Nat.reducePow, Nat.reduceDiv, Nat.reduceMod, Int.reduceBEq, hy, hkk, hf0, List.map_nil, hu, hfn, h64']
      generalize hr : loopN _ _ _ _ _ = r
      obtain ⟨q, s1, rfl, hq, rfl, acc, p, e, v, H, hH, rfl, hJ⟩ : ∃ q s1, r = some (q, s1) ∧ leaves q ∧ (q = .exit 1 ∧ ∃ (acc : List Int) (p e : Int) (v : V) (H : Map Go.Ev.Obj), LbH acc v H ∧ s1 = ⟨[(0, .ptr 0 0), (2, .ptr 192 0), (3, .ptr 256 0)], [(0, .cells [.d (.list (byt l)), .d (.int .i64 p), .d (.int .i64 e)]), (192, .cells [.d (.int .i64 0), .d (.int .i64 0), .d (.int .i64 0), .d (.int .u64 0), .nilsl]), (256, .cells [.d (.int .i64 op), .d (.int .i64 0), .d (.int .i64 0), .d (.int .u64 0), v])] ++ H⟩ ∧ (match rdL N (l.drop y0) with
        | .error e' => e = e'
        | .ok (ls, cc) => acc = ls ∧ e = 0 ∧ p = ((y0 + cc : Nat) : Int))) := by
        rw [← hr]
        refine loop_inv (J := fun q s1 => q = .exit 1 ∧ ∃ (acc : List Int) (p e : Int) (v : V) (H : Map Go.Ev.Obj), LbH acc v H ∧ s1 = ⟨[(0, .ptr 0 0), (2, .ptr 192 0), (3, .ptr 256 0)], [(0, .cells [.d (.list (byt l)), .d (.int .i64 p), .d (.int .i64 e)]), (192, .cells [.d (.int .i64 0), .d (.int .i64 0), .d (.int .i64 0), .d (.int .u64 0), .nilsl]), (256, .cells [.d (.int .i64 op), .d (.int .i64 0), .d (.int .i64 0), .d (.int .u64 0), v])] ++ H⟩ ∧ (match rdL N (l.drop y0) with
          | .error e' => e = e'
          | .ok (ls, cc) => acc = ls ∧ e = 0 ∧ p = ((y0 + cc : Nat) : Int)))
          N (fun i z => ∃ (acc : List Int) (p e : Int) (v : V) (H : Map Go.Ev.Obj), LbH acc v H ∧ z = ⟨[(0, .ptr 0 0), (2, .ptr 192 0), (3, .ptr 256 0), (5, .d (.int .i64 N)), (6, .d (.int .i64 i))], [(0, .cells [.d (.list (byt l)), .d (.int .i64 p), .d (.int .i64 e)]), (192, .cells [.d (.int .i64 0), .d (.int .i64 0), .d (.int .i64 0), .d (.int .u64 0), .nilsl]), (256, .cells [.d (.int .i64 op), .d (.int .i64 0), .d (.int .i64 0), .d (.int .u64 0), v])] ++ H⟩ ∧ acc.length ≤ i ∧ ((e ≠ 0 ∧ rdL N (l.drop y0) = .error e) ∨ (e = 0 ∧ ∃ y : Nat, p = y ∧ y0 ≤ y ∧ y ≤ l.length ∧ acc.length = i ∧ rdL N (l.drop y0) = mapL acc (y - y0) (rdL (N - i) (l.drop y))))) ?_ ?_ fu _ (by omega)
          ⟨[], (y0 : Int), 0, _, _, .nil rfl, rfl, by simp, .inr ⟨rfl, y0, rfl, Nat.le_refl _, by omega, rfl, by rw [Nat.sub_zero, Nat.sub_self]; cases rdL N (l.drop y0) with | error e => rfl | ok q => simp [mapL]⟩⟩
        · rintro i z hi ⟨acc, p, e, v, H, hH, rfl, hal, hI⟩
          have hiN : (i : Int) < N := by omega
          have Wi := wrap_i64 (show -9223372036854775808 ≤ (i : Int) + 1 by omega) (by omega)
          have ht : (acc.map (D.int .i64)).take acc.length = acc.map (D.int .i64) := List.take_of_length_le (by simp)
          have hc : acc.length + 1 ≤ 1099511627776 := by omega
          rcases hI with ⟨he, hI⟩ | ⟨rfl, y, rfl, i1, i2, i3, i4⟩
          · cases hH with
            | nil h2 =>
              simp only [go_sem, Nat.reduceAdd, Nat.reduceMul, Nat.reduceSub, Nat.reduceLT, Nat.reduceLeDiff, Nat.reduceEqDiff, Nat.reduceBEq, Nat.reduceBeqDiff, Int.reduceEq, Int.reduceLT, Int.reduceLE, Int.reduceToNat, Int.reduceNeg, Int.reduceAdd, Int.reduceSub, Int.reduceMul, reduceIte, reduceCtorEq, Nat.reducePow, Nat.reduceDiv, Nat.reduceMod, Int.reduceBEq, hiN, he]
              exact ⟨_, _, rfl, rfl, acc, p, e, _, _, .nil h2, rfl, by rw [hI]⟩
            | row ys m c h2 h3 =>
              simp only [go_sem, Nat.reduceAdd, Nat.reduceMul, Nat.reduceSub, Nat.reduceLT, Nat.reduceLeDiff, Nat.reduceEqDiff, Nat.reduceBEq, Nat.reduceBeqDiff, Int.reduceEq, Int.reduceLT, Int.reduceLE, Int.reduceToNat, Int.reduceNeg, Int.reduceAdd, Int.reduceSub, Int.reduceMul, reduceIte, reduceCtorEq, Nat.reducePow, Nat.reduceDiv, Nat.reduceMod, Int.reduceBEq, hiN, he]
              exact ⟨_, _, rfl, rfl, acc, p, e, _, _, .row _ _ _ h2 h3, rfl, by rw [hI]⟩
          · obtain ⟨k, hk⟩ : ∃ k, N - i = k + 1 := ⟨N - i - 1, by omega⟩
            have hk' : N - (i + 1) = k := by omega
            have hv := rU_ok fu (n+1) l hb y hfu i2 hl
            rw [hk, rdL] at i4
            cases hu' : rdU (l.drop y) with
            | error e' =>
              rw [hu'] at hv i4
              simp only [rdr, ruRes] at hv
              cases hH with
              | nil h2 =>
                subst h2
                simp only [go_sem, Nat.reduceAdd, Nat.reduceMul, Nat.reduceSub, Nat.reduceLT, Nat.reduceLeDiff, Nat.reduceEqDiff, Nat.reduceBEq, Nat.reduceBeqDiff, Int.reduceEq, Int.reduceLT, Int.reduceLE, Int.reduceToNat, Int.reduceNeg, Int.reduceAdd, Int.reduceSub, Int.reduceMul, reduceIte, reduceCtorEq, Nat.reducePow, Nat.reduceDiv, Nat.reduceMod, Int.reduceBEq, hiN, hv, Wi, szi]
                rw [cond_free]
                rotate_left
                · rfl
                simp only [go_sem, Nat.reduceAdd, Nat.reduceMul, Nat.reduceSub, Nat.reduceLT, Nat.reduceLeDiff, Nat.reduceEqDiff, Nat.reduceBEq, Nat.reduceBeqDiff, Int.reduceEq, Int.reduceLT, Int.reduceLE, Int.reduceToNat, Int.reduceNeg, Int.reduceAdd, Int.reduceSub, Int.reduceMul, reduceIte, reduceCtorEq, Nat.reducePow, Nat.reduceDiv, Nat.reduceMod, Int.reduceBEq, Wi]
                exact ⟨.normal, _, rfl, [0], (y : Int), e', _, _, .row _ _ _ rfl rfl, rfl, by simp, .inl ⟨rdU_err hu', i4⟩⟩
              | row ys m c h2 h3 =>
                subst h2 h3
                simp only [go_sem, Nat.reduceAdd, Nat.reduceMul, Nat.reduceSub, Nat.reduceLT, Nat.reduceLeDiff, Nat.reduceEqDiff, Nat.reduceBEq, Nat.reduceBeqDiff, Int.reduceEq, Int.reduceLT, Int.reduceLE, Int.reduceToNat, Int.reduceNeg, Int.reduceAdd, Int.reduceSub, Int.reduceMul, reduceIte, reduceCtorEq, Nat.reducePow, Nat.reduceDiv, Nat.reduceMod, Int.reduceBEq, hiN, hv, Wi, szi, ht, hc]
                rw [cond_free]
                rotate_left
                · rfl
                simp only [go_sem, Nat.reduceAdd, Nat.reduceMul, Nat.reduceSub, Nat.reduceLT, Nat.reduceLeDiff, Nat.reduceEqDiff, Nat.reduceBEq, Nat.reduceBeqDiff, Int.reduceEq, Int.reduceLT, Int.reduceLE, Int.reduceToNat, Int.reduceNeg, Int.reduceAdd, Int.reduceSub, Int.reduceMul, reduceIte, reduceCtorEq, Nat.reducePow, Nat.reduceDiv, Nat.reduceMod, Int.reduceBEq, Wi]
                exact ⟨.normal, _, rfl, acc ++ [0], (y : Int), e', _, _, .row _ _ _ (by simp) (by simp), rfl, by simp; omega, .inl ⟨rdU_err hu', i4⟩⟩
            | ok ds' =>
              rw [hu'] at hv i4
              simp only [rdr, ruRes] at hv
              have hlen' := rdU_len hu'
              rw [List.length_drop] at hlen'
              have hgo : rdL N (l.drop y0) = mapL (acc ++ [val ds']) (y + ds'.length - y0) (rdL (N - (i + 1)) (l.drop (y + ds'.length))) := by
                rw [i4, hk']
                simp only [List.drop_drop]
                cases rdL k (l.drop (y + ds'.length)) with
                | error e => rfl
                | ok q => obtain ⟨ls, cc⟩ := q; simp only [mapL, List.append_assoc, List.singleton_append, Except.ok.injEq, Prod.mk.injEq, true_and]; omega
              cases hH with
              | nil h2 =>
                subst h2
                simp only [go_sem, Nat.reduceAdd, Nat.reduceMul, Nat.reduceSub, Nat.reduceLT, Nat.reduceLeDiff, Nat.reduceEqDiff, Nat.reduceBEq, Nat.reduceBeqDiff, Int.reduceEq, Int.reduceLT, Int.reduceLE, Int.reduceToNat, Int.reduceNeg, Int.reduceAdd, Int.reduceSub, Int.reduceMul, reduceIte, reduceCtorEq, Nat.reducePow, Nat.reduceDiv, Nat.reduceMod, Int.reduceBEq, hiN, hv, Wi, szi]
                rw [cond_free]
                rotate_left
                · rfl
                simp only [go_sem, Nat.reduceAdd, Nat.reduceMul, Nat.reduceSub, Nat.reduceLT, Nat.reduceLeDiff, Nat.reduceEqDiff, Nat.reduceBEq, Nat.reduceBeqDiff, Int.reduceEq, Int.reduceLT, Int.reduceLE, Int.reduceToNat, Int.reduceNeg, Int.reduceAdd, Int.reduceSub, Int.reduceMul, reduceIte, reduceCtorEq, Nat.reducePow, Nat.reduceDiv, Nat.reduceMod, Int.reduceBEq, Wi]
                exact ⟨.normal, _, rfl, [val ds'], ((y + ds'.length : Nat) : Int), 0, _, _, .row _ _ _ rfl rfl, rfl, by simp, .inr ⟨rfl, y + ds'.length, rfl, by omega, by omega, by simp_all, hgo⟩⟩
              | row ys m c h2 h3 =>
                subst h2 h3
                simp only [go_sem, Nat.reduceAdd, Nat.reduceMul, Nat.reduceSub, Nat.reduceLT, Nat.reduceLeDiff, Nat.reduceEqDiff, Nat.reduceBEq, Nat.reduceBeqDiff, Int.reduceEq, Int.reduceLT, Int.reduceLE, Int.reduceToNat, Int.reduceNeg, Int.reduceAdd, Int.reduceSub, Int.reduceMul, reduceIte, reduceCtorEq, Nat.reducePow, Nat.reduceDiv, Nat.reduceMod, Int.reduceBEq, hiN, hv, Wi, szi, ht, hc]
                rw [cond_free]
                rotate_left
                · rfl
                simp only [go_sem, Nat.reduceAdd, Nat.reduceMul, Nat.reduceSub, Nat.reduceLT, Nat.reduceLeDiff, Nat.reduceEqDiff, Nat.reduceBEq, Nat.reduceBeqDiff, Int.reduceEq, Int.reduceLT, Int.reduceLE, Int.reduceToNat, Int.reduceNeg, Int.reduceAdd, Int.reduceSub, Int.reduceMul, reduceIte, reduceCtorEq, Nat.reducePow, Nat.reduceDiv, Nat.reduceMod, Int.reduceBEq, Wi]
                exact ⟨.normal, _, rfl, acc ++ [val ds'], ((y + ds'.length : Nat) : Int), 0, _, _, .row _ _ _ (by simp) (by simp), rfl, by simp; omega, .inr ⟨rfl, y + ds'.length, rfl, by omega, by omega, by simp_all, hgo⟩⟩
        · rintro z ⟨acc, p, e, v, H, hH, rfl, hal, hI⟩
          have hend : (match rdL N (l.drop y0) with
              | .error e' => e = e'
              | .ok (ls, cc) => acc = ls ∧ e = 0 ∧ p = ((y0 + cc : Nat) : Int)) := by
            rcases hI with ⟨he, hI⟩ | ⟨rfl, y, rfl, i1, i2, i3, i4⟩
            · rw [hI]
            · rw [Nat.sub_self] at i4
              rw [i4]
              simp only [rdL, mapL, List.append_nil, true_and]
              omega
          cases hH with
          | nil h2 =>
            simp only [go_sem, Nat.reduceAdd, Nat.reduceMul, Nat.reduceSub, Nat.reduceLT, Nat.reduceLeDiff, Nat.reduceEqDiff, Nat.reduceBEq, Nat.reduceBeqDiff, Int.reduceEq, Int.reduceLT, Int.reduceLE, Int.reduceToNat, Int.reduceNeg, Int.reduceAdd, Int.reduceSub, Int.reduceMul, reduceIte, reduceCtorEq, Nat.reducePow, Nat.reduceDiv, Nat.reduceMod, Int.reduceBEq, Int.lt_irrefl]
            exact ⟨_, _, rfl, trivial, rfl, acc, p, e, _, _, .nil h2, rfl, hend⟩
          | row ys m c h2 h3 =>
            simp only [go_sem, Nat.reduceAdd, Nat.reduceMul, Nat.reduceSub, Nat.reduceLT, Nat.reduceLeDiff, Nat.reduceEqDiff, Nat.reduceBEq, Nat.reduceBeqDiff, Int.reduceEq, Int.reduceLT, Int.reduceLE, Int.reduceToNat, Int.reduceNeg, Int.reduceAdd, Int.reduceSub, Int.reduceMul, reduceIte, reduceCtorEq, Nat.reducePow, Nat.reduceDiv, Nat.reduceMod, Int.reduceBEq, Int.lt_irrefl]
            exact ⟨_, _, rfl, trivial, rfl, acc, p, e, _, _, .row _ _ _ h2 h3, rfl, hend⟩
      cases hRd : rdL N (l.drop y0) with
      | error e' =>
        rw [hRd] at hJ
        simp only at hJ
        subst hJ
        have he := rdL_err hRd
        have hz := rU_bad fu (n+1) l p e he
        simp only [rdr] at hz
        refine ⟨⟨op, 0, 0, 0, acc⟩, p, ?_⟩
        cases hH with
        | nil h2 =>
          subst h2
          simp only [go_sem, Nat.reduceAdd, Nat.reduceMul, Nat.reduceSub, Nat.reduceLT, Nat.reduceLeDiff, Nat.reduceEqDiff, Nat.reduceBEq, Nat.reduceBeqDiff, Int.reduceEq, Int.reduceLT, Int.reduceLE, Int.reduceToNat, Int.reduceNeg, Int.reduceAdd, Int.reduceSub, Int.reduceMul, reduceIte, reduceCtorEq, Nat.reducePow, Nat.reduceDiv, Nat.reduceMod, Int.reduceBEq, hz, TInstr.d, List.map_nil]
        | row ys m c h2 h3 =>
          subst h2 h3
          have ht : (acc.map (D.int .i64)).take acc.length = acc.map (D.int .i64) := List.take_of_length_le (by simp)
          simp only [go_sem, Nat.reduceAdd, Nat.reduceMul, Nat.reduceSub, Nat.reduceLT, Nat.reduceLeDiff, Nat.reduceEqDiff, Nat.reduceBEq, Nat.reduceBeqDiff, Int.reduceEq, Int.reduceLT, Int.reduceLE, Int.reduceToNat, Int.reduceNeg, Int.reduceAdd, Int.reduceSub, Int.reduceMul, reduceIte, reduceCtorEq, Nat.reducePow, Nat.reduceDiv, Nat.reduceMod, Int.reduceBEq, hz, TInstr.d, ht]
      | ok q =>
        obtain ⟨ls, cc⟩ := q
        rw [hRd] at hJ
        obtain ⟨rfl, rfl, rfl⟩ := hJ
        obtain ⟨q1, q2⟩ := hR _ hRd
        simp only at q1 q2
        have hz := rU_ok fu (n+1) l hb (y0 + cc) hfu (by omega) hl
        have ht : (acc.map (D.int .i64)).take acc.length = acc.map (D.int .i64) := List.take_of_length_le (by simp)
        simp only
        rw [← q2]
        cases hs2 : rdU (l.drop (y0 + cc)) with
        | error e =>
          rw [hs2] at hz
          simp only [rdr, ruRes] at hz
          refine ⟨⟨op, 0, 0, 0, acc⟩, ((y0 + cc : Nat) : Int), ?_⟩
          cases hH with
          | nil h2 =>
            subst h2
            simp only [go_sem, Nat.reduceAdd, Nat.reduceMul, Nat.reduceSub, Nat.reduceLT, Nat.reduceLeDiff, Nat.reduceEqDiff, Nat.reduceBEq, Nat.reduceBeqDiff, Int.reduceEq, Int.reduceLT, Int.reduceLE, Int.reduceToNat, Int.reduceNeg, Int.reduceAdd, Int.reduceSub, Int.reduceMul, reduceIte, reduceCtorEq, Nat.reducePow, Nat.reduceDiv, Nat.reduceMod, Int.reduceBEq, hz, TInstr.d, List.map_nil]
          | row ys m c h2 h3 =>
            subst h2 h3
            simp only [go_sem, Nat.reduceAdd, Nat.reduceMul, Nat.reduceSub, Nat.reduceLT, Nat.reduceLeDiff, Nat.reduceEqDiff, Nat.reduceBEq, Nat.reduceBeqDiff, Int.reduceEq, Int.reduceLT, Int.reduceLE, Int.reduceToNat, Int.reduceNeg, Int.reduceAdd, Int.reduceSub, Int.reduceMul, reduceIte, reduceCtorEq, Nat.reducePow, Nat.reduceDiv, Nat.reduceMod, Int.reduceBEq, hz, TInstr.d, ht]
        | ok d2 =>
          rw [hs2] at hz
          simp only [rdr, ruRes] at hz
          show _ = _
          rw [show x + (ds.length + cc + d2.length + 1) = y0 + cc + d2.length by omega]
          cases hH with
          | nil h2 =>
            subst h2
            simp only [go_sem, Nat.reduceAdd, Nat.reduceMul, Nat.reduceSub, Nat.reduceLT, Nat.reduceLeDiff, Nat.reduceEqDiff, Nat.reduceBEq, Nat.reduceBeqDiff, Int.reduceEq, Int.reduceLT, Int.reduceLE, Int.reduceToNat, Int.reduceNeg, Int.reduceAdd, Int.reduceSub, Int.reduceMul, reduceIte, reduceCtorEq, Nat.reducePow, Nat.reduceDiv, Nat.reduceMod, Int.reduceBEq, hz, TInstr.d, List.map_nil, rdr]
          | row ys m c h2 h3 =>
            subst h2 h3
            simp only [go_sem, Nat.reduceAdd, Nat.reduceMul, Nat.reduceSub, Nat.reduceLT, Nat.reduceLeDiff, Nat.reduceEqDiff, Nat.reduceBEq, Nat.reduceBeqDiff, Int.reduceEq, Int.reduceLT, Int.reduceLE, Int.reduceToNat, Int.reduceNeg, Int.reduceAdd, Int.reduceSub, Int.reduceMul, reduceIte, reduceCtorEq, Nat.reducePow, Nat.reduceDiv, Nat.reduceMod, Int.reduceBEq, hz, TInstr.d, ht, rdr]
    · have h64' : 64 < val ds := by omega
      have hfn := rFail_yes fu (n+3) l ((x + 1 + ds.length : Nat) : Int) 4
      have hz := rU_bad fu (n+1) l ((x + 1 + ds.length : Nat) : Int) 4 (by decide)
      simp only [h64, if_false]
      refine ⟨⟨op, 0, 0, 0, []⟩, ((x + 1 + ds.length : Nat) : Int), ?_⟩
      have hv0 : 0 < val ds := by omega
      simp only [rdr, TInstr.d] at *
      rw [evF.eq_2, evX.eq_def, Gext, exts_no _ (f := 71) (by decide), GP, Tryd.func71]; simp only [Tryd.f71, evB]
      simp only [go_sem, Nat.reduceAdd, Nat.reduceMul, Nat.reduceSub, Nat.reduceLT, Nat.reduceLeDiff, Nat.reduceEqDiff, Nat.reduceBEq, Nat.reduceBeqDiff, Int.reduceEq, Int.reduceLT, Int.reduceLE, Int.reduceToNat, Int.reduceNeg, Int.reduceAdd, Int.reduceSub, Int.reduceMul, reduceIte, reduceCtorEq, Nat.reducePow, Nat.reduceDiv, Nat.reduceMod, Int.reduceBEq, hy, hkk, hf0, List.map_nil, hu, hfn, hz, h64']
      rw [loop_some 0 (fun _ => ⟨[(0, .ptr 0 0), (2, .ptr 192 0), (3, .ptr 256 0), (5, .d (.int .i64 (val ds))), (6, .d (.int .i64 0))], [(0, .cells [.d (.list (byt l)), .d (.int .i64 ((x + 1 + ds.length : Nat) : Int)), .d (.int .i64 4)]), (192, .cells [.d (.int .i64 0), .d (.int .i64 0), .d (.int .i64 0), .d (.int .u64 0), .nilsl]), (256, .cells [.d (.int .i64 op), .d (.int .i64 0), .d (.int .i64 0), .d (.int .u64 0), .nilsl])] ++ []⟩) (.exit 1, ⟨[(0, .ptr 0 0), (2, .ptr 192 0), (3, .ptr 256 0)], [(0, .cells [.d (.list (byt l)), .d (.int .i64 ((x + 1 + ds.length : Nat) : Int)), .d (.int .i64 4)]), (192, .cells [.d (.int .i64 0), .d (.int .i64 0), .d (.int .i64 0), .d (.int .u64 0), .nilsl]), (256, .cells [.d (.int .i64 op), .d (.int .i64 0), .d (.int .i64 0), .d (.int .u64 0), .nilsl])] ++ []⟩) trivial (by omega) ?_]
      case hs => intro i hi; omega
      case he => simp only [go_sem, Nat.reduceAdd, Nat.reduceMul, Nat.reduceSub, Nat.reduceLT, Nat.reduceLeDiff, Nat.reduceEqDiff, Nat.reduceBEq, Nat.reduceBeqDiff, Int.reduceEq, Int.reduceLT, Int.reduceLE, Int.reduceToNat, Int.reduceNeg, Int.reduceAdd, Int.reduceSub, Int.reduceMul, reduceIte, reduceCtorEq, Nat.reducePow, Nat.reduceDiv, Nat.reduceMod, Int.reduceBEq, hv0]
      rotate_left
      · rfl
      simp only [go_sem, Nat.reduceAdd, Nat.reduceMul, Nat.reduceSub, Nat.reduceLT, Nat.reduceLeDiff, Nat.reduceEqDiff, Nat.reduceBEq, Nat.reduceBeqDiff, Int.reduceEq, Int.reduceLT, Int.reduceLE, Int.reduceToNat, Int.reduceNeg, Int.reduceAdd, Int.reduceSub, Int.reduceMul, reduceIte, reduceCtorEq, Nat.reducePow, Nat.reduceDiv, Nat.reduceMod, Int.reduceBEq, hz]
theorem rInstr_all (fu n : Nat) (l : List Int) (hb : Bs l) (x : Nat) (hfu : 80 < fu) (hl : l.length < 1099511627000) : insR l x (evF (G fu) (n+5) 71 [.ptr 0 0] [rdr l x 0]) (dec (l.drop x)) := by
  rcases Nat.lt_or_ge x l.length with h | h
  · have hd : l.drop x = l.getD x 0 :: l.drop (x + 1) := by
      rw [List.drop_eq_getElem_cons h, List.getD_eq_getElem?_getD, List.getElem?_eq_getElem h]; rfl
    rw [hd, dec]
    rcases kd_in (l.getD x 0) with hk | hk | hk | hk | hk | hk | hk | hk | hk | hk
    · exact rInstr0 fu n l hb x _ hfu h hl rfl hk
    · exact rInstr1 fu n l hb x _ hfu h hl rfl hk
    · exact rInstr2 fu n l hb x _ hfu h hl rfl hk
    · exact rInstr3 fu n l hb x _ hfu h hl rfl hk
    · exact rInstr4 fu n l hb x _ hfu h hl rfl hk
    · exact rInstr5 fu n l hb x _ hfu h hl rfl hk
    · exact rInstr6 fu n l hb x _ hfu h hl rfl hk
    · exact rInstr7 fu n l hb x _ hfu h hl rfl hk
    · exact rInstr8 fu n l hb x _ hfu h hl rfl hk
    · exact rInstr9 fu n l hb x _ hfu h hl rfl hk
  · rw [List.drop_eq_nil_of_le h, dec]
    exact ⟨in0, x, rInstr_end fu n l x h⟩
theorem rRead_ev (fu n : Nat) (l : List Int) (hb : Bs l) (x : Nat) (hfu : 80 < fu) (hx : x ≤ l.length) (hl : l.length < 1099511627000) : evF (G fu) (n+6) 29 [.d (.list (byt l)), .d (.int .i64 x)] [] = some (decR x (dec (l.drop x)), []) := by
  have a1 : ¬ (x : Int) < 0 := by omega
  have a2 : ¬ (l.length : Int) < x := by omega
  have h := rInstr_all fu n l hb x hfu hl
  cases hd : dec (l.drop x) with
  | error e =>
    have he := dec_err hd
    rw [hd] at h
    obtain ⟨i, p, h⟩ := h
    simp only [rdr, TInstr.d] at h
    rw [evF.eq_2, evX.eq_def, Gext, exts_no _ (f := 29) (by decide), GP, Tryd.func29]; simp only [Tryd.f29, evB]
    simp only [go_sem, Nat.reduceAdd, Nat.reduceMul, Nat.reduceSub, Nat.reduceLT, Nat.reduceLeDiff, Nat.reduceEqDiff, Nat.reduceBEq, Nat.reduceBeqDiff, Int.reduceEq, Int.reduceLT, Int.reduceLE, Int.reduceToNat, Int.reduceNeg, Int.reduceAdd, Int.reduceSub, Int.reduceMul, reduceIte, reduceCtorEq, Nat.reducePow, Nat.reduceDiv, Nat.reduceMod, Int.reduceBEq, a1, a2, byt_len, h, he, decR, in0, TInstr.d, List.map_nil]
    rw [cond_free]
    · simp only [go_sem, Nat.reduceAdd, Nat.reduceMul, Nat.reduceSub, Nat.reduceLT, Nat.reduceLeDiff, Nat.reduceEqDiff, Nat.reduceBEq, Nat.reduceBeqDiff, Int.reduceEq, Int.reduceLT, Int.reduceLE, Int.reduceToNat, Int.reduceNeg, Int.reduceAdd, Int.reduceSub, Int.reduceMul, reduceIte, reduceCtorEq, Nat.reducePow, Nat.reduceDiv, Nat.reduceMod, Int.reduceBEq]
    · rfl
  | ok q =>
    obtain ⟨i, c⟩ := q
    rw [hd] at h
    have h : _ = _ := h
    simp only [rdr, TInstr.d] at h
    rw [evF.eq_2, evX.eq_def, Gext, exts_no _ (f := 29) (by decide), GP, Tryd.func29]; simp only [Tryd.f29, evB]
    simp only [go_sem, Nat.reduceAdd, Nat.reduceMul, Nat.reduceSub, Nat.reduceLT, Nat.reduceLeDiff, Nat.reduceEqDiff, Nat.reduceBEq, Nat.reduceBeqDiff, Int.reduceEq, Int.reduceLT, Int.reduceLE, Int.reduceToNat, Int.reduceNeg, Int.reduceAdd, Int.reduceSub, Int.reduceMul, reduceIte, reduceCtorEq, Nat.reducePow, Nat.reduceDiv, Nat.reduceMod, Int.reduceBEq, a1, a2, byt_len, h, decR, TInstr.d]
    rw [cond_free]
    · simp only [go_sem, Nat.reduceAdd, Nat.reduceMul, Nat.reduceSub, Nat.reduceLT, Nat.reduceLeDiff, Nat.reduceEqDiff, Nat.reduceBEq, Nat.reduceBeqDiff, Int.reduceEq, Int.reduceLT, Int.reduceLE, Int.reduceToNat, Int.reduceNeg, Int.reduceAdd, Int.reduceSub, Int.reduceMul, reduceIte, reduceCtorEq, Nat.reducePow, Nat.reduceDiv, Nat.reduceMod, Int.reduceBEq]
    · rfl
theorem rRead_out (fu n : Nat) (l : List Int) (x : Int) (hx : x < 0 ∨ (l.length : Int) < x) : evF (G fu) (n+1) 29 [.d (.list (byt l)), .d (.int .i64 x)] [] = some (decR 0 (.error 1), []) := by
  rw [evF.eq_2, evX.eq_def, Gext, exts_no _ (f := 29) (by decide), GP, Tryd.func29]; simp only [Tryd.f29, evB]
  by_cases a1 : x < 0
  · simp only [go_sem, Nat.reduceAdd, Nat.reduceMul, Nat.reduceSub, Nat.reduceLT, Nat.reduceLeDiff, Nat.reduceEqDiff, Nat.reduceBEq, Nat.reduceBeqDiff, Int.reduceEq, Int.reduceLT, Int.reduceLE, Int.reduceToNat, Int.reduceNeg, Int.reduceAdd, Int.reduceSub, Int.reduceMul, reduceIte, reduceCtorEq, Nat.reducePow, Nat.reduceDiv, Nat.reduceMod, Int.reduceBEq, a1, byt_len, decR, in0, TInstr.d, List.map_nil]
  · have a2 : (l.length : Int) < x := by omega
    simp only [go_sem, Nat.reduceAdd, Nat.reduceMul, Nat.reduceSub, Nat.reduceLT, Nat.reduceLeDiff, Nat.reduceEqDiff, Nat.reduceBEq, Nat.reduceBeqDiff, Int.reduceEq, Int.reduceLT, Int.reduceLE, Int.reduceToNat, Int.reduceNeg, Int.reduceAdd, Int.reduceSub, Int.reduceMul, reduceIte, reduceCtorEq, Nat.reducePow, Nat.reduceDiv, Nat.reduceMod, Int.reduceBEq, a1, a2, byt_len, decR, in0, TInstr.d, List.map_nil]
theorem Read_out (fu n : Nat) (l : List Int) (x : Int) (hx : x < 0 ∨ (l.length : Int) < x) : evF (G fu) (n+1) 26 [.d (.list (byt l)), .d (.int .i64 x)] [] = some (decR 0 (.error 1), []) := by
  rw [evF.eq_2, evX.eq_def, Gext, exts_no _ (f := 26) (by decide), GP, Tryd.func26]; simp only [Tryd.f26, evB]
  by_cases a1 : x < 0
  · simp only [go_sem, Nat.reduceAdd, Nat.reduceMul, Nat.reduceSub, Nat.reduceLT, Nat.reduceLeDiff, Nat.reduceEqDiff, Nat.reduceBEq, Nat.reduceBeqDiff, Int.reduceEq, Int.reduceLT, Int.reduceLE, Int.reduceToNat, Int.reduceNeg, Int.reduceAdd, Int.reduceSub, Int.reduceMul, reduceIte, reduceCtorEq, Nat.reducePow, Nat.reduceDiv, Nat.reduceMod, Int.reduceBEq, a1, byt_len, decR, in0, TInstr.d, List.map_nil]
  · have a2 : (l.length : Int) < x := by omega
    simp only [go_sem, Nat.reduceAdd, Nat.reduceMul, Nat.reduceSub, Nat.reduceLT, Nat.reduceLeDiff, Nat.reduceEqDiff, Nat.reduceBEq, Nat.reduceBeqDiff, Int.reduceEq, Int.reduceLT, Int.reduceLE, Int.reduceToNat, Int.reduceNeg, Int.reduceAdd, Int.reduceSub, Int.reduceMul, reduceIte, reduceCtorEq, Nat.reducePow, Nat.reduceDiv, Nat.reduceMod, Int.reduceBEq, a1, a2, byt_len, decR, in0, TInstr.d, List.map_nil]
end Go.Proofs.YtklnkkejkeelaaaDoor.E
