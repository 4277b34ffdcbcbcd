/- The reading of the document's Depths, Target, Sane (avocetref06). -/
import Derived.Test.YtklnkkejkeelaaaDoorN6
set_option linter.unnecessarySimpa false
set_option linter.unusedSimpArgs false
set_option linter.unusedVariables false
set_option autoImplicit false
set_option maxRecDepth 100000
set_option maxHeartbeats 8000000
set_option linter.unusedSimpArgs false
set_option linter.unusedVariables false
set_option pp.maxSteps 20000
namespace Go.Proofs.YtklnkkejkeelaaaDoor.E
open Go.Ev
theorem ar_depth {l : List TInstr} (h : walkOk l = true) {k : Nat} (hk : k < l.length) : ((arGo l (matchesF l) (k : Int) k).length : Int) = (depthsF l).getD k 0 := by
  obtain ⟨st, hst⟩ := walkSt_ok h (k := k) (by omega)
  rw [ar_encl h hk hst, depthsF_get h hk hst, List.length_map]
theorem take_snoc {L : List Int} {k : Nat} (h : k < L.length) : L.take (k + 1) = L.take k ++ [L.getD k 0] := by
  rw [List.take_add_one, List.getD_eq_getElem?_getD, List.getElem?_eq_getElem h]; rfl
inductive DpH (o : List Int) : V → Map Go.Ev.Obj → Prop
  | nil : o = [] → DpH o .nilsl []
  | row (ys : List D) (m : Nat) (c : Bool) : ys = o.map (D.int .i64) → m = o.length → DpH o (.row 1856 0 0 m) [(1856, .row 1 ys 0 false c)]
theorem rDepths_ev (fu n : Nat) (l : List TInstr) (hf : l.length < fu) (hs : l.length < 100000) : evF (G fu) (n+4) 48 [.d (.list (l.map TInstr.d))] [] = some (.row 0 0 0 (depthsF l).length, [.row 1 ((depthsF l).map (D.int .i64)) 0 false false]) := by
  have hM := rMatches_ev fu n l hf hs
  cases hw : walkOk l with
  | false =>
    rw [hw, matchesF_no l hw] at hM
    rw [depthsF_no l hw]
    simp only [List.map_nil, List.length_nil] at hM
    rw [evF.eq_2, evX.eq_def, Gext, exts_no _ (f := 48) (by decide), GP, Tryd.func48]; simp only [Tryd.f48, evB]
    simp only [go_sem, Nat.reduceAdd, Nat.reduceMul, Nat.reduceSub, Nat.reduceLT, Nat.reduceLeDiff, Nat.reduceEqDiff, Nat.reduceBEq, Nat.reduceBeqDiff, Int.reduceEq, Int.reduceLT, Int.reduceLE, Int.reduceToNat, Int.reduceNeg, Int.reduceAdd, Int.reduceSub, Int.reduceMul, reduceIte, reduceCtorEq, Nat.reducePow, Nat.reduceDiv, Nat.reduceMod, Int.reduceBEq, hM]
    rw [loop_some 0 (fun k => ⟨[(0, .d (.list (l.map TInstr.d))), (3, .row 640 0 0 0), (4, .d (.bool false)), (5, .nilsl), (6, .d (.int .i64 k))], [(640, .row 2 [] 0 false false)]⟩) (.exit 0, ⟨[(5, .nilsl)], []⟩) trivial (by omega) ?_]
    case hs => intro k hk; omega
    case he =>
      by_cases hl : 0 < l.length
      · have hlI : (0 : Int) < l.length := by omega
        simp only [go_sem, Nat.reduceAdd, Nat.reduceMul, Nat.reduceSub, Nat.reduceLT, Nat.reduceLeDiff, Nat.reduceEqDiff, Nat.reduceBEq, Nat.reduceBeqDiff, Int.reduceEq, Int.reduceLT, Int.reduceLE, Int.reduceToNat, Int.reduceNeg, Int.reduceAdd, Int.reduceSub, Int.reduceMul, reduceIte, reduceCtorEq, Nat.reducePow, Nat.reduceDiv, Nat.reduceMod, Int.reduceBEq, List.length_map, hlI]
      · have hlI : ¬ (0 : Int) < l.length := by omega
        simp only [go_sem, Nat.reduceAdd, Nat.reduceMul, Nat.reduceSub, Nat.reduceLT, Nat.reduceLeDiff, Nat.reduceEqDiff, Nat.reduceBEq, Nat.reduceBeqDiff, Int.reduceEq, Int.reduceLT, Int.reduceLE, Int.reduceToNat, Int.reduceNeg, Int.reduceAdd, Int.reduceSub, Int.reduceMul, reduceIte, reduceCtorEq, Nat.reducePow, Nat.reduceDiv, Nat.reduceMod, Int.reduceBEq, List.length_map, hlI]
    · simp only [go_sem, Nat.reduceAdd, Nat.reduceMul, Nat.reduceSub, Nat.reduceLT, Nat.reduceLeDiff, Nat.reduceEqDiff, Nat.reduceBEq, Nat.reduceBeqDiff, Int.reduceEq, Int.reduceLT, Int.reduceLE, Int.reduceToNat, Int.reduceNeg, Int.reduceAdd, Int.reduceSub, Int.reduceMul, reduceIte, reduceCtorEq, Nat.reducePow, Nat.reduceDiv, Nat.reduceMod, Int.reduceBEq, List.map_nil, List.length_nil]
    · rfl
  | true =>
    have hml := matchesF_len l hw
    have hdl := depthsF_len l hw
    have hA := fun k (hk : k < l.length) => around_ev fu (n+1) l (matchesF l) k (by omega) hml hf hs
    have hD := fun k (hk : k < l.length) => ar_depth hw hk
    have hP := fun k (hk : k < l.length) => take_snoc (L := depthsF l) (k := k) (by omega)
    rw [hw, hml] at hM
    have hmt : ((matchesF l).map nestD).take l.length = (matchesF l).map nestD := List.take_of_length_le (by simp; omega)
    rw [evF.eq_2, evX.eq_def, Gext, exts_no _ (f := 48) (by decide), GP, Tryd.func48]; simp only [Tryd.f48, evB]
    simp only [go_sem, Nat.reduceAdd, Nat.reduceMul, Nat.reduceSub, Nat.reduceLT, Nat.reduceLeDiff, Nat.reduceEqDiff, Nat.reduceBEq, Nat.reduceBeqDiff, Int.reduceEq, Int.reduceLT, Int.reduceLE, Int.reduceToNat, Int.reduceNeg, Int.reduceAdd, Int.reduceSub, Int.reduceMul, reduceIte, reduceCtorEq, Nat.reducePow, Nat.reduceDiv, Nat.reduceMod, Int.reduceBEq, hM]
    generalize hr : loopN _ _ _ _ _ = r
    obtain ⟨y, s1, rfl, hy, rfl, v, H, hH, rfl⟩ : ∃ y s1, r = some (y, s1) ∧ leaves y ∧ (y = .exit 0 ∧ ∃ v H, DpH (depthsF l) v H ∧ s1 = ⟨[(5, v)], H⟩) := by
      rw [← hr]
      clear hr r
      refine loop_inv (J := fun y s1 => y = .exit 0 ∧ ∃ v H, DpH (depthsF l) v H ∧ s1 = ⟨[(5, v)], H⟩)
        l.length (fun k z => ∃ v H fz, DpH ((depthsF l).take k) v H ∧ z = ⟨[(0, .d (.list (l.map TInstr.d))), (3, .row 640 0 0 l.length), (4, .d (.bool true)), (5, v), (6, .d (.int .i64 k))], (640, .row 2 ((matchesF l).map nestD) 0 fz false) :: H⟩) ?_ ?_ fu _ hf ⟨_, _, false, .nil rfl, rfl⟩
      · rintro k z hk ⟨v, H, fz, hH, rfl⟩
        have hkI : (k : Int) < l.length := by omega
        have Wk := wrap_i64 (show -9223372036854775808 ≤ (k : Int) + 1 by omega) (by omega)
        have hA := hA k hk
        have hD := hD k hk
        rw [hP k hk, ← hD]
        have hol : ((depthsF l).take k).length + 1 ≤ 1099511627776 := by rw [List.length_take]; omega
        generalize (depthsF l).take k = o at *
        generalize arGo l (matchesF l) (k : Int) k = A at *
        have ht : (o.map (D.int .i64)).take o.length = o.map (D.int .i64) := List.take_of_length_le (by simp)
        cases fz
        all_goals
          cases hH with
          | nil h3 =>
            subst h3
            simp only [go_sem, Nat.reduceAdd, Nat.reduceMul, Nat.reduceSub, Nat.reduceLT, Nat.reduceLeDiff, Nat.reduceEqDiff, Nat.reduceBEq, Nat.reduceBeqDiff, Int.reduceEq, Int.reduceLT, Int.reduceLE, Int.reduceToNat, Int.reduceNeg, Int.reduceAdd, Int.reduceSub, Int.reduceMul, reduceIte, reduceCtorEq, Nat.reducePow, Nat.reduceDiv, Nat.reduceMod, Int.reduceBEq, List.length_map, hkI, Wk, hmt, hA, szj]
            exact ⟨.normal, _, rfl, _, _, true, .row _ _ _ rfl rfl, rfl⟩
          | row ys m c h3 h4 =>
            subst h3 h4
            simp only [go_sem, Nat.reduceAdd, Nat.reduceMul, Nat.reduceSub, Nat.reduceLT, Nat.reduceLeDiff, Nat.reduceEqDiff, Nat.reduceBEq, Nat.reduceBeqDiff, Int.reduceEq, Int.reduceLT, Int.reduceLE, Int.reduceToNat, Int.reduceNeg, Int.reduceAdd, Int.reduceSub, Int.reduceMul, reduceIte, reduceCtorEq, Nat.reducePow, Nat.reduceDiv, Nat.reduceMod, Int.reduceBEq, List.length_map, hkI, Wk, hmt, hA, szj, ht, hol]
            exact ⟨.normal, _, rfl, _, _, true, .row _ _ _ (by simp) (by simp), rfl⟩
      · rintro z ⟨v, H, fz, hH, rfl⟩
        rw [List.take_of_length_le (by omega)] at hH
        cases hH with
        | nil h3 =>
          simp only [go_sem, Nat.reduceAdd, Nat.reduceMul, Nat.reduceSub, Nat.reduceLT, Nat.reduceLeDiff, Nat.reduceEqDiff, Nat.reduceBEq, Nat.reduceBeqDiff, Int.reduceEq, Int.reduceLT, Int.reduceLE, Int.reduceToNat, Int.reduceNeg, Int.reduceAdd, Int.reduceSub, Int.reduceMul, reduceIte, reduceCtorEq, Nat.reducePow, Nat.reduceDiv, Nat.reduceMod, Int.reduceBEq, List.length_map, Int.lt_irrefl]
          exact ⟨_, _, rfl, trivial, rfl, _, _, .nil h3, rfl⟩
        | row ys m c h3 h4 =>
          simp only [go_sem, Nat.reduceAdd, Nat.reduceMul, Nat.reduceSub, Nat.reduceLT, Nat.reduceLeDiff, Nat.reduceEqDiff, Nat.reduceBEq, Nat.reduceBeqDiff, Int.reduceEq, Int.reduceLT, Int.reduceLE, Int.reduceToNat, Int.reduceNeg, Int.reduceAdd, Int.reduceSub, Int.reduceMul, reduceIte, reduceCtorEq, Nat.reducePow, Nat.reduceDiv, Nat.reduceMod, Int.reduceBEq, List.length_map, Int.lt_irrefl]
          exact ⟨_, _, rfl, trivial, rfl, _, _, .row _ _ _ h3 h4, rfl⟩
    cases hH with
    | nil h3 => simp only [go_sem, Nat.reduceAdd, Nat.reduceMul, Nat.reduceSub, Nat.reduceLT, Nat.reduceLeDiff, Nat.reduceEqDiff, Nat.reduceBEq, Nat.reduceBeqDiff, Int.reduceEq, Int.reduceLT, Int.reduceLE, Int.reduceToNat, Int.reduceNeg, Int.reduceAdd, Int.reduceSub, Int.reduceMul, reduceIte, reduceCtorEq, Nat.reducePow, Nat.reduceDiv, Nat.reduceMod, Int.reduceBEq, h3, List.map_nil, List.length_nil]
    | row ys m c h3 h4 =>
      subst h3 h4
      simp only [go_sem, Nat.reduceAdd, Nat.reduceMul, Nat.reduceSub, Nat.reduceLT, Nat.reduceLeDiff, Nat.reduceEqDiff, Nat.reduceBEq, Nat.reduceBeqDiff, Int.reduceEq, Int.reduceLT, Int.reduceLE, Int.reduceToNat, Int.reduceNeg, Int.reduceAdd, Int.reduceSub, Int.reduceMul, reduceIte, reduceCtorEq, Nat.reducePow, Nat.reduceDiv, Nat.reduceMod, Int.reduceBEq]
theorem rTarget_ev (fu n : Nat) (l : List TInstr) (a label : Int) (hf : l.length < fu) (hs : l.length < 100000) : evF (G fu) (n+4) 43 [.d (.list (l.map TInstr.d)), .d (.int .i64 a), .d (.int .i64 label)] [] =
    some (.tup [.d (.int .i64 (targetF l a label).1), .d (.bool (targetF l a label).2)], []) := by
  have hM := rMatches_ev fu n l hf hs
  cases hw : walkOk l with
  | false =>
    have e : targetF l a label = (0, false) := by unfold targetF; rw [if_pos (.inl hw)]
    rw [e]
    rw [hw, matchesF_no l hw] at hM
    simp only [List.map_nil, List.length_nil] at hM
    rw [evF.eq_2, evX.eq_def, Gext, exts_no _ (f := 43) (by decide), GP, Tryd.func43]; simp only [Tryd.f43, evB]
    simp only [go_sem, Nat.reduceAdd, Nat.reduceMul, Nat.reduceSub, Nat.reduceLT, Nat.reduceLeDiff, Nat.reduceEqDiff, Nat.reduceBEq, Nat.reduceBeqDiff, Int.reduceEq, Int.reduceLT, Int.reduceLE, Int.reduceToNat, Int.reduceNeg, Int.reduceAdd, Int.reduceSub, Int.reduceMul, reduceIte, reduceCtorEq, Nat.reducePow, Nat.reduceDiv, Nat.reduceMod, Int.reduceBEq, hM]
  | true =>
    have hml := matchesF_len l hw
    rw [hw, hml] at hM
    have hmt : ((matchesF l).map nestD).take l.length = (matchesF l).map nestD := List.take_of_length_le (by simp; omega)
    by_cases c1 : a < 0
    · have e : targetF l a label = (0, false) := by unfold targetF; rw [if_pos (.inr (.inl c1))]
      rw [e]
      rw [evF.eq_2, evX.eq_def, Gext, exts_no _ (f := 43) (by decide), GP, Tryd.func43]; simp only [Tryd.f43, evB]
      simp only [go_sem, Nat.reduceAdd, Nat.reduceMul, Nat.reduceSub, Nat.reduceLT, Nat.reduceLeDiff, Nat.reduceEqDiff, Nat.reduceBEq, Nat.reduceBeqDiff, Int.reduceEq, Int.reduceLT, Int.reduceLE, Int.reduceToNat, Int.reduceNeg, Int.reduceAdd, Int.reduceSub, Int.reduceMul, reduceIte, reduceCtorEq, Nat.reducePow, Nat.reduceDiv, Nat.reduceMod, Int.reduceBEq, hM, c1]
    by_cases c2 : (l.length : Int) ≤ a
    · have e : targetF l a label = (0, false) := by unfold targetF; rw [if_pos (.inr (.inr (.inl c2)))]
      rw [e]
      rw [evF.eq_2, evX.eq_def, Gext, exts_no _ (f := 43) (by decide), GP, Tryd.func43]; simp only [Tryd.f43, evB]
      simp only [go_sem, Nat.reduceAdd, Nat.reduceMul, Nat.reduceSub, Nat.reduceLT, Nat.reduceLeDiff, Nat.reduceEqDiff, Nat.reduceBEq, Nat.reduceBeqDiff, Int.reduceEq, Int.reduceLT, Int.reduceLE, Int.reduceToNat, Int.reduceNeg, Int.reduceAdd, Int.reduceSub, Int.reduceMul, reduceIte, reduceCtorEq, Nat.reducePow, Nat.reduceDiv, Nat.reduceMod, Int.reduceBEq, hM, List.length_map, c1, c2]
    obtain ⟨k, rfl⟩ : ∃ k : Nat, a = k := ⟨a.toNat, by omega⟩
    have hk : k < l.length := by omega
    have hA := around_ev fu (n+1) l (matchesF l) k (by omega) hml hf hs
    obtain ⟨st, hst⟩ := walkSt_ok hw (k := k) (by omega)
    have hE := ar_encl hw hk hst
    rw [hE] at hA
    simp only [List.length_map] at hA
    by_cases c3 : label < 0
    · have e : targetF l (k : Int) label = (0, false) := by unfold targetF; rw [if_pos (.inr (.inr (.inr c3)))]
      rw [e]
      rw [evF.eq_2, evX.eq_def, Gext, exts_no _ (f := 43) (by decide), GP, Tryd.func43]; simp only [Tryd.f43, evB]
      simp only [go_sem, Nat.reduceAdd, Nat.reduceMul, Nat.reduceSub, Nat.reduceLT, Nat.reduceLeDiff, Nat.reduceEqDiff, Nat.reduceBEq, Nat.reduceBeqDiff, Int.reduceEq, Int.reduceLT, Int.reduceLE, Int.reduceToNat, Int.reduceNeg, Int.reduceAdd, Int.reduceSub, Int.reduceMul, reduceIte, reduceCtorEq, Nat.reducePow, Nat.reduceDiv, Nat.reduceMod, Int.reduceBEq, hM, List.length_map, c1, c2, hmt, hA, c3]
    rw [tgt_encl hw hk hst (show 0 ≤ label by omega)]
    obtain ⟨p1, p2, p3, p4⟩ := pick_ok (l := l) (M := matchesF l) (L := encl l k st) (left := label) (by omega)
    generalize hpk : pick l (matchesF l) (encl l k st) label = pk at *
    obtain ⟨t, ok⟩ := pk
    simp only at p1 p2 p3 p4 ⊢
    by_cases c4 : ((encl l k st).length : Int) < label
    · have hok : ok = false := by rw [p1]; exact decide_eq_false (by omega)
      rw [hok, p2 c4]
      rw [evF.eq_2, evX.eq_def, Gext, exts_no _ (f := 43) (by decide), GP, Tryd.func43]; simp only [Tryd.f43, evB]
      simp only [go_sem, Nat.reduceAdd, Nat.reduceMul, Nat.reduceSub, Nat.reduceLT, Nat.reduceLeDiff, Nat.reduceEqDiff, Nat.reduceBEq, Nat.reduceBeqDiff, Int.reduceEq, Int.reduceLT, Int.reduceLE, Int.reduceToNat, Int.reduceNeg, Int.reduceAdd, Int.reduceSub, Int.reduceMul, reduceIte, reduceCtorEq, Nat.reducePow, Nat.reduceDiv, Nat.reduceMod, Int.reduceBEq, hM, List.length_map, c1, c2, hmt, hA, c3, c4]
    have hok : ok = true := by rw [p1]; exact decide_eq_true (by omega)
    by_cases c5 : label = (encl l k st).length
    · rw [hok, p3 c5]
      subst c5
      rw [evF.eq_2, evX.eq_def, Gext, exts_no _ (f := 43) (by decide), GP, Tryd.func43]; simp only [Tryd.f43, evB]
      simp only [go_sem, Nat.reduceAdd, Nat.reduceMul, Nat.reduceSub, Nat.reduceLT, Nat.reduceLeDiff, Nat.reduceEqDiff, Nat.reduceBEq, Nat.reduceBeqDiff, Int.reduceEq, Int.reduceLT, Int.reduceLE, Int.reduceToNat, Int.reduceNeg, Int.reduceAdd, Int.reduceSub, Int.reduceMul, reduceIte, reduceCtorEq, Nat.reducePow, Nat.reduceDiv, Nat.reduceMod, Int.reduceBEq, hM, List.length_map, c1, c2, hmt, hA, c3, Int.lt_irrefl]
    · obtain ⟨p, q1, q2⟩ := p4 (by omega)
      obtain ⟨x, rfl⟩ : ∃ x : Nat, label = x := ⟨label.toNat, by omega⟩
      rw [Int.toNat_natCast] at q1
      have hin := walkSt_in hst p (encl_sub (List.mem_of_getElem? q1))
      unfold nestIn at hin
      obtain ⟨w, hwj⟩ : ∃ w : Nat, p.1 = w := ⟨p.1.toNat, by omega⟩
      have hwl : w < l.length := by omega
      have hix : (((encl l k st).map (·.1)).map (D.int .i64))[x]? = some (.int .i64 (w : Int)) := by
        rw [List.getElem?_map, List.getElem?_map, q1]; simp [hwj]
      have hg : (l.map TInstr.d)[w]? = some (l.getD w in0).d := getD_map hwl
      have hm : ((matchesF l).map nestD)[w]? = some (nestD ((matchesF l).getD w n0)) := getD_map (d := n0) (by omega)
      have x0 : (0 : Int) ≤ x := by omega
      have xI : (x : Int) < ((encl l k st).length : Int) := by omega
      have w0 : (0 : Int) ≤ w := by omega
      have wI : (w : Int) < l.length := by omega
      rw [hwj, Int.toNat_natCast] at q2
      have ho : (l.getD w in0).op = opAt l w := rfl
      simp only [TInstr.d, nestD] at hg hm
      rw [ho] at hg
      generalize (matchesF l).getD w n0 = mm at *
      generalize opAt l w = op at *
      by_cases c6 : op = 3
      · subst c6
        rw [if_pos rfl] at q2
        rw [hok, q2]
        rw [evF.eq_2, evX.eq_def, Gext, exts_no _ (f := 43) (by decide), GP, Tryd.func43]; simp only [Tryd.f43, evB]
        simp only [go_sem, Nat.reduceAdd, Nat.reduceMul, Nat.reduceSub, Nat.reduceLT, Nat.reduceLeDiff, Nat.reduceEqDiff, Nat.reduceBEq, Nat.reduceBeqDiff, Int.reduceEq, Int.reduceLT, Int.reduceLE, Int.reduceToNat, Int.reduceNeg, Int.reduceAdd, Int.reduceSub, Int.reduceMul, reduceIte, reduceCtorEq, Nat.reducePow, Nat.reduceDiv, Nat.reduceMod, Int.reduceBEq, hM, List.length_map, c1, c2, hmt, hA, c3, c4, c5, idx, x0, xI, hix, hg, wI]
      · rw [if_neg c6] at q2
        rw [hok, q2]
        rw [evF.eq_2, evX.eq_def, Gext, exts_no _ (f := 43) (by decide), GP, Tryd.func43]; simp only [Tryd.f43, evB]
        simp only [go_sem, Nat.reduceAdd, Nat.reduceMul, Nat.reduceSub, Nat.reduceLT, Nat.reduceLeDiff, Nat.reduceEqDiff, Nat.reduceBEq, Nat.reduceBeqDiff, Int.reduceEq, Int.reduceLT, Int.reduceLE, Int.reduceToNat, Int.reduceNeg, Int.reduceAdd, Int.reduceSub, Int.reduceMul, reduceIte, reduceCtorEq, Nat.reducePow, Nat.reduceDiv, Nat.reduceMod, Int.reduceBEq, hM, List.length_map, c1, c2, hmt, hA, c3, c4, c5, idx, x0, xI, hix, hg, hm, wI, c6]
theorem deep_le {l : List TInstr} (h : walkOk l = true) : deepF l ≤ 32 ↔ ∀ k, k < l.length → (depthsF l).getD k 0 ≤ 32 := by
  obtain ⟨s, hs⟩ := walk_some tellD [] h
  obtain ⟨m, hm⟩ := walk_some tellS 0 h
  rw [depthsF_of hs]
  have hd : deepF l = m := by unfold deepF; rw [hm]
  rw [hd]
  have go : ∀ k, k ≤ l.length → ∀ st s st' m, walkG tellD [] l k = some (st, s) → walkG tellS 0 l k = some (st', m) → s.length = k ∧ st = st' ∧ (m ≤ 32 ↔ ∀ i, i < k → s.getD i 0 ≤ 32) := by
    intro k
    induction k with
    | zero =>
      intro _ st s st' m h1 h2
      simp only [walkG, Option.some.injEq, Prod.mk.injEq] at h1 h2
      obtain ⟨rfl, rfl⟩ := h1
      obtain ⟨rfl, rfl⟩ := h2
      exact ⟨rfl, rfl, ⟨fun _ i hi => by omega, fun _ => by decide⟩⟩
    | succ k ih =>
      intro hk st s st' m h1 h2
      simp only [walkG] at h1 h2
      split at h1
      · cases h1
      · rename_i a b ha
        split at h1
        · cases h1
        · rename_i a1 d e h3
          simp only [Option.some.injEq, Prod.mk.injEq] at h1
          obtain ⟨rfl, rfl⟩ := h1
          split at h2
          · cases h2
          · rename_i a' b' ha'
            obtain ⟨i1, i2, i3⟩ := ih (by omega) a b a' b' ha ha'
            subst i2
            split at h2
            · cases h2
            · rename_i a2 d' e' h4
              simp only [Option.some.injEq, Prod.mk.injEq] at h2
              obtain ⟨rfl, rfl⟩ := h2
              have := h3.symm.trans h4
              simp only [Option.some.injEq, Prod.mk.injEq] at this
              obtain ⟨rfl, rfl, rfl⟩ := this
              refine ⟨by simp [tellD, i1], rfl, ?_⟩
              simp only [tellS, tellD]
              have hlast : (b ++ [d]).getD k 0 = d := by simp [List.getD_eq_getElem?_getD, ← i1]
              have hfirst : ∀ i, i < k → (b ++ [d]).getD i 0 = b.getD i 0 := fun i hi => by
                simp only [List.getD_eq_getElem?_getD]
                rw [List.getElem?_append_left (by omega)]
              constructor
              · intro hmx i hi
                by_cases e1 : i = k
                · subst e1; rw [hlast]; omega
                · rw [hfirst i (by omega)]
                  exact i3.1 (by omega) i (by omega)
              · intro hall
                have h5 := i3.2 (fun i hi => by rw [← hfirst i hi]; exact hall i (by omega))
                have h6 := hall k (by omega)
                rw [hlast] at h6
                omega
  exact (go l.length (Nat.le_refl _) [] s [] m hs hm).2.2
def badS (l : List TInstr) (k : Nat) : Bool := !saneF (l.getD k in0) || decide (32 < (depthsF l).getD k 0)
theorem rSaneB_ev (fu n : Nat) (l : List TInstr) (hsn : ∀ i ∈ l, evF (G fu) (n+4) 34 [.d i.d] [] = some (.d (.bool (saneF i)), [])) (hf : l.length < fu) (hs : l.length < 100000) : evF (G fu) (n+5) 47 [.d (.list (l.map TInstr.d))] [] = some (.d (.bool (bodySane l)), []) := by
  have hM := rMatches_ev fu (n+1) l hf hs
  have hD := rDepths_ev fu n l hf hs
  cases hw : walkOk l with
  | false =>
    have e : bodySane l = false := by unfold bodySane; rw [hw]; rfl
    rw [e]
    rw [hw, matchesF_no l hw] at hM
    simp only [List.map_nil, List.length_nil] at hM
    rw [evF.eq_2, evX.eq_def, Gext, exts_no _ (f := 47) (by decide), GP, Tryd.func47]; simp only [Tryd.f47, evB]
    simp only [go_sem, Nat.reduceAdd, Nat.reduceMul, Nat.reduceSub, Nat.reduceLT, Nat.reduceLeDiff, Nat.reduceEqDiff, Nat.reduceBEq, Nat.reduceBeqDiff, Int.reduceEq, Int.reduceLT, Int.reduceLE, Int.reduceToNat, Int.reduceNeg, Int.reduceAdd, Int.reduceSub, Int.reduceMul, reduceIte, reduceCtorEq, Nat.reducePow, Nat.reduceDiv, Nat.reduceMod, Int.reduceBEq, hM]
  | true =>
    have hml := matchesF_len l hw
    have hdl := depthsF_len l hw
    rw [hw, hml] at hM
    rw [hdl] at hD
    by_cases c1 : (4096 : Int) < l.length
    · have e : bodySane l = false := by
        unfold bodySane
        rw [decide_eq_false (show ¬ (l.length : Int) ≤ 4096 by omega)]
        simp
      rw [e]
      rw [evF.eq_2, evX.eq_def, Gext, exts_no _ (f := 47) (by decide), GP, Tryd.func47]; simp only [Tryd.f47, evB]
      simp only [go_sem, Nat.reduceAdd, Nat.reduceMul, Nat.reduceSub, Nat.reduceLT, Nat.reduceLeDiff, Nat.reduceEqDiff, Nat.reduceBEq, Nat.reduceBeqDiff, Int.reduceEq, Int.reduceLT, Int.reduceLE, Int.reduceToNat, Int.reduceNeg, Int.reduceAdd, Int.reduceSub, Int.reduceMul, reduceIte, reduceCtorEq, Nat.reducePow, Nat.reduceDiv, Nat.reduceMod, Int.reduceBEq, hM, List.length_map, c1]
    · rw [evF.eq_2, evX.eq_def, Gext, exts_no _ (f := 47) (by decide), GP, Tryd.func47]; simp only [Tryd.f47, evB]
      simp only [go_sem, Nat.reduceAdd, Nat.reduceMul, Nat.reduceSub, Nat.reduceLT, Nat.reduceLeDiff, Nat.reduceEqDiff, Nat.reduceBEq, Nat.reduceBeqDiff, Int.reduceEq, Int.reduceLT, Int.reduceLE, Int.reduceToNat, Int.reduceNeg, Int.reduceAdd, Int.reduceSub, Int.reduceMul, reduceIte, reduceCtorEq, Nat.reducePow, Nat.reduceDiv, Nat.reduceMod, Int.reduceBEq, hM, List.length_map, c1, hD]
      rw [loop_scan l.length (fun k => ⟨[(0, .d (.list (l.map TInstr.d))), (5, .row 1344 0 0 l.length), (6, .d (.int .i64 k))], [(1344, .row 1 ((depthsF l).map (D.int .i64)) 0 false false)]⟩) (badS l) (fun _ => (.ret, ⟨[(2, .d (.bool false))], []⟩)) (.exit 0, ⟨[], []⟩) hf (fun _ => trivial) trivial ?_]
      case hs =>
        intro k hk
        have hkI : (k : Int) < l.length := by omega
        have hg : (l.map TInstr.d)[k]? = some (l.getD k in0).d := getD_map hk
        have hd : ((depthsF l).map (D.int .i64))[k]? = some (.int .i64 ((depthsF l).getD k 0)) := getD_map (d := 0) (by omega)
        have q := hsn (l.getD k in0) (by rw [List.getD_eq_getElem?_getD, List.getElem?_eq_getElem hk]; exact List.getElem_mem hk)
        have Wk := wrap_i64 (show -9223372036854775808 ≤ (k : Int) + 1 by omega) (by omega)
        unfold badS
        generalize l.getD k in0 = i at *
        generalize (depthsF l).getD k 0 = d at *
        simp only [TInstr.d] at hg q
        cases hsi : saneF i with
        | false => rw [hsi] at q; simp only [go_sem, Nat.reduceAdd, Nat.reduceMul, Nat.reduceSub, Nat.reduceLT, Nat.reduceLeDiff, Nat.reduceEqDiff, Nat.reduceBEq, Nat.reduceBeqDiff, Int.reduceEq, Int.reduceLT, Int.reduceLE, Int.reduceToNat, Int.reduceNeg, Int.reduceAdd, Int.reduceSub, Int.reduceMul, reduceIte, reduceCtorEq, Nat.reducePow, Nat.reduceDiv, Nat.reduceMod, Int.reduceBEq, List.length_map, hkI, idx, hg, q, Wk]
        | true =>
          rw [hsi] at q
          by_cases c2 : 32 < d
          · simp only [go_sem, Nat.reduceAdd, Nat.reduceMul, Nat.reduceSub, Nat.reduceLT, Nat.reduceLeDiff, Nat.reduceEqDiff, Nat.reduceBEq, Nat.reduceBeqDiff, Int.reduceEq, Int.reduceLT, Int.reduceLE, Int.reduceToNat, Int.reduceNeg, Int.reduceAdd, Int.reduceSub, Int.reduceMul, reduceIte, reduceCtorEq, Nat.reducePow, Nat.reduceDiv, Nat.reduceMod, Int.reduceBEq, List.length_map, hkI, idx, hg, hd, q, Wk, c2]
          · simp only [go_sem, Nat.reduceAdd, Nat.reduceMul, Nat.reduceSub, Nat.reduceLT, Nat.reduceLeDiff, Nat.reduceEqDiff, Nat.reduceBEq, Nat.reduceBeqDiff, Int.reduceEq, Int.reduceLT, Int.reduceLE, Int.reduceToNat, Int.reduceNeg, Int.reduceAdd, Int.reduceSub, Int.reduceMul, reduceIte, reduceCtorEq, Nat.reducePow, Nat.reduceDiv, Nat.reduceMod, Int.reduceBEq, List.length_map, hkI, idx, hg, hd, q, Wk, c2]; rfl
      case he => simp only [go_sem, Nat.reduceAdd, Nat.reduceMul, Nat.reduceSub, Nat.reduceLT, Nat.reduceLeDiff, Nat.reduceEqDiff, Nat.reduceBEq, Nat.reduceBeqDiff, Int.reduceEq, Int.reduceLT, Int.reduceLE, Int.reduceToNat, Int.reduceNeg, Int.reduceAdd, Int.reduceSub, Int.reduceMul, reduceIte, reduceCtorEq, Nat.reducePow, Nat.reduceDiv, Nat.reduceMod, Int.reduceBEq, List.length_map, Int.lt_irrefl]
      rotate_left
      · rfl
      have hall : first (badS l) 0 l.length = none ↔ bodySane l = true := by
        rw [first_none]
        unfold bodySane
        rw [hw, decide_eq_true (show (l.length : Int) ≤ 4096 by omega)]
        simp only [Bool.true_and, Bool.and_true, Bool.and_eq_true, decide_eq_true_eq, List.all_eq_true, deep_le hw]
        constructor
        · intro hb
          have hb' : ∀ k, k < l.length → saneF (l.getD k in0) = true ∧ (depthsF l).getD k 0 ≤ 32 := fun k hk => by
            have := hb k (by omega) (by omega)
            unfold badS at this
            simp only [Bool.or_eq_false_iff, Bool.not_eq_false', decide_eq_false_iff_not] at this
            exact ⟨this.1, by omega⟩
          refine ⟨fun k hk => (hb' k hk).2, fun i hi => ?_⟩
          obtain ⟨k, hk, rfl⟩ := List.getElem_of_mem hi
          have := (hb' k hk).1
          rwa [List.getD_eq_getElem?_getD, List.getElem?_eq_getElem hk] at this
        · rintro ⟨h1, h2⟩ k _ hk
          have hk' : k < l.length := by omega
          unfold badS
          rw [h2 _ (by rw [List.getD_eq_getElem?_getD, List.getElem?_eq_getElem hk']; exact List.getElem_mem hk')]
          have := h1 k hk'
          simp only [Bool.not_true, Bool.false_or, decide_eq_false_iff_not]
          omega
      unfold Go.Ev.scan
      cases hfi : first (badS l) 0 l.length with
      | none => simp only [go_sem, Nat.reduceAdd, Nat.reduceMul, Nat.reduceSub, Nat.reduceLT, Nat.reduceLeDiff, Nat.reduceEqDiff, Nat.reduceBEq, Nat.reduceBeqDiff, Int.reduceEq, Int.reduceLT, Int.reduceLE, Int.reduceToNat, Int.reduceNeg, Int.reduceAdd, Int.reduceSub, Int.reduceMul, reduceIte, reduceCtorEq, Nat.reducePow, Nat.reduceDiv, Nat.reduceMod, Int.reduceBEq, hall.1 hfi]
      | some i =>
        have : bodySane l = false := by
          cases hb : bodySane l with
          | false => rfl
          | true => rw [hall.2 hb] at hfi; cases hfi
        simp only [go_sem, Nat.reduceAdd, Nat.reduceMul, Nat.reduceSub, Nat.reduceLT, Nat.reduceLeDiff, Nat.reduceEqDiff, Nat.reduceBEq, Nat.reduceBeqDiff, Int.reduceEq, Int.reduceLT, Int.reduceLE, Int.reduceToNat, Int.reduceNeg, Int.reduceAdd, Int.reduceSub, Int.reduceMul, reduceIte, reduceCtorEq, Nat.reducePow, Nat.reduceDiv, Nat.reduceMod, Int.reduceBEq, this]
end Go.Proofs.YtklnkkejkeelaaaDoor.E
