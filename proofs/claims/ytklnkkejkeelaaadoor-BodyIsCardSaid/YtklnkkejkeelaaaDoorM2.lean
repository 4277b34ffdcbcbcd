/- The reading of the document's reading of numbers (avocetref01.digits, ReadU, ReadS). -/
import Derived.Test.YtklnkkejkeelaaaDoorL2
import Derived.Test.YtklnkkejkeelaaaDoorM1
set_option linter.unnecessarySimpa false
set_option linter.unusedSimpArgs false
set_option linter.unusedVariables false
set_option autoImplicit false
set_option maxRecDepth 100000
set_option maxHeartbeats 4000000
set_option linter.unusedSimpArgs false
set_option linter.unusedVariables false
set_option pp.maxSteps 20000
namespace Go.Proofs.YtklnkkejkeelaaaDoor.E
open Go.Ev
/-- A byte's seven digits of two, the lowest first. -/
def bits7 (c : Int) : List Int := [c % 2, c / 2 % 2, c / 4 % 2, c / 8 % 2, c / 16 % 2, c / 32 % 2, c / 64 % 2]
def bitsL (ds : List Int) : List Int := ds.flatMap bits7
def halves (c : Int) : Nat → Int
  | 0 => c
  | k + 1 => halves c k / 2
theorem halves_nonneg {c : Int} (h : 0 ≤ c) (k : Nat) : 0 ≤ halves c k := by
  induction k with
  | zero => exact h
  | succ k ih => simp only [halves]; omega
theorem halves_le {c : Int} (h : 0 ≤ c) (k : Nat) : halves c k ≤ c := by
  induction k with
  | zero => simp [halves]
  | succ k ih => have := halves_nonneg h k; simp only [halves]; omega
theorem bits7_take (c : Int) (h : 0 ≤ c) : ∀ j, j < 7 → (bits7 c).take (j + 1) = (bits7 c).take j ++ [halves c j % 2]
  | 0, _ => rfl
  | 1, _ => rfl
  | 2, _ => by simp only [bits7, halves, List.take_succ_cons, List.take_zero, List.cons_append, List.nil_append]; congr 4; omega
  | 3, _ => by simp only [bits7, halves, List.take_succ_cons, List.take_zero, List.cons_append, List.nil_append]; congr 5; omega
  | 4, _ => by simp only [bits7, halves, List.take_succ_cons, List.take_zero, List.cons_append, List.nil_append]; congr 6; omega
  | 5, _ => by simp only [bits7, halves, List.take_succ_cons, List.take_zero, List.cons_append, List.nil_append]; congr 7; omega
  | 6, _ => by simp only [bits7, halves, List.take_succ_cons, List.take_zero, List.cons_append, List.nil_append]; congr 8; omega
  | j + 7, h => by omega
theorem halves7 (c : Int) : halves c 7 = c / 128 := by simp only [halves]; omega
inductive DgH (o : List Int) : V → Map Go.Ev.Obj → Prop
  | nil : o = [] → DgH o .nilsl []
  | row (ys : List D) (m : Nat) (c : Bool) : ys = o.map (D.int .i64) → m = o.length → DgH o (.row 3968 0 0 m) [(3968, .row 1 ys 0 false c)]
def digR (x : Int) : Except Int (List Int) → Option Res
  | .error e => some (.tup [.row 0 0 0 0, .d (.int .i64 0), .d (.int .i64 e)], [.row 1 [] 0 false false])
  | .ok ds => some (.tup [.row 0 0 0 (bitsL ds).length, .d (.int .i64 (x + ds.length)), .d (.int .i64 0)], [.row 1 ((bitsL ds).map (D.int .i64)) 0 false false])
/-- What the loop leaves. -/
inductive DgJ (x : Nat) : Except Int (List Int) → Ex → St → Prop
  | err (e : Int) : DgJ x (.error e) .ret ⟨[(6, .nilsl), (7, .d (.int .i64 0)), (8, .d (.int .i64 e))], []⟩
  | ok (ds : List Int) (H : Map Go.Ev.Obj) (v : V) : DgH (bitsL ds) v H → DgJ x (.ok ds) .ret ⟨[(6, v), (7, .d (.int .i64 ((x : Int) + (ds.length : Int)))), (8, .d (.int .i64 0))], H⟩
theorem bitsL_app (a : List Int) (c : Int) : bitsL (a ++ [c]) = bitsL a ++ bits7 c := by simp [bitsL]
theorem bitsL_len (a : List Int) : (bitsL a).length = 7 * a.length := by
  induction a with
  | nil => rfl
  | cons c a ih => simp only [bitsL, List.flatMap_cons, List.length_append] at ih ⊢; rw [ih]; simp [bits7]; omega
theorem szi (v : Int) : sizedAll 1 [D.int .i64 v] = true := rfl
theorem digits_ev (fu n : Nat) (l : List Int) (hb : Bs l) (x : Nat) (size : Int) (m : Nat) (hf : 10 < fu) (h0 : 1 ≤ size) (h1 : size ≤ 64) (hm : (size + 6) / 7 = ((m + 1 : Nat) : Int)) (hx : x ≤ l.length) (hl : l.length < 1099511627000) :
    evF (G fu) (n+1) 104 [.d (.list (byt l)), .d (.int .i64 x), .d (.int .i64 size)] [] = digR x (scan (m + 1) (l.drop x)) := by
  have a1 : ¬ size < 1 := by omega
  have a2 : ¬ 64 < size := by omega
  have a3 : ¬ (x : Int) < 0 := by omega
  have a4 : ¬ (l.length : Int) < x := by omega
  have w2 := wrap_i64 (show -9223372036854775808 ≤ size + 6 by omega) (by omega)
  have w3 : (size + 6).tdiv 7 = ((m + 1 : Nat) : Int) := by rw [Int.tdiv_eq_ediv_of_nonneg (by omega), ← hm]
  have w4 := wrap_i64 (show -9223372036854775808 ≤ ((m + 1 : Nat) : Int) by omega) (by omega)
  rw [evF.eq_2, evX.eq_def, Gext, exts_no _ (f := 104) (by decide), GP, Tryd.func104]; simp only [Tryd.f104, evB]
  simp only [go_sem, Nat.reduceAdd, Nat.reduceMul, Nat.reduceSub, Nat.reduceLT, Nat.reduceLeDiff, Nat.reduceEqDiff, Nat.reduceBEq, Nat.reduceBeqDiff, Int.reduceEq, Int.reduceLT, Int.reduceLE, Int.reduceToNat, Int.reduceNeg, Int.reduceAdd, Int.reduceSub, Int.reduceMul, reduceIte, reduceCtorEq, Nat.reducePow, Nat.reduceDiv, Nat.reduceMod, Int.reduceBEq, a1, a2, a3, a4, byt_len, w2, w3, w4]
  generalize hr : loopN _ _ _ _ _ = r
  obtain ⟨y, s1, rfl, hy, hJ⟩ : ∃ y s1, r = some (y, s1) ∧ leaves y ∧ DgJ x (scan (m + 1) (l.drop x)) y s1 := by
    rw [← hr]
    refine loop_inv (J := DgJ x (scan (m + 1) (l.drop x)))
      m (fun i z => ∃ (pre : List Int) (v : V) (H : Map Go.Ev.Obj), pre.length = i ∧ x + i ≤ l.length ∧ scan (m + 1) (l.drop x) = preS pre (scan (m + 1 - i) (l.drop (x + i))) ∧ DgH (bitsL pre) v H ∧
        z = ⟨[(0, .d (.list (byt l))), (1, .d (.int .i64 ((x + i : Nat) : Int))), (9, .d (.int .i64 ((m + 1 : Nat) : Int))), (10, v), (11, .d (.int .i64 ((i + 1 : Nat) : Int)))], H⟩) ?_ ?_ fu _ (by omega)
      ⟨[], _, _, rfl, hx, by simp only [Nat.add_zero, Nat.sub_zero]; cases scan (m + 1) (l.drop x) <;> rfl, .nil rfl, rfl⟩
    · rintro i z hi ⟨pre, v, H, i1, i2, i3, hH, rfl⟩
      rcases Nat.lt_or_ge (x + i) l.length with h | h
      · have hc := hb (l.getD (x + i) 0) (by rw [List.getD_eq_getElem?_getD, List.getElem?_eq_getElem h]; exact List.getElem_mem h)
        have hg : (byt l)[x + i]? = some (.int .u8 (l.getD (x + i) 0)) := getD_map h
        have hd : l.drop (x + i) = l.getD (x + i) 0 :: l.drop (x + (i + 1)) := by
          rw [List.drop_eq_getElem_cons h, List.getD_eq_getElem?_getD, List.getElem?_eq_getElem h]; rfl
        have b1 : ¬ (l.length : Int) ≤ ((x + i : Nat) : Int) := by omega
        have b2 : 0 ≤ ((x + i : Nat) : Int) := by omega
        have W1 := wrap_i64 (show -9223372036854775808 ≤ ((x + i : Nat) : Int) + 1 by omega) (by omega)
        have W3 := wrap_i64 (show -9223372036854775808 ≤ ((i + 1 : Nat) : Int) + 1 by omega) (by omega)
        generalize l.getD (x + i) 0 = c at *
        have W2 : IntKind.wrap .i64 c = c := wrap_i64 (by omega) (by omega)
        have b3 : ¬ ((i + 1 : Nat) : Int) = ((m + 1 : Nat) : Int) := by omega
        cases hH
        all_goals simp only [go_sem, Nat.reduceAdd, Nat.reduceMul, Nat.reduceSub, Nat.reduceLT, Nat.reduceLeDiff, Nat.reduceEqDiff, Nat.reduceBEq, Nat.reduceBeqDiff, Int.reduceEq, Int.reduceLT, Int.reduceLE, Int.reduceToNat, Int.reduceNeg, Int.reduceAdd, Int.reduceSub, Int.reduceMul, reduceIte, reduceCtorEq, Nat.reducePow, Nat.reduceDiv, Nat.reduceMod, Int.reduceBEq, byt_len, b1, b2, idx, hg, W1, W2, b3]
        all_goals
          generalize hr2 : loopN _ _ _ _ _ = r2
          obtain ⟨y2, s2, rfl, hy2, v2, H2, hH2, rfl, rfl⟩ : ∃ y2 s2, r2 = some (y2, s2) ∧ leaves y2 ∧ ∃ v2 H2, DgH (bitsL pre ++ bits7 c) v2 H2 ∧ y2 = .exit 2 ∧ s2 = ⟨[(0, .d (.list (byt l))), (1, .d (.int .i64 (((x + i : Nat) : Int) + 1))), (9, .d (.int .i64 ((m + 1 : Nat) : Int))), (10, v2), (11, .d (.int .i64 ((i + 1 : Nat) : Int))), (12, .d (.int .i64 (halves c 7)))], H2⟩ := by
            rw [← hr2]
            refine loop_inv (J := fun y2 s2 => ∃ v2 H2, DgH (bitsL pre ++ bits7 c) v2 H2 ∧ y2 = .exit 2 ∧ s2 = ⟨[(0, .d (.list (byt l))), (1, .d (.int .i64 (((x + i : Nat) : Int) + 1))), (9, .d (.int .i64 ((m + 1 : Nat) : Int))), (10, v2), (11, .d (.int .i64 ((i + 1 : Nat) : Int))), (12, .d (.int .i64 (halves c 7)))], H2⟩)
              7 (fun j z => ∃ v2 H2, DgH (bitsL pre ++ (bits7 c).take j) v2 H2 ∧ z = ⟨[(0, .d (.list (byt l))), (1, .d (.int .i64 (((x + i : Nat) : Int) + 1))), (9, .d (.int .i64 ((m + 1 : Nat) : Int))), (10, v2), (11, .d (.int .i64 ((i + 1 : Nat) : Int))), (12, .d (.int .i64 (halves c j))), (13, .d (.int .i64 j))], H2⟩) ?_ ?_ fu _ (by omega)
              ⟨_, _, by rw [List.take_zero, List.append_nil]; first | exact .nil (by assumption) | exact .row _ _ _ (by assumption) (by assumption), rfl⟩
            · rintro j z hj ⟨v2, H2, hH2, rfl⟩
              have c1 : (j : Int) < 7 := by omega
              have hn := halves_nonneg hc.1 j
              have hle := halves_le hc.1 j
              have c2 : (halves c j).tmod 2 = halves c j % 2 := tmod_pos hn 2
              have c3 : (halves c j).tdiv 2 = halves c (j + 1) := tdiv_pos hn 2
              have hn' := halves_nonneg hc.1 (j + 1)
              have hle' := halves_le hc.1 (j + 1)
              have c4 : IntKind.wrap .i64 (halves c (j + 1)) = halves c (j + 1) := wrap_i64 (by omega) (by omega)
              have c5 := wrap_i64 (show -9223372036854775808 ≤ (j : Int) + 1 by omega) (by omega)
              have ht := bits7_take c hc.1 j hj
              have hlo : (bitsL pre ++ (bits7 c).take j).length < 1000 := by
                rw [List.length_append, bitsL_len, List.length_take]
                have := Nat.min_le_left j (bits7 c).length
                omega
              rw [ht, ← List.append_assoc]
              generalize bitsL pre ++ (bits7 c).take j = o at *
              cases hH2 with
              | nil h4 =>
                subst h4
                simp only [go_sem, Nat.reduceAdd, Nat.reduceMul, Nat.reduceSub, Nat.reduceLT, Nat.reduceLeDiff, Nat.reduceEqDiff, Nat.reduceBEq, Nat.reduceBeqDiff, Int.reduceEq, Int.reduceLT, Int.reduceLE, Int.reduceToNat, Int.reduceNeg, Int.reduceAdd, Int.reduceSub, Int.reduceMul, reduceIte, reduceCtorEq, Nat.reducePow, Nat.reduceDiv, Nat.reduceMod, Int.reduceBEq, c1, c2, c3, c4, c5, szi]
                exact ⟨.normal, _, rfl, _, _, .row _ _ _ rfl rfl, rfl⟩
              | row ys m c h4 h5 =>
                subst h4 h5
                have ht2 : (o.map (D.int .i64)).take o.length = o.map (D.int .i64) := List.take_of_length_le (by simp)
                have hl2 : o.length + 1 ≤ 1099511627776 := by omega
                simp only [go_sem, Nat.reduceAdd, Nat.reduceMul, Nat.reduceSub, Nat.reduceLT, Nat.reduceLeDiff, Nat.reduceEqDiff, Nat.reduceBEq, Nat.reduceBeqDiff, Int.reduceEq, Int.reduceLT, Int.reduceLE, Int.reduceToNat, Int.reduceNeg, Int.reduceAdd, Int.reduceSub, Int.reduceMul, reduceIte, reduceCtorEq, Nat.reducePow, Nat.reduceDiv, Nat.reduceMod, Int.reduceBEq, c1, c2, c3, c4, c5, szi, ht2, hl2]
                exact ⟨.normal, _, rfl, _, _, .row _ _ _ (by simp) (by simp), rfl⟩
            · rintro z ⟨v2, H2, hH2, rfl⟩
              rw [List.take_of_length_le (by simp [bits7])] at hH2
              cases hH2 with
              | nil h4 =>
                simp only [go_sem, Nat.reduceAdd, Nat.reduceMul, Nat.reduceSub, Nat.reduceLT, Nat.reduceLeDiff, Nat.reduceEqDiff, Nat.reduceBEq, Nat.reduceBeqDiff, Int.reduceEq, Int.reduceLT, Int.reduceLE, Int.reduceToNat, Int.reduceNeg, Int.reduceAdd, Int.reduceSub, Int.reduceMul, reduceIte, reduceCtorEq, Nat.reducePow, Nat.reduceDiv, Nat.reduceMod, Int.reduceBEq]
                exact ⟨_, _, rfl, trivial, _, _, .nil h4, rfl, rfl⟩
              | row ys m c h4 h5 =>
                simp only [go_sem, Nat.reduceAdd, Nat.reduceMul, Nat.reduceSub, Nat.reduceLT, Nat.reduceLeDiff, Nat.reduceEqDiff, Nat.reduceBEq, Nat.reduceBeqDiff, Int.reduceEq, Int.reduceLT, Int.reduceLE, Int.reduceToNat, Int.reduceNeg, Int.reduceAdd, Int.reduceSub, Int.reduceMul, reduceIte, reduceCtorEq, Nat.reducePow, Nat.reduceDiv, Nat.reduceMod, Int.reduceBEq]
                exact ⟨_, _, rfl, trivial, _, _, .row _ _ _ h4 h5, rfl, rfl⟩
          rw [halves7, ← bitsL_app] at *
          by_cases h8 : c < 128
          · have c6 : c / 128 = 0 := by omega
            rw [hd, show m + 1 - i = (m - i) + 1 by omega, scan, if_pos h8] at i3
            simp only [preS] at i3
            cases hH2
            all_goals
              simp only [go_sem, Nat.reduceAdd, Nat.reduceMul, Nat.reduceSub, Nat.reduceLT, Nat.reduceLeDiff, Nat.reduceEqDiff, Nat.reduceBEq, Nat.reduceBeqDiff, Int.reduceEq, Int.reduceLT, Int.reduceLE, Int.reduceToNat, Int.reduceNeg, Int.reduceAdd, Int.reduceSub, Int.reduceMul, reduceIte, reduceCtorEq, Nat.reducePow, Nat.reduceDiv, Nat.reduceMod, Int.reduceBEq, c6]
              refine ⟨_, _, rfl, ?_⟩
              rw [i3, show ((x + i : Nat) : Int) + 1 = (x : Int) + ((pre ++ [c]).length : Int) by simp [i1]; omega]
              first | exact .ok _ _ _ (.nil (by assumption)) | exact .ok _ _ _ (.row _ _ _ (by assumption) (by assumption))
          · have c6 : ¬ c / 128 = 0 := by omega
            rw [hd, show m + 1 - i = (m - i) + 1 by omega, scan, if_neg h8] at i3
            cases hH2
            all_goals
              simp only [go_sem, Nat.reduceAdd, Nat.reduceMul, Nat.reduceSub, Nat.reduceLT, Nat.reduceLeDiff, Nat.reduceEqDiff, Nat.reduceBEq, Nat.reduceBeqDiff, Int.reduceEq, Int.reduceLT, Int.reduceLE, Int.reduceToNat, Int.reduceNeg, Int.reduceAdd, Int.reduceSub, Int.reduceMul, reduceIte, reduceCtorEq, Nat.reducePow, Nat.reduceDiv, Nat.reduceMod, Int.reduceBEq, c6, W3]
              refine ⟨.normal, _, rfl, pre ++ [c], _, _, by simp [i1], by omega, ?_, ?_, rfl⟩
              · rw [i3, show m + 1 - (i + 1) = m - i by omega]
                generalize scan (m - i) (l.drop (x + (i + 1))) = R
                cases R with
                | error e => rfl
                | ok ds => simp [preS]
              · first | exact .nil (by assumption) | exact .row _ _ _ (by assumption) (by assumption)
      · have b1 : (l.length : Int) ≤ ((x + i : Nat) : Int) := by omega
        rw [show m + 1 - i = (m - i) + 1 by omega, List.drop_eq_nil_of_le h, scan] at i3
        simp only [preS] at i3
        rw [i3]
        cases hH
        all_goals
          simp only [go_sem, Nat.reduceAdd, Nat.reduceMul, Nat.reduceSub, Nat.reduceLT, Nat.reduceLeDiff, Nat.reduceEqDiff, Nat.reduceBEq, Nat.reduceBeqDiff, Int.reduceEq, Int.reduceLT, Int.reduceLE, Int.reduceToNat, Int.reduceNeg, Int.reduceAdd, Int.reduceSub, Int.reduceMul, reduceIte, reduceCtorEq, Nat.reducePow, Nat.reduceDiv, Nat.reduceMod, Int.reduceBEq, byt_len, b1]
          exact ⟨_, _, rfl, .err 2⟩
    · rintro z ⟨pre, v, H, i1, i2, i3, hH, rfl⟩
      rcases Nat.lt_or_ge (x + m) l.length with h | h
      · have hc := hb (l.getD (x + m) 0) (by rw [List.getD_eq_getElem?_getD, List.getElem?_eq_getElem h]; exact List.getElem_mem h)
        have hg : (byt l)[x + m]? = some (.int .u8 (l.getD (x + m) 0)) := getD_map h
        have hd : l.drop (x + m) = l.getD (x + m) 0 :: l.drop (x + (m + 1)) := by
          rw [List.drop_eq_getElem_cons h, List.getD_eq_getElem?_getD, List.getElem?_eq_getElem h]; rfl
        have b1 : ¬ (l.length : Int) ≤ ((x + m : Nat) : Int) := by omega
        have b2 : 0 ≤ ((x + m : Nat) : Int) := by omega
        have W1 := wrap_i64 (show -9223372036854775808 ≤ ((x + m : Nat) : Int) + 1 by omega) (by omega)
        have W3 := wrap_i64 (show -9223372036854775808 ≤ ((m + 1 : Nat) : Int) + 1 by omega) (by omega)
        generalize l.getD (x + m) 0 = c at *
        have W2 : IntKind.wrap .i64 c = c := wrap_i64 (by omega) (by omega)
        by_cases h8 : c < 128
        · have b3 : ¬ (128 : Int) ≤ c := by omega
          cases hH
          all_goals simp only [go_sem, Nat.reduceAdd, Nat.reduceMul, Nat.reduceSub, Nat.reduceLT, Nat.reduceLeDiff, Nat.reduceEqDiff, Nat.reduceBEq, Nat.reduceBeqDiff, Int.reduceEq, Int.reduceLT, Int.reduceLE, Int.reduceToNat, Int.reduceNeg, Int.reduceAdd, Int.reduceSub, Int.reduceMul, reduceIte, reduceCtorEq, Nat.reducePow, Nat.reduceDiv, Nat.reduceMod, Int.reduceBEq, byt_len, b1, b2, idx, hg, W1, W2, b3]
          all_goals
            generalize hr2 : loopN _ _ _ _ _ = r2
            obtain ⟨y2, s2, rfl, hy2, v2, H2, hH2, rfl, rfl⟩ : ∃ y2 s2, r2 = some (y2, s2) ∧ leaves y2 ∧ ∃ v2 H2, DgH (bitsL pre ++ bits7 c) v2 H2 ∧ y2 = .exit 2 ∧ s2 = ⟨[(0, .d (.list (byt l))), (1, .d (.int .i64 (((x + m : Nat) : Int) + 1))), (9, .d (.int .i64 ((m + 1 : Nat) : Int))), (10, v2), (11, .d (.int .i64 ((m + 1 : Nat) : Int))), (12, .d (.int .i64 (halves c 7)))], H2⟩ := by
              rw [← hr2]
              refine loop_inv (J := fun y2 s2 => ∃ v2 H2, DgH (bitsL pre ++ bits7 c) v2 H2 ∧ y2 = .exit 2 ∧ s2 = ⟨[(0, .d (.list (byt l))), (1, .d (.int .i64 (((x + m : Nat) : Int) + 1))), (9, .d (.int .i64 ((m + 1 : Nat) : Int))), (10, v2), (11, .d (.int .i64 ((m + 1 : Nat) : Int))), (12, .d (.int .i64 (halves c 7)))], H2⟩)
                7 (fun j z => ∃ v2 H2, DgH (bitsL pre ++ (bits7 c).take j) v2 H2 ∧ z = ⟨[(0, .d (.list (byt l))), (1, .d (.int .i64 (((x + m : Nat) : Int) + 1))), (9, .d (.int .i64 ((m + 1 : Nat) : Int))), (10, v2), (11, .d (.int .i64 ((m + 1 : Nat) : Int))), (12, .d (.int .i64 (halves c j))), (13, .d (.int .i64 j))], H2⟩) ?_ ?_ fu _ (by omega)
                ⟨_, _, by rw [List.take_zero, List.append_nil]; first | exact .nil (by assumption) | exact .row _ _ _ (by assumption) (by assumption), rfl⟩
              · rintro j z hj ⟨v2, H2, hH2, rfl⟩
                have c1 : (j : Int) < 7 := by omega
                have hn := halves_nonneg hc.1 j
                have hle := halves_le hc.1 j
                have c2 : (halves c j).tmod 2 = halves c j % 2 := tmod_pos hn 2
                have c3 : (halves c j).tdiv 2 = halves c (j + 1) := tdiv_pos hn 2
                have hn' := halves_nonneg hc.1 (j + 1)
                have hle' := halves_le hc.1 (j + 1)
                have c4 : IntKind.wrap .i64 (halves c (j + 1)) = halves c (j + 1) := wrap_i64 (by omega) (by omega)
                have c5 := wrap_i64 (show -9223372036854775808 ≤ (j : Int) + 1 by omega) (by omega)
                have ht := bits7_take c hc.1 j hj
                have hlo : (bitsL pre ++ (bits7 c).take j).length < 1000 := by
                  rw [List.length_append, bitsL_len, List.length_take]
                  have := Nat.min_le_left j (bits7 c).length
                  omega
                rw [ht, ← List.append_assoc]
                generalize bitsL pre ++ (bits7 c).take j = o at *
                cases hH2 with
                | nil h4 =>
                  subst h4
                  simp only [go_sem, Nat.reduceAdd, Nat.reduceMul, Nat.reduceSub, Nat.reduceLT, Nat.reduceLeDiff, Nat.reduceEqDiff, Nat.reduceBEq, Nat.reduceBeqDiff, Int.reduceEq, Int.reduceLT, Int.reduceLE, Int.reduceToNat, Int.reduceNeg, Int.reduceAdd, Int.reduceSub, Int.reduceMul, reduceIte, reduceCtorEq, Nat.reducePow, Nat.reduceDiv, Nat.reduceMod, Int.reduceBEq, c1, c2, c3, c4, c5, szi]
                  exact ⟨.normal, _, rfl, _, _, .row _ _ _ rfl rfl, rfl⟩
                | row ys m c h4 h5 =>
                  subst h4 h5
                  have ht2 : (o.map (D.int .i64)).take o.length = o.map (D.int .i64) := List.take_of_length_le (by simp)
                  have hl2 : o.length + 1 ≤ 1099511627776 := by omega
                  simp only [go_sem, Nat.reduceAdd, Nat.reduceMul, Nat.reduceSub, Nat.reduceLT, Nat.reduceLeDiff, Nat.reduceEqDiff, Nat.reduceBEq, Nat.reduceBeqDiff, Int.reduceEq, Int.reduceLT, Int.reduceLE, Int.reduceToNat, Int.reduceNeg, Int.reduceAdd, Int.reduceSub, Int.reduceMul, reduceIte, reduceCtorEq, Nat.reducePow, Nat.reduceDiv, Nat.reduceMod, Int.reduceBEq, c1, c2, c3, c4, c5, szi, ht2, hl2]
                  exact ⟨.normal, _, rfl, _, _, .row _ _ _ (by simp) (by simp), rfl⟩
              · rintro z ⟨v2, H2, hH2, rfl⟩
                rw [List.take_of_length_le (by simp [bits7])] at hH2
                cases hH2 with
                | nil h4 =>
                  simp only [go_sem, Nat.reduceAdd, Nat.reduceMul, Nat.reduceSub, Nat.reduceLT, Nat.reduceLeDiff, Nat.reduceEqDiff, Nat.reduceBEq, Nat.reduceBeqDiff, Int.reduceEq, Int.reduceLT, Int.reduceLE, Int.reduceToNat, Int.reduceNeg, Int.reduceAdd, Int.reduceSub, Int.reduceMul, reduceIte, reduceCtorEq, Nat.reducePow, Nat.reduceDiv, Nat.reduceMod, Int.reduceBEq]
                  exact ⟨_, _, rfl, trivial, _, _, .nil h4, rfl, rfl⟩
                | row ys m c h4 h5 =>
                  simp only [go_sem, Nat.reduceAdd, Nat.reduceMul, Nat.reduceSub, Nat.reduceLT, Nat.reduceLeDiff, Nat.reduceEqDiff, Nat.reduceBEq, Nat.reduceBeqDiff, Int.reduceEq, Int.reduceLT, Int.reduceLE, Int.reduceToNat, Int.reduceNeg, Int.reduceAdd, Int.reduceSub, Int.reduceMul, reduceIte, reduceCtorEq, Nat.reducePow, Nat.reduceDiv, Nat.reduceMod, Int.reduceBEq]
                  exact ⟨_, _, rfl, trivial, _, _, .row _ _ _ h4 h5, rfl, rfl⟩
            rw [halves7, ← bitsL_app] at *
            have c6 : c / 128 = 0 := by omega
            rw [hd, show m + 1 - m = 0 + 1 by omega, scan, if_pos h8] at i3
            simp only [preS] at i3
            cases hH2
            all_goals
                simp only [go_sem, Nat.reduceAdd, Nat.reduceMul, Nat.reduceSub, Nat.reduceLT, Nat.reduceLeDiff, Nat.reduceEqDiff, Nat.reduceBEq, Nat.reduceBeqDiff, Int.reduceEq, Int.reduceLT, Int.reduceLE, Int.reduceToNat, Int.reduceNeg, Int.reduceAdd, Int.reduceSub, Int.reduceMul, reduceIte, reduceCtorEq, Nat.reducePow, Nat.reduceDiv, Nat.reduceMod, Int.reduceBEq, c6]
                refine ⟨_, _, rfl, trivial, ?_⟩
                rw [i3, show ((x + m : Nat) : Int) + 1 = (x : Int) + ((pre ++ [c]).length : Int) by simp [i1]; omega]
                first | exact .ok _ _ _ (.nil (by assumption)) | exact .ok _ _ _ (.row _ _ _ (by assumption) (by assumption))
        · have b3 : (128 : Int) ≤ c := by omega
          rw [hd, show m + 1 - m = 0 + 1 by omega, scan, if_neg h8, scan] at i3
          simp only [preS] at i3
          rw [i3]
          cases hH
          all_goals
            simp only [go_sem, Nat.reduceAdd, Nat.reduceMul, Nat.reduceSub, Nat.reduceLT, Nat.reduceLeDiff, Nat.reduceEqDiff, Nat.reduceBEq, Nat.reduceBeqDiff, Int.reduceEq, Int.reduceLT, Int.reduceLE, Int.reduceToNat, Int.reduceNeg, Int.reduceAdd, Int.reduceSub, Int.reduceMul, reduceIte, reduceCtorEq, Nat.reducePow, Nat.reduceDiv, Nat.reduceMod, Int.reduceBEq, byt_len, b1, b2, idx, hg, W1, W2, b3]
            exact ⟨_, _, rfl, trivial, .err 3⟩
      · have b1 : (l.length : Int) ≤ ((x + m : Nat) : Int) := by omega
        rw [show m + 1 - m = 0 + 1 by omega, List.drop_eq_nil_of_le h, scan] at i3
        simp only [preS] at i3
        rw [i3]
        cases hH
        all_goals
          simp only [go_sem, Nat.reduceAdd, Nat.reduceMul, Nat.reduceSub, Nat.reduceLT, Nat.reduceLeDiff, Nat.reduceEqDiff, Nat.reduceBEq, Nat.reduceBeqDiff, Int.reduceEq, Int.reduceLT, Int.reduceLE, Int.reduceToNat, Int.reduceNeg, Int.reduceAdd, Int.reduceSub, Int.reduceMul, reduceIte, reduceCtorEq, Nat.reducePow, Nat.reduceDiv, Nat.reduceMod, Int.reduceBEq, byt_len, b1]
          exact ⟨_, _, rfl, trivial, .err 2⟩
  generalize scan (m + 1) (l.drop x) = R at *
  cases hJ with
  | err e => simp only [go_sem, Nat.reduceAdd, Nat.reduceMul, Nat.reduceSub, Nat.reduceLT, Nat.reduceLeDiff, Nat.reduceEqDiff, Nat.reduceBEq, Nat.reduceBeqDiff, Int.reduceEq, Int.reduceLT, Int.reduceLE, Int.reduceToNat, Int.reduceNeg, Int.reduceAdd, Int.reduceSub, Int.reduceMul, reduceIte, reduceCtorEq, Nat.reducePow, Nat.reduceDiv, Nat.reduceMod, Int.reduceBEq, digR]
  | ok ds H v hH =>
    cases hH with
    | nil h2 => simp only [go_sem, Nat.reduceAdd, Nat.reduceMul, Nat.reduceSub, Nat.reduceLT, Nat.reduceLeDiff, Nat.reduceEqDiff, Nat.reduceBEq, Nat.reduceBeqDiff, Int.reduceEq, Int.reduceLT, Int.reduceLE, Int.reduceToNat, Int.reduceNeg, Int.reduceAdd, Int.reduceSub, Int.reduceMul, reduceIte, reduceCtorEq, Nat.reducePow, Nat.reduceDiv, Nat.reduceMod, Int.reduceBEq, digR, h2, List.map_nil, List.length_nil]
    | row ys m c h2 h3 =>
      subst h2 h3
      simp only [go_sem, Nat.reduceAdd, Nat.reduceMul, Nat.reduceSub, Nat.reduceLT, Nat.reduceLeDiff, Nat.reduceEqDiff, Nat.reduceBEq, Nat.reduceBeqDiff, Int.reduceEq, Int.reduceLT, Int.reduceLE, Int.reduceToNat, Int.reduceNeg, Int.reduceAdd, Int.reduceSub, Int.reduceMul, reduceIte, reduceCtorEq, Nat.reducePow, Nat.reduceDiv, Nat.reduceMod, Int.reduceBEq, digR]
end Go.Proofs.YtklnkkejkeelaaaDoor.E
