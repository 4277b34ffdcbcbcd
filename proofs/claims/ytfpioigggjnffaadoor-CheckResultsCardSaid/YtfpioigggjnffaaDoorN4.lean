/- N4, N5, N6, N7, Q18. -/
import Derived.Test.YtfpioigggjnffaaDoorC11
import Derived.Test.YtfpioigggjnffaaDoorQ17
set_option linter.unnecessarySimpa false
set_option linter.unusedSimpArgs false
set_option linter.unusedVariables false
/- The document's matches: as the walk's. Plain Lean. -/
set_option autoImplicit false
set_option linter.unusedSimpArgs false
set_option linter.unusedVariables false
namespace Go.Proofs.YtfpioigggjnffaaDoor.E
open Go.Ev
/-- One more that opens: where its parts are, and what is one's. -/
def rmPut (k : Nat) (r : Int × Int) (M : List Nest) : List Nest := if 0 ≤ r.2 then (M.set k (r.2, r.1)).set r.2.toNat (-1, r.1) else M.set k (r.2, r.1)
def rmUse (r : Int × Int) (U : List Bool) : List Bool := if 0 ≤ r.2 then (U.set r.1.toNat true).set r.2.toNat true else U.set r.1.toNat true
def rmGo (l : List TInstr) : Nat → Nat → List Nest → List Bool → Option (List Nest × List Bool)
  | 0, _, M, U => some (M, U)
  | j + 1, k, M, U => if opensB (opAt l k) then (if (endF l k).1 < 0 then none else rmGo l j (k + 1) (rmPut k (endF l k) M) (rmUse (endF l k) U)) else rmGo l j (k + 1) M U
def notUsed (l : List TInstr) (U : List Bool) (k : Nat) : Bool := (decide (opAt l k = 5) || decide (opAt l k = 11)) && !(U.getD k false)
def rMatches (l : List TInstr) : Option (List Nest) := match rmGo l l.length 0 (List.replicate l.length (-1, -1)) (List.replicate l.length false) with
  | none => none
  | some (M, U) => match first (notUsed l U) 0 l.length with
    | none => some M
    | some _ => none
theorem rmPut_len (k : Nat) (r : Int × Int) (M : List Nest) : (rmPut k r M).length = M.length := by unfold rmPut; split <;> simp
theorem rmUse_len (r : Int × Int) (U : List Bool) : (rmUse r U).length = U.length := by unfold rmUse; split <;> simp
theorem getD_set_ne {α : Type} {L : List α} {i k : Nat} {x d : α} (h : i ≠ k) : (L.set k x).getD i d = L.getD i d := by
  simp only [List.getD_eq_getElem?_getD, List.getElem?_set_ne (Ne.symm h)]
theorem getD_set_self {α : Type} {L : List α} {k : Nat} {x d : α} (h : k < L.length) : (L.set k x).getD k d = x := by
  simp [List.getD_eq_getElem?_getD, h]
theorem rmUse_get {r : Int × Int} {U : List Bool} {m : Nat} (h : (rmUse r U).getD m false = true) : U.getD m false = true ∨ (0 ≤ r.1 ∧ r.1 = m) ∨ r.1.toNat = m ∨ r.2 = m := by
  unfold rmUse at h
  split at h
  · by_cases h1 : m = r.2.toNat
    · right; right; right; omega
    · rw [getD_set_ne h1] at h
      by_cases h2 : m = r.1.toNat
      · right; right; left; exact h2.symm
      · rw [getD_set_ne h2] at h; exact .inl h
  · by_cases h2 : m = r.1.toNat
    · right; right; left; exact h2.symm
    · rw [getD_set_ne h2] at h; exact .inl h
theorem rmGo_inv (l : List TInstr) : ∀ (j k : Nat) (M : List Nest) (U : List Bool) (M' : List Nest) (U' : List Bool), k + j = l.length → M.length = l.length → U.length = l.length →
    (∀ m, U.getD m false = true → ∃ i, i < l.length ∧ opensB (opAt l i) = true ∧ ((endF l i).1 = m ∨ (endF l i).2 = m)) → (∀ i, i < k → opensB (opAt l i) = true → 0 ≤ (endF l i).1) → rmGo l j k M U = some (M', U') →
    M'.length = l.length ∧ U'.length = l.length ∧ (∀ m, U'.getD m false = true → ∃ i, i < l.length ∧ opensB (opAt l i) = true ∧ ((endF l i).1 = m ∨ (endF l i).2 = m)) ∧ (∀ i, i < l.length → opensB (opAt l i) = true → 0 ≤ (endF l i).1)
  | 0, k, M, U, M', U', hk, hM, hU, h1, h2, h => by
    simp only [rmGo, Option.some.injEq, Prod.mk.injEq] at h
    obtain ⟨rfl, rfl⟩ := h
    exact ⟨hM, hU, h1, fun i hi ho => h2 i (by omega) ho⟩
  | j + 1, k, M, U, M', U', hk, hM, hU, h1, h2, h => by
    rw [rmGo] at h
    by_cases ho : opensB (opAt l k) = true
    · rw [if_pos ho] at h
      by_cases he : (endF l k).1 < 0
      · rw [if_pos he] at h; cases h
      · rw [if_neg he] at h
        refine rmGo_inv l j (k + 1) _ _ M' U' (by omega) (by rw [rmPut_len]; exact hM) (by rw [rmUse_len]; exact hU) (fun m hm => ?_) (fun i hi hoi => ?_) h
        · rcases rmUse_get hm with q | q | q | q
          · exact h1 m q
          · exact ⟨k, by omega, ho, .inl q.2⟩
          · exact ⟨k, by omega, ho, .inl (by omega)⟩
          · exact ⟨k, by omega, ho, .inr q⟩
        · by_cases e : i = k
          · subst e; omega
          · exact h2 i (by omega) hoi
    · rw [if_neg ho] at h
      refine rmGo_inv l j (k + 1) M U M' U' (by omega) hM hU h1 (fun i hi hoi => ?_) h
      by_cases e : i = k
      · subst e; exact absurd hoi ho
      · exact h2 i (by omega) hoi
theorem rMatches_conv {l : List TInstr} {M : List Nest} (h : rMatches l = some M) : walkOk l = true := by
  unfold rMatches at h
  split at h
  · cases h
  · rename_i M' U' hg
    split at h
    · rename_i hf
      obtain ⟨h1, h2, h3, h4⟩ := rmGo_inv l l.length 0 _ _ M' U' (by omega) (by simp) (by simp) (fun m hm => by
        simp only [List.getD_eq_getElem?_getD, List.getElem?_replicate] at hm
        split at hm <;> cases hm) (fun i hi => by omega) hg
      refine walkOk_by h4 (fun m hm h5 => ?_)
      have := first_none.1 hf m (by omega) (by omega)
      unfold notUsed at this
      have hu : U'.getD m false = true := by
        cases hq : U'.getD m false with
        | true => rfl
        | false => rw [hq] at this; rcases h5 with h5 | h5 <;> simp [h5] at this
      exact h3 m hu
    · cases h
section
variable {l : List TInstr} (h : walkOk l = true)
include h
/-- What M holds when the places ahead of k are told. -/
def mid (l : List TInstr) (k i : Nat) : Prop := (i < k ∧ opensB (opAt l i) = true) ∨ ∃ j, j < k ∧ opensB (opAt l j) = true ∧ (endF l j).2 = i
theorem rmGo_ok : ∀ (j k : Nat) (M : List Nest) (U : List Bool), k + j = l.length → M.length = l.length → U.length = l.length →
    (∀ i, i < l.length → (mid l k i → M.getD i n0 = (matchesF l).getD i n0) ∧ (¬ mid l k i → M.getD i n0 = (-1, -1))) →
    (∀ i, i < k → opensB (opAt l i) = true → ∀ m : Nat, ((endF l i).1 = m ∨ (endF l i).2 = m) → U.getD m false = true) →
    ∃ U', rmGo l j k M U = some (matchesF l, U') ∧ ∀ i, i < l.length → opensB (opAt l i) = true → ∀ m : Nat, ((endF l i).1 = m ∨ (endF l i).2 = m) → U'.getD m false = true
  | 0, k, M, U, hk, hM, hU, h1, h2 => by
    have e : M = matchesF l := by
      have hml := matchesF_len l h
      apply List.ext_getElem (by omega)
      intro i a b
      have hi : i < l.length := by omega
      have hg : M.getD i n0 = (matchesF l).getD i n0 := by
        by_cases hm : mid l k i
        · exact (h1 i hi).1 hm
        · rw [(h1 i hi).2 hm]
          refine (match_rest h ?_ (fun j hj ho e => hm (.inr ⟨j, by omega, ho, e⟩))).symm
          cases hq : opensB (opAt l i) with
          | false => rfl
          | true => exact absurd (.inl ⟨by omega, hq⟩) hm
      simpa [List.getD_eq_getElem?_getD, a, b] using hg
    rw [rmGo, e]
    exact ⟨U, rfl, fun i hi ho m hm => h2 i (by omega) ho m hm⟩
  | j + 1, k, M, U, hk, hM, hU, h1, h2 => by
    rw [rmGo]
    by_cases ho : opensB (opAt l k) = true
    · rw [if_pos ho]
      obtain ⟨e, o, g1, g2, g3, g4, g5⟩ := end_is h (show k < l.length by omega) ho
      have hf := endAt_facts g3 g4
      rw [if_neg (by rw [g1]; show ¬ (e : Int) < 0; omega)]
      -- the else's place
      have hom : o = -1 ∨ ∃ m : Nat, o = m ∧ k < m ∧ m < l.length ∧ opAt l m = 5 := by
        obtain ⟨_, _, _, _, _, _, q⟩ := hf
        exact q.imp id (fun ⟨m, a1, a2, a3, a4, _⟩ => ⟨m, a1, a2, by omega, a4⟩)
      clear hf
      refine rmGo_ok j (k + 1) _ _ (by omega) (by rw [rmPut_len]; exact hM) (by rw [rmUse_len]; exact hU) (fun i hi => ?_) (fun i hi hoi m hm => ?_)
      · rw [g1]
        unfold rmPut
        simp only
        rcases hom with rfl | ⟨m, rfl, m1, m2, m3⟩
        · rw [if_neg (by decide)]
          by_cases e1 : i = k
          · subst e1
            rw [getD_set_self (by omega), g5]
            exact ⟨fun _ => rfl, fun hn => absurd (.inl ⟨by omega, ho⟩) hn⟩
          · rw [getD_set_ne e1]
            have : mid l (k + 1) i ↔ mid l k i := by
              unfold mid
              constructor
              · rintro (⟨a, b⟩ | ⟨jj, a, b, c⟩)
                · exact .inl ⟨by omega, b⟩
                · by_cases ej : jj = k
                  · subst ej; rw [g1] at c; simp only at c; omega
                  · exact .inr ⟨jj, by omega, b, c⟩
              · rintro (⟨a, b⟩ | ⟨jj, a, b, c⟩)
                · exact .inl ⟨by omega, b⟩
                · exact .inr ⟨jj, by omega, b, c⟩
            rw [this]
            exact h1 i hi
        · rw [if_pos (by omega), Int.toNat_natCast]
          by_cases e2 : i = m
          · subst e2
            rw [getD_set_self (by simp; omega), match_else h (show k < l.length by omega) ho g1]
            exact ⟨fun _ => rfl, fun hn => absurd (.inr ⟨k, by omega, ho, by rw [g1]⟩) hn⟩
          · rw [getD_set_ne e2]
            by_cases e1 : i = k
            · subst e1
              rw [getD_set_self (by omega), g5]
              exact ⟨fun _ => rfl, fun hn => absurd (.inl ⟨by omega, ho⟩) hn⟩
            · rw [getD_set_ne e1]
              have : mid l (k + 1) i ↔ mid l k i := by
                unfold mid
                constructor
                · rintro (⟨a, b⟩ | ⟨jj, a, b, c⟩)
                  · exact .inl ⟨by omega, b⟩
                  · by_cases ej : jj = k
                    · subst ej; rw [g1] at c; simp only at c; omega
                    · exact .inr ⟨jj, by omega, b, c⟩
                · rintro (⟨a, b⟩ | ⟨jj, a, b, c⟩)
                  · exact .inl ⟨by omega, b⟩
                  · exact .inr ⟨jj, by omega, b, c⟩
              rw [this]
              exact h1 i hi
      · rw [g1]
        unfold rmUse
        simp only [Int.toNat_natCast]
        by_cases ei : i = k
        · subst ei
          rw [g1] at hm
          simp only at hm
          rcases hom with rfl | ⟨m', rfl, m1, m2, m3⟩
          · rw [if_neg (by decide)]
            obtain rfl : e = m := by omega
            exact getD_set_self (by omega)
          · rw [if_pos (by omega), Int.toNat_natCast]
            by_cases e2 : m = m'
            · subst e2; exact getD_set_self (by simp; omega)
            · rw [getD_set_ne e2]
              obtain rfl : e = m := by omega
              exact getD_set_self (by omega)
        · have := h2 i (by omega) hoi m hm
          split
          · by_cases e2 : m = o.toNat
            · subst e2; rename_i q
              rcases hom with rfl | ⟨m', rfl, m1, m2, m3⟩
              · omega
              · rw [Int.toNat_natCast]; exact getD_set_self (by simp; omega)
            · rw [getD_set_ne e2]
              by_cases e3 : m = e
              · subst e3; exact getD_set_self (by omega)
              · rw [getD_set_ne e3]; exact this
          · by_cases e3 : m = e
            · subst e3; exact getD_set_self (by omega)
            · rw [getD_set_ne e3]; exact this
    · rw [if_neg ho]
      refine rmGo_ok j (k + 1) M U (by omega) hM hU (fun i hi => ?_) (fun i hi hoi m hm => ?_)
      · have : mid l (k + 1) i ↔ mid l k i := by
          unfold mid
          constructor
          · rintro (⟨a, b⟩ | ⟨jj, a, b, c⟩)
            · by_cases e : i = k
              · subst e; exact absurd b ho
              · exact .inl ⟨by omega, b⟩
            · by_cases ej : jj = k
              · subst ej; exact absurd b ho
              · exact .inr ⟨jj, by omega, b, c⟩
          · rintro (⟨a, b⟩ | ⟨jj, a, b, c⟩)
            · exact .inl ⟨by omega, b⟩
            · exact .inr ⟨jj, by omega, b, c⟩
        rw [this]
        exact h1 i hi
      · by_cases e : i = k
        · subst e; exact absurd hoi ho
        · exact h2 i (by omega) hoi m hm
theorem rMatches_ok : rMatches l = some (matchesF l) := by
  obtain ⟨U', h1, h2⟩ := rmGo_ok h l.length 0 (List.replicate l.length (-1, -1)) (List.replicate l.length false) (by omega) (by simp) (by simp) (fun i hi => ⟨fun q => by
    rcases q with ⟨a, _⟩ | ⟨j, a, _⟩ <;> omega, fun _ => by simp [List.getD_eq_getElem?_getD, hi]⟩) (fun i hi => by omega)
  unfold rMatches
  rw [h1]
  simp only
  have : first (notUsed l U') 0 l.length = none := first_none.2 fun m _ hm => by
    unfold notUsed
    by_cases h5 : opAt l m = 5 ∨ opAt l m = 11
    · obtain ⟨j, a, b, c⟩ := used_all h (show m < l.length by omega) h5
      rw [h2 j a b m c]
      simp
    · simp only [not_or] at h5
      simp [h5.1, h5.2]
  rw [this]
end
theorem rMatches_is (l : List TInstr) : rMatches l = if walkOk l = true then some (matchesF l) else none := by
  by_cases h : walkOk l = true
  · rw [if_pos h, rMatches_ok h]
  · rw [if_neg h]
    cases hm : rMatches l with
    | none => rfl
    | some M => exact absurd (rMatches_conv hm) h
end Go.Proofs.YtfpioigggjnffaaDoor.E

/- The reading of the document's Matches (avocetref06.Matches). -/
set_option autoImplicit false
set_option maxRecDepth 100000
set_option maxHeartbeats 8000000
set_option linter.unusedSimpArgs false
set_option linter.unusedVariables false
set_option pp.maxSteps 20000
namespace Go.Proofs.YtfpioigggjnffaaDoor.E
open Go.Ev
theorem rep_get {N i : Nat} {x z : D} (h : i < N) : (rep N i x z)[i]? = some z := by
  unfold rep
  rw [List.getElem?_append_right (by simp)]
  simp [List.getElem?_replicate]
  omega
theorem rep_set {N i : Nat} {x z : D} (h : i < N) : (rep N i x z).set i x = rep N (i + 1) x z := by
  unfold rep
  apply List.ext_getElem?
  intro m
  by_cases e : i = m
  · subst e
    rw [List.getElem?_set_self (by simp; omega), List.getElem?_append_left (by simp)]
    simp
  · rw [List.getElem?_set_ne e]
    by_cases h2 : m < i
    · rw [List.getElem?_append_left (by simp; omega), List.getElem?_append_left (by simp; omega)]
      simp [List.getElem?_replicate, h2]; omega
    · rw [List.getElem?_append_right (by simp; omega), List.getElem?_append_right (by simp; omega)]
      simp only [List.getElem?_replicate, List.length_replicate]
      split <;> split <;> first | rfl | omega
theorem rep_full {N : Nat} {x z : D} : rep N N x z = List.replicate N x := by simp [rep]
structure RmS where
  j : Nat
  k : Nat
  M : List Nest
  U : List Bool
def rmSt (L : List D) (N k : Nat) (X Y : List D) : St := ⟨[(0, .d (.list L)), (4, .row 896 0 0 N), (5, .row 1088 0 0 N), (7, .d (.int .i64 k))], [(896, .row 2 X 0 false false), (1088, .row 1 Y 0 false false)]⟩
def rmJ (L : List D) (N : Nat) (r : Option (List Nest × List Bool)) (y : Ex) (s : St) : Prop := match r with
  | none => y = .ret ∧ s = ⟨[(2, .nilsl), (3, .d (.bool false))], []⟩
  | some (M, U) => y = .exit 2 ∧ M.length = N ∧ U.length = N ∧ s = ⟨[(0, .d (.list L)), (4, .row 896 0 0 N), (5, .row 1088 0 0 N)], [(896, .row 2 (M.map nestD) 0 false false), (1088, .row 1 (U.map D.bool) 0 false false)]⟩
theorem rMatches_ev (fu n : Nat) (l : List TInstr) (hf : l.length < fu) (hs : l.length < 100000) :
    evF (G fu) (n+3) 19 [.d (.list (l.map TInstr.d))] [] = some (.tup [.row 0 0 0 (matchesF l).length, .d (.bool (walkOk l))], [.row 2 ((matchesF l).map nestD) 0 false false]) := by
  have hm := rMatches_is l
  unfold rMatches at hm
  rw [evF.eq_2, evX.eq_def, Gext, exts_no _ (f := 19) (by decide), GP, Tryd.func19]; simp only [Tryd.f19, evB]
  simp only [go_sem, Nat.reduceAdd, Nat.reduceMul, Nat.reduceSub, Nat.reduceLT, Nat.reduceLeDiff, Nat.reduceEqDiff, Nat.reduceBEq, Nat.reduceBeqDiff, Int.reduceEq, Int.reduceLT, Int.reduceLE, Int.reduceToNat, Int.reduceNeg, Int.reduceAdd, Int.reduceSub, Int.reduceMul, reduceIte, reduceCtorEq, Nat.reducePow, Nat.reduceDiv, Nat.reduceMod, Int.reduceBEq, List.length_map, show l.length * 17 ≤ 1099511627776 by omega, show l.length * 2 ≤ 1099511627776 by omega]
  rw [loop_some l.length (fun i => ⟨[(0, .d (.list (l.map TInstr.d))), (4, .row 896 0 0 l.length), (5, .row 1088 0 0 l.length), (6, .d (.int .i64 i))], [(896, .row 2 (rep l.length i (nestD (-1, -1)) (nestD (0, 0))) 0 false false), (1088, .row 1 (List.replicate l.length (.bool false)) 0 false false)]⟩)
    (.exit 0, ⟨[(0, .d (.list (l.map TInstr.d))), (4, .row 896 0 0 l.length), (5, .row 1088 0 0 l.length)], [(896, .row 2 (rep l.length l.length (nestD (-1, -1)) (nestD (0, 0))) 0 false false), (1088, .row 1 (List.replicate l.length (.bool false)) 0 false false)]⟩) trivial hf ?_]
  case hs =>
    intro i hi
    have hiI : (i : Int) < l.length := by omega
    have hg := rep_get (x := nestD (-1, -1)) (z := nestD (0, 0)) hi
    have hset := rep_set (x := nestD (-1, -1)) (z := nestD (0, 0)) hi
    have Wi := wrap_i64 (show -9223372036854775808 ≤ (i : Int) + 1 by omega) (by omega)
    simp only [nestD] at hg hset ⊢
    simp only [go_sem, Nat.reduceAdd, Nat.reduceMul, Nat.reduceSub, Nat.reduceLT, Nat.reduceLeDiff, Nat.reduceEqDiff, Nat.reduceBEq, Nat.reduceBeqDiff, Int.reduceEq, Int.reduceLT, Int.reduceLE, Int.reduceToNat, Int.reduceNeg, Int.reduceAdd, Int.reduceSub, Int.reduceMul, reduceIte, reduceCtorEq, Nat.reducePow, Nat.reduceDiv, Nat.reduceMod, Int.reduceBEq, List.length_map, hiI, hg, hset, Wi]
    rfl
  case he => simp only [go_sem, Nat.reduceAdd, Nat.reduceMul, Nat.reduceSub, Nat.reduceLT, Nat.reduceLeDiff, Nat.reduceEqDiff, Nat.reduceBEq, Nat.reduceBeqDiff, Int.reduceEq, Int.reduceLT, Int.reduceLE, Int.reduceToNat, Int.reduceNeg, Int.reduceAdd, Int.reduceSub, Int.reduceMul, reduceIte, reduceCtorEq, Nat.reducePow, Nat.reduceDiv, Nat.reduceMod, Int.reduceBEq, List.length_map, Int.lt_irrefl]
  rotate_left
  · simp [rep, nestD]
  rw [rep_full]
  simp only [go_sem, Nat.reduceAdd, Nat.reduceMul, Nat.reduceSub, Nat.reduceLT, Nat.reduceLeDiff, Nat.reduceEqDiff, Nat.reduceBEq, Nat.reduceBeqDiff, Int.reduceEq, Int.reduceLT, Int.reduceLE, Int.reduceToNat, Int.reduceNeg, Int.reduceAdd, Int.reduceSub, Int.reduceMul, reduceIte, reduceCtorEq, Nat.reducePow, Nat.reduceDiv, Nat.reduceMod, Int.reduceBEq]
  generalize hr : loopN _ _ _ _ _ = r
  obtain ⟨y, s1, rfl, hy, hJ⟩ : ∃ y s1, r = some (y, s1) ∧ leaves y ∧ rmJ (l.map TInstr.d) l.length (rmGo l l.length 0 (List.replicate l.length (-1, -1)) (List.replicate l.length false)) y s1 := by
    rw [← hr]
    clear hr r
    refine loop_rel (σ := RmS) (fun e s => e.k + e.j = l.length ∧ e.M.length = l.length ∧ e.U.length = l.length ∧ ∃ X Y, X = e.M.map nestD ∧ Y = e.U.map D.bool ∧ s = rmSt (l.map TInstr.d) l.length e.k X Y)
      (fun e y s1 => rmJ (l.map TInstr.d) l.length (rmGo l e.j e.k e.M e.U) y s1) (fun e => e.j) ?_ fu ⟨l.length, 0, List.replicate l.length (-1, -1), List.replicate l.length false⟩ _ hf ⟨by show 0 + l.length = _; omega, by simp, by simp, _, _, rfl, rfl, by simp [rmSt]⟩
    rintro ⟨j, k, M, U⟩ s ⟨h1, h2, h3, X, Y, hX, hY, rfl⟩
    simp only at h1 h2 h3 hX hY
    unfold rmSt
    cases j with
    | zero =>
      have hk : ¬ (k : Int) < l.length := by omega
      simp only [go_sem, Nat.reduceAdd, Nat.reduceMul, Nat.reduceSub, Nat.reduceLT, Nat.reduceLeDiff, Nat.reduceEqDiff, Nat.reduceBEq, Nat.reduceBeqDiff, Int.reduceEq, Int.reduceLT, Int.reduceLE, Int.reduceToNat, Int.reduceNeg, Int.reduceAdd, Int.reduceSub, Int.reduceMul, reduceIte, reduceCtorEq, Nat.reducePow, Nat.reduceDiv, Nat.reduceMod, Int.reduceBEq, List.length_map, hk]
      exact ⟨_, _, rfl, rfl, h2, h3, by rw [hX, hY]⟩
    | succ j =>
      have hkl : k < l.length := by omega
      have hk : (k : Int) < l.length := by omega
      have hg : (l.map TInstr.d)[k]? = some (l.getD k in0).d := getD_map hkl
      have q := rOpens_ev fu (n+1) (l.getD k in0)
      have ho : (l.getD k in0).op = opAt l k := rfl
      have E := rEnd_ev fu n l k hkl hf hs
      have Wk := wrap_i64 (show -9223372036854775808 ≤ (k : Int) + 1 by omega) (by omega)
      have go : ∀ (M' : List Nest) (U' : List Bool) (X' Y' : List D) (he : rmGo l (j + 1) k M U = rmGo l j (k + 1) M' U') (hM : M'.length = l.length) (hU : U'.length = l.length) (hX' : X' = M'.map nestD) (hY' : Y' = U'.map D.bool), ∃ x s1, some (Ex.normal, rmSt (l.map TInstr.d) l.length (k + 1) X' Y') = some (x, s1) ∧ match x with
          | .normal => ∃ e' : RmS, (e'.k + e'.j = l.length ∧ e'.M.length = l.length ∧ e'.U.length = l.length ∧ ∃ X Y, X = e'.M.map nestD ∧ Y = e'.U.map D.bool ∧ s1 = rmSt (l.map TInstr.d) l.length e'.k X Y) ∧ e'.j < j + 1 ∧ ∀ (y : Ex) (s : St), rmJ (l.map TInstr.d) l.length (rmGo l e'.j e'.k e'.M e'.U) y s → rmJ (l.map TInstr.d) l.length (rmGo l (j + 1) k M U) y s
          | x => rmJ (l.map TInstr.d) l.length (rmGo l (j + 1) k M U) x s1 :=
        fun M' U' X' Y' he hM hU hX' hY' => ⟨.normal, _, rfl, ⟨j, k + 1, M', U'⟩, ⟨by show k + 1 + j = _; omega, hM, hU, X', Y', hX', hY', rfl⟩, by show j < j + 1; omega, fun y s h => by rw [he]; exact h⟩
      unfold rmSt at go
      have hRM : rmGo l (j + 1) k M U = if opensB (opAt l k) then (if (endF l k).1 < 0 then none else rmGo l j (k + 1) (rmPut k (endF l k) M) (rmUse (endF l k) U)) else rmGo l j (k + 1) M U := rfl
      simp only [TInstr.d] at q hg
      rw [ho] at q hg
      generalize hop : opAt l k = op at *
      cases hb : opensB op with
      | false =>
        rw [hb] at q hRM
        simp only [go_sem, Nat.reduceAdd, Nat.reduceMul, Nat.reduceSub, Nat.reduceLT, Nat.reduceLeDiff, Nat.reduceEqDiff, Nat.reduceBEq, Nat.reduceBeqDiff, Int.reduceEq, Int.reduceLT, Int.reduceLE, Int.reduceToNat, Int.reduceNeg, Int.reduceAdd, Int.reduceSub, Int.reduceMul, reduceIte, reduceCtorEq, Nat.reducePow, Nat.reduceDiv, Nat.reduceMod, Int.reduceBEq, List.length_map, hk, idx, hg, q, Wk]
        exact go M U X Y hRM h2 h3 hX hY
      | true =>
        rw [hb] at q hRM
        rw [if_pos rfl] at hRM
        have hXk : X[k]? = some (nestD (M.getD k n0)) := by rw [hX]; exact getD_map (d := n0) (by omega)
        rcases endF_range l hkl with he | ⟨e, o, g1, g2, g3, g4, g5⟩
        · rw [he] at E hRM
          rw [if_pos (by decide)] at hRM
          simp only [go_sem, Nat.reduceAdd, Nat.reduceMul, Nat.reduceSub, Nat.reduceLT, Nat.reduceLeDiff, Nat.reduceEqDiff, Nat.reduceBEq, Nat.reduceBeqDiff, Int.reduceEq, Int.reduceLT, Int.reduceLE, Int.reduceToNat, Int.reduceNeg, Int.reduceAdd, Int.reduceSub, Int.reduceMul, reduceIte, reduceCtorEq, Nat.reducePow, Nat.reduceDiv, Nat.reduceMod, Int.reduceBEq, List.length_map, hk, idx, hg, q, E, Wk]
          exact ⟨.ret, _, rfl, by rw [hRM]; exact ⟨rfl, rfl⟩⟩
        · rw [g1] at E hRM
          rw [if_neg (by show ¬ (e : Int) < 0; omega)] at hRM
          have he0 : ¬ (e : Int) < 0 := by omega
          have heI : (e : Int) < l.length := by omega
          have hYe : Y[e]? = some (.bool (U.getD e false)) := by rw [hY]; exact getD_map (d := false) (by omega)
          simp only [nestD] at hXk
          rcases g5 with rfl | ⟨m, rfl, m1, m2, m3⟩
          · simp only [go_sem, Nat.reduceAdd, Nat.reduceMul, Nat.reduceSub, Nat.reduceLT, Nat.reduceLeDiff, Nat.reduceEqDiff, Nat.reduceBEq, Nat.reduceBeqDiff, Int.reduceEq, Int.reduceLT, Int.reduceLE, Int.reduceToNat, Int.reduceNeg, Int.reduceAdd, Int.reduceSub, Int.reduceMul, reduceIte, reduceCtorEq, Nat.reducePow, Nat.reduceDiv, Nat.reduceMod, Int.reduceBEq, List.length_map, hk, idx, hg, q, E, Wk, hXk, hYe, he0, heI]
            refine go _ _ _ _ hRM (by rw [rmPut_len]; exact h2) (by rw [rmUse_len]; exact h3) ?_ ?_
            · rw [hX]; simp [rmPut, List.map_set, nestD]
            · rw [hY]; simp [rmUse, List.map_set]
          · have hm0 : (0 : Int) ≤ m := by omega
            have hmI : (m : Int) < l.length := by omega
            have hXm : (X.set k (.agg [.int .i64 m, .int .i64 e]))[m]? = some (nestD (M.getD m n0)) := by
              rw [List.getElem?_set_ne (by omega), hX]; exact getD_map (d := n0) (by omega)
            have hYm : (Y.set e (.bool true))[m]? = some (.bool (U.getD m false)) := by
              rw [List.getElem?_set_ne (by omega), hY]; exact getD_map (d := false) (by omega)
            simp only [nestD] at hXm
            simp only [go_sem, Nat.reduceAdd, Nat.reduceMul, Nat.reduceSub, Nat.reduceLT, Nat.reduceLeDiff, Nat.reduceEqDiff, Nat.reduceBEq, Nat.reduceBeqDiff, Int.reduceEq, Int.reduceLT, Int.reduceLE, Int.reduceToNat, Int.reduceNeg, Int.reduceAdd, Int.reduceSub, Int.reduceMul, reduceIte, reduceCtorEq, Nat.reducePow, Nat.reduceDiv, Nat.reduceMod, Int.reduceBEq, List.length_map, hk, idx, hg, q, E, Wk, hXk, hYe, he0, heI, hXm, hYm, hmI]
            refine go _ _ _ _ hRM (by rw [rmPut_len]; exact h2) (by rw [rmUse_len]; exact h3) ?_ ?_
            · rw [hX]; simp [rmPut, List.map_set, nestD]
            · rw [hY]; simp [rmUse, List.map_set]
  cases hg : rmGo l l.length 0 (List.replicate l.length (-1, -1)) (List.replicate l.length false) with
  | none =>
    rw [hg] at hJ hm
    obtain ⟨rfl, rfl⟩ := hJ
    have hw : walkOk l = false := by
      cases hw : walkOk l with
      | false => rfl
      | true => rw [hw] at hm; cases hm
    simp only [go_sem, Nat.reduceAdd, Nat.reduceMul, Nat.reduceSub, Nat.reduceLT, Nat.reduceLeDiff, Nat.reduceEqDiff, Nat.reduceBEq, Nat.reduceBeqDiff, Int.reduceEq, Int.reduceLT, Int.reduceLE, Int.reduceToNat, Int.reduceNeg, Int.reduceAdd, Int.reduceSub, Int.reduceMul, reduceIte, reduceCtorEq, Nat.reducePow, Nat.reduceDiv, Nat.reduceMod, Int.reduceBEq, hw, matchesF_no l hw, List.map_nil, List.length_nil]
  | some p =>
    obtain ⟨M, U⟩ := p
    rw [hg] at hJ hm
    obtain ⟨rfl, j1, j2, rfl⟩ := hJ
    dsimp only at hm
    simp only [go_sem, Nat.reduceAdd, Nat.reduceMul, Nat.reduceSub, Nat.reduceLT, Nat.reduceLeDiff, Nat.reduceEqDiff, Nat.reduceBEq, Nat.reduceBeqDiff, Int.reduceEq, Int.reduceLT, Int.reduceLE, Int.reduceToNat, Int.reduceNeg, Int.reduceAdd, Int.reduceSub, Int.reduceMul, reduceIte, reduceCtorEq, Nat.reducePow, Nat.reduceDiv, Nat.reduceMod, Int.reduceBEq]
    rw [loop_scan l.length (fun k => ⟨[(0, .d (.list (l.map TInstr.d))), (4, .row 896 0 0 l.length), (5, .row 1088 0 0 l.length), (10, .d (.int .i64 k))], [(896, .row 2 (M.map nestD) 0 false false), (1088, .row 1 (U.map D.bool) 0 false false)]⟩) (notUsed l U) (fun _ => (.ret, ⟨[(2, .nilsl), (3, .d (.bool false))], []⟩)) (.exit 4, ⟨[(4, .row 896 0 0 l.length)], [(896, .row 2 (M.map nestD) 0 false false)]⟩) hf (fun _ => trivial) trivial ?_]
    case hs =>
      intro k hkl
      have hk : (k : Int) < l.length := by omega
      have hgk : (l.map TInstr.d)[k]? = some (l.getD k in0).d := getD_map hkl
      have hu : (U.map D.bool)[k]? = some (.bool (U.getD k false)) := getD_map (d := false) (by omega)
      have Wk := wrap_i64 (show -9223372036854775808 ≤ (k : Int) + 1 by omega) (by omega)
      have ho : (l.getD k in0).op = opAt l k := rfl
      unfold notUsed
      simp only [TInstr.d] at hgk
      rw [ho] at hgk
      generalize opAt l k = op at *
      generalize U.getD k false = u at *
      by_cases c5 : op = 5
      · subst c5
        cases u <;> simp only [go_sem, Nat.reduceAdd, Nat.reduceMul, Nat.reduceSub, Nat.reduceLT, Nat.reduceLeDiff, Nat.reduceEqDiff, Nat.reduceBEq, Nat.reduceBeqDiff, Int.reduceEq, Int.reduceLT, Int.reduceLE, Int.reduceToNat, Int.reduceNeg, Int.reduceAdd, Int.reduceSub, Int.reduceMul, reduceIte, reduceCtorEq, Nat.reducePow, Nat.reduceDiv, Nat.reduceMod, Int.reduceBEq, List.length_map, hk, idx, hgk, hu, Wk] <;> rfl
      · by_cases c11 : op = 11
        · subst c11
          cases u <;> simp only [go_sem, Nat.reduceAdd, Nat.reduceMul, Nat.reduceSub, Nat.reduceLT, Nat.reduceLeDiff, Nat.reduceEqDiff, Nat.reduceBEq, Nat.reduceBeqDiff, Int.reduceEq, Int.reduceLT, Int.reduceLE, Int.reduceToNat, Int.reduceNeg, Int.reduceAdd, Int.reduceSub, Int.reduceMul, reduceIte, reduceCtorEq, Nat.reducePow, Nat.reduceDiv, Nat.reduceMod, Int.reduceBEq, List.length_map, hk, idx, hgk, hu, Wk] <;> rfl
        · simp only [go_sem, Nat.reduceAdd, Nat.reduceMul, Nat.reduceSub, Nat.reduceLT, Nat.reduceLeDiff, Nat.reduceEqDiff, Nat.reduceBEq, Nat.reduceBeqDiff, Int.reduceEq, Int.reduceLT, Int.reduceLE, Int.reduceToNat, Int.reduceNeg, Int.reduceAdd, Int.reduceSub, Int.reduceMul, reduceIte, reduceCtorEq, Nat.reducePow, Nat.reduceDiv, Nat.reduceMod, Int.reduceBEq, List.length_map, hk, idx, hgk, hu, c5, c11, Wk]
          rfl
    case he => simp only [go_sem, Nat.reduceAdd, Nat.reduceMul, Nat.reduceSub, Nat.reduceLT, Nat.reduceLeDiff, Nat.reduceEqDiff, Nat.reduceBEq, Nat.reduceBeqDiff, Int.reduceEq, Int.reduceLT, Int.reduceLE, Int.reduceToNat, Int.reduceNeg, Int.reduceAdd, Int.reduceSub, Int.reduceMul, reduceIte, reduceCtorEq, Nat.reducePow, Nat.reduceDiv, Nat.reduceMod, Int.reduceBEq, List.length_map, Int.lt_irrefl]
    rotate_left
    · rfl
    unfold Go.Ev.scan
    cases hf : first (notUsed l U) 0 l.length with
    | none =>
      rw [hf] at hm
      have hw : walkOk l = true := by
        cases hw : walkOk l with
        | true => rfl
        | false => rw [hw] at hm; cases hm
      rw [hw] at hm
      simp only [if_true, Option.some.injEq] at hm
      rw [hw, ← hm, j1]
      simp only [go_sem, Nat.reduceAdd, Nat.reduceMul, Nat.reduceSub, Nat.reduceLT, Nat.reduceLeDiff, Nat.reduceEqDiff, Nat.reduceBEq, Nat.reduceBeqDiff, Int.reduceEq, Int.reduceLT, Int.reduceLE, Int.reduceToNat, Int.reduceNeg, Int.reduceAdd, Int.reduceSub, Int.reduceMul, reduceIte, reduceCtorEq, Nat.reducePow, Nat.reduceDiv, Nat.reduceMod, Int.reduceBEq]
    | some i =>
      rw [hf] at hm
      have hw : walkOk l = false := by
        cases hw : walkOk l with
        | false => rfl
        | true => rw [hw] at hm; cases hm
      simp only [go_sem, Nat.reduceAdd, Nat.reduceMul, Nat.reduceSub, Nat.reduceLT, Nat.reduceLeDiff, Nat.reduceEqDiff, Nat.reduceBEq, Nat.reduceBeqDiff, Int.reduceEq, Int.reduceLT, Int.reduceLE, Int.reduceToNat, Int.reduceNeg, Int.reduceAdd, Int.reduceSub, Int.reduceMul, reduceIte, reduceCtorEq, Nat.reducePow, Nat.reduceDiv, Nat.reduceMod, Int.reduceBEq, hw, matchesF_no l hw, List.map_nil, List.length_nil]
end Go.Proofs.YtfpioigggjnffaaDoor.E

/- The reading of the document's around, Depths, Target (avocetref06). -/
set_option autoImplicit false
set_option maxRecDepth 100000
set_option maxHeartbeats 8000000
set_option linter.unusedSimpArgs false
set_option linter.unusedVariables false
set_option pp.maxSteps 20000
namespace Go.Proofs.YtfpioigggjnffaaDoor.E
open Go.Ev
/-- What the place a stands in, of the places ahead of j, the last one first. -/
def arIn (l : List TInstr) (M : List Nest) (a : Int) (j : Nat) : Bool := opensB (opAt l j) && decide (a < (M.getD j n0).2) && !decide ((M.getD j n0).1 = a)
def arGo (l : List TInstr) (M : List Nest) (a : Int) : Nat → List Int
  | 0 => []
  | j + 1 => if arIn l M a j then (j : Int) :: arGo l M a j else arGo l M a j
theorem arGo_len (l : List TInstr) (M : List Nest) (a : Int) : ∀ j, (arGo l M a j).length ≤ j
  | 0 => Nat.le_refl _
  | j + 1 => by
    have := arGo_len l M a j
    rw [arGo]; split
    · simp; omega
    · omega
theorem ar_encl {l : List TInstr} (h : walkOk l = true) {k : Nat} (hk : k < l.length) {st : List Nest} (hst : walkSt l k = some st) : arGo l (matchesF l) (k : Int) k = (encl l k st).map (·.1) := by
  have go : ∀ j, j ≤ k → arGo l (matchesF l) (k : Int) j = ((encl l k st).filter (fun p => decide (p.1 < (j : Int)))).map (·.1) := by
    intro j
    induction j with
    | zero =>
      intro _
      have : (encl l k st).filter (fun p => decide (p.1 < ((0 : Nat) : Int))) = [] := by
        rw [List.filter_eq_nil_iff]
        intro p hp
        have := walkSt_in hst p (encl_sub hp)
        unfold nestIn at this
        simp; omega
      rw [this]
      rfl
    | succ j ih =>
      intro hj
      have ih := ih (by omega)
      rw [arGo]
      rcases filter_succ (j := j) (encl_sorted hst) with ⟨p, hp, hpj, e⟩ | ⟨hno, e⟩
      · have hpo := walkSt_opens h (by omega) hst p (encl_sub hp)
        rw [hpj, Int.toNat_natCast] at hpo
        have hc := (encl_mem h (by omega) hk hpo hst).2 ⟨p, hp, hpj⟩
        have : arIn l (matchesF l) (k : Int) j = true := by
          unfold arIn
          rw [hpo]
          simp only [Bool.true_and, Bool.and_eq_true, decide_eq_true_eq, Bool.not_eq_true', decide_eq_false_iff_not]
          omega
        rw [this, if_pos rfl, e, ih, List.map_cons, hpj]
      · have : arIn l (matchesF l) (k : Int) j = false := by
          unfold arIn
          by_cases ho : opensB (opAt l j) = true
          · have hc : ((matchesF l).getD j n0).2 ≤ (k : Int) ∨ ((matchesF l).getD j n0).1 = (k : Int) := by
              rcases Classical.em (((matchesF l).getD j n0).2 ≤ (k : Int) ∨ ((matchesF l).getD j n0).1 = (k : Int)) with q | q
              · exact q
              · obtain ⟨p, hp, hpj⟩ := (encl_mem h (by omega) hk ho hst).1 q
                exact absurd hpj (hno p hp)
            rcases hc with hc | hc
            · have : decide ((k : Int) < ((matchesF l).getD j n0).2) = false := decide_eq_false (by omega)
              rw [this, Bool.and_false, Bool.false_and]
            · rw [decide_eq_true hc, Bool.not_true, Bool.and_false]
          · rw [Bool.eq_false_iff.2 ho]; rfl
        rw [this, if_neg (by decide), e, ih]
  rw [go k (Nat.le_refl _)]
  congr 1
  rw [List.filter_eq_self]
  intro p hp
  have := walkSt_in hst p (encl_sub hp)
  unfold nestIn at this
  simp; omega
theorem szj (v : Int) : sizedAll 1 [D.int .i64 v] = true := rfl
inductive ArH (o : List Int) : V → Map Go.Ev.Obj → Prop
  | nil : o = [] → ArH o .nilsl []
  | row (ys : List D) (m : Nat) (c : Bool) : ys = o.map (D.int .i64) → m = o.length → ArH o (.row 2688 0 0 m) [(2688, .row 1 ys 0 false c)]
structure ArS where
  j : Nat
  o : List Int
theorem around_ev (fu n : Nat) (l : List TInstr) (M : List Nest) (a : Nat) (ha : a ≤ l.length) (hM : M.length = l.length) (hf : l.length < fu) (hs : l.length < 100000) :
    evF (G fu) (n+2) 20 [.d (.list (l.map TInstr.d)), .d (.list (M.map nestD)), .d (.int .i64 a)] [] = some (.row 0 0 0 (arGo l M a a).length, [.row 1 ((arGo l M a a).map (D.int .i64)) 0 false false]) := by
  have W0 := wrap_i64 (show -9223372036854775808 ≤ (a : Int) - 1 by omega) (by omega)
  rw [evF.eq_2, evX.eq_def, Gext, exts_no _ (f := 20) (by decide), GP, Tryd.func20]; simp only [Tryd.f20, evB]
  simp only [go_sem, Nat.reduceAdd, Nat.reduceMul, Nat.reduceSub, Nat.reduceLT, Nat.reduceLeDiff, Nat.reduceEqDiff, Nat.reduceBEq, Nat.reduceBeqDiff, Int.reduceEq, Int.reduceLT, Int.reduceLE, Int.reduceToNat, Int.reduceNeg, Int.reduceAdd, Int.reduceSub, Int.reduceMul, reduceIte, reduceCtorEq, Nat.reducePow, Nat.reduceDiv, Nat.reduceMod, Int.reduceBEq, W0]
  generalize hr : loopN _ _ _ _ _ = r
  obtain ⟨y, s1, rfl, hy, rfl, v, H, hH, rfl⟩ : ∃ y s1, r = some (y, s1) ∧ leaves y ∧ (y = .exit 0 ∧ ∃ v H, ArH (arGo l M a a) v H ∧ s1 = ⟨[(7, v)], H⟩) := by
    rw [← hr]
    clear hr r
    refine loop_rel (σ := ArS) (fun e s => e.j ≤ a ∧ e.o ++ arGo l M a e.j = arGo l M a a ∧ ∃ v H, ArH e.o v H ∧ s = ⟨[(0, .d (.list (l.map TInstr.d))), (1, .d (.list (M.map nestD))), (2, .d (.int .i64 a)), (7, v), (8, .d (.int .i64 ((e.j : Int) - 1)))], H⟩)
      (fun e y s1 => y = .exit 0 ∧ ∃ v H, ArH (arGo l M a a) v H ∧ s1 = ⟨[(7, v)], H⟩) (fun e => e.j) ?_ fu ⟨a, []⟩ _ (by show a < fu; omega) ⟨Nat.le_refl _, rfl, _, _, .nil rfl, rfl⟩
    rintro ⟨j, o⟩ s ⟨h1, h2, v, H, hH, rfl⟩
    simp only at h1 h2 hH
    cases j with
    | zero =>
      have e1 : ((0 : Nat) : Int) - 1 = -1 := rfl
      rw [arGo, List.append_nil] at h2
      subst h2
      cases hH with
      | nil h3 =>
        simp only [go_sem, Nat.reduceAdd, Nat.reduceMul, Nat.reduceSub, Nat.reduceLT, Nat.reduceLeDiff, Nat.reduceEqDiff, Nat.reduceBEq, Nat.reduceBeqDiff, Int.reduceEq, Int.reduceLT, Int.reduceLE, Int.reduceToNat, Int.reduceNeg, Int.reduceAdd, Int.reduceSub, Int.reduceMul, reduceIte, reduceCtorEq, Nat.reducePow, Nat.reduceDiv, Nat.reduceMod, Int.reduceBEq, e1]
        exact ⟨_, _, rfl, rfl, _, _, .nil h3, rfl⟩
      | row ys m c h3 h4 =>
        simp only [go_sem, Nat.reduceAdd, Nat.reduceMul, Nat.reduceSub, Nat.reduceLT, Nat.reduceLeDiff, Nat.reduceEqDiff, Nat.reduceBEq, Nat.reduceBeqDiff, Int.reduceEq, Int.reduceLT, Int.reduceLE, Int.reduceToNat, Int.reduceNeg, Int.reduceAdd, Int.reduceSub, Int.reduceMul, reduceIte, reduceCtorEq, Nat.reducePow, Nat.reduceDiv, Nat.reduceMod, Int.reduceBEq, e1]
        exact ⟨_, _, rfl, rfl, _, _, .row _ _ _ h3 h4, rfl⟩
    | succ j =>
      have hjl : j < l.length := by omega
      have e1 : ((j + 1 : Nat) : Int) - 1 = j := by omega
      have j0 : (0 : Int) ≤ j := by omega
      have hg : (l.map TInstr.d)[j]? = some (l.getD j in0).d := getD_map hjl
      have hm : (M.map nestD)[j]? = some (nestD (M.getD j n0)) := getD_map (d := n0) (by omega)
      have q := rOpens_ev fu n (l.getD j in0)
      have ho : (l.getD j in0).op = opAt l j := rfl
      have Wj := wrap_i64 (show -9223372036854775808 ≤ (j : Int) - 1 by omega) (by omega)
      have hol : o.length + (j + 1) ≤ 300000 := by
        have := congrArg List.length h2
        rw [List.length_append] at this
        have := arGo_len l M a a
        omega
      have go : ∀ (o' : List Int) (v' : V) (H' : Map Go.Ev.Obj) (he : o' ++ arGo l M a j = arGo l M a a) (hH' : ArH o' v' H'), ∃ x s1, some (Ex.normal, (⟨[(0, .d (.list (l.map TInstr.d))), (1, .d (.list (M.map nestD))), (2, .d (.int .i64 a)), (7, v'), (8, .d (.int .i64 ((j : Int) - 1)))], H'⟩ : St)) = some (x, s1) ∧ match x with
          | .normal => ∃ e' : ArS, (e'.j ≤ a ∧ e'.o ++ arGo l M a e'.j = arGo l M a a ∧ ∃ v H, ArH e'.o v H ∧ s1 = ⟨[(0, .d (.list (l.map TInstr.d))), (1, .d (.list (M.map nestD))), (2, .d (.int .i64 a)), (7, v), (8, .d (.int .i64 ((e'.j : Int) - 1)))], H⟩) ∧ e'.j < j + 1 ∧ ∀ (y : Ex) (s : St), (y = .exit 0 ∧ ∃ v H, ArH (arGo l M a a) v H ∧ s = ⟨[(7, v)], H⟩) → (y = .exit 0 ∧ ∃ v H, ArH (arGo l M a a) v H ∧ s = ⟨[(7, v)], H⟩)
          | x => x = .exit 0 ∧ ∃ v H, ArH (arGo l M a a) v H ∧ s1 = ⟨[(7, v)], H⟩ :=
        fun o' v' H' he hH' => ⟨.normal, _, rfl, ⟨j, o'⟩, ⟨by show j ≤ a; omega, he, v', H', hH', rfl⟩, by show j < j + 1; omega, fun y s h => h⟩
      have hA : arGo l M a (j + 1) = if arIn l M a j then (j : Int) :: arGo l M a j else arGo l M a j := rfl
      rw [hA] at h2
      unfold arIn at h2
      simp only [TInstr.d, nestD] at q hg hm
      rw [ho] at q hg
      rw [e1]
      have ht : (o.map (D.int .i64)).take o.length = o.map (D.int .i64) := List.take_of_length_le (by simp)
      have hl2 : o.length + 1 ≤ 1099511627776 := by omega
      have jI : (j : Int) < l.length := by omega
      have jM : (j : Int) < M.length := by omega
      generalize opAt l j = op at *
      generalize M.getD j n0 = p at *
      obtain ⟨p1, p2⟩ := p
      simp only at h2 hm
      cases hb : opensB op with
      | false =>
        rw [hb] at q h2
        simp only [Bool.false_and, Bool.false_eq_true, if_false] at h2
        cases hH with
        | nil h3 => simp only [go_sem, Nat.reduceAdd, Nat.reduceMul, Nat.reduceSub, Nat.reduceLT, Nat.reduceLeDiff, Nat.reduceEqDiff, Nat.reduceBEq, Nat.reduceBeqDiff, Int.reduceEq, Int.reduceLT, Int.reduceLE, Int.reduceToNat, Int.reduceNeg, Int.reduceAdd, Int.reduceSub, Int.reduceMul, reduceIte, reduceCtorEq, Nat.reducePow, Nat.reduceDiv, Nat.reduceMod, Int.reduceBEq, j0, jI, jM, idx, hg, hm, q, Wj, List.length_map]; exact go _ _ _ h2 (.nil h3)
        | row ys m c h3 h4 => simp only [go_sem, Nat.reduceAdd, Nat.reduceMul, Nat.reduceSub, Nat.reduceLT, Nat.reduceLeDiff, Nat.reduceEqDiff, Nat.reduceBEq, Nat.reduceBeqDiff, Int.reduceEq, Int.reduceLT, Int.reduceLE, Int.reduceToNat, Int.reduceNeg, Int.reduceAdd, Int.reduceSub, Int.reduceMul, reduceIte, reduceCtorEq, Nat.reducePow, Nat.reduceDiv, Nat.reduceMod, Int.reduceBEq, j0, jI, jM, idx, hg, hm, q, Wj, List.length_map]; exact go _ _ _ h2 (.row _ _ _ h3 h4)
      | true =>
        rw [hb] at q h2
        by_cases c1 : (a : Int) < p2
        · by_cases c2 : p1 = a
          · simp only [c2, decide_true, Bool.not_true, Bool.and_false, Bool.false_eq_true, if_false] at h2
            cases hH with
            | nil h3 => simp only [go_sem, Nat.reduceAdd, Nat.reduceMul, Nat.reduceSub, Nat.reduceLT, Nat.reduceLeDiff, Nat.reduceEqDiff, Nat.reduceBEq, Nat.reduceBeqDiff, Int.reduceEq, Int.reduceLT, Int.reduceLE, Int.reduceToNat, Int.reduceNeg, Int.reduceAdd, Int.reduceSub, Int.reduceMul, reduceIte, reduceCtorEq, Nat.reducePow, Nat.reduceDiv, Nat.reduceMod, Int.reduceBEq, j0, jI, jM, idx, hg, hm, q, Wj, c1, c2, List.length_map]; exact go _ _ _ h2 (.nil h3)
            | row ys m c h3 h4 => simp only [go_sem, Nat.reduceAdd, Nat.reduceMul, Nat.reduceSub, Nat.reduceLT, Nat.reduceLeDiff, Nat.reduceEqDiff, Nat.reduceBEq, Nat.reduceBeqDiff, Int.reduceEq, Int.reduceLT, Int.reduceLE, Int.reduceToNat, Int.reduceNeg, Int.reduceAdd, Int.reduceSub, Int.reduceMul, reduceIte, reduceCtorEq, Nat.reducePow, Nat.reduceDiv, Nat.reduceMod, Int.reduceBEq, j0, jI, jM, idx, hg, hm, q, Wj, c1, c2, List.length_map]; exact go _ _ _ h2 (.row _ _ _ h3 h4)
          · simp only [c1, c2, decide_true, decide_false, Bool.not_false, Bool.and_true, if_true] at h2
            have h2' : (o ++ [(j : Int)]) ++ arGo l M a j = arGo l M a a := by rw [← h2]; simp
            cases hH with
            | nil h3 =>
              subst h3
              simp only [go_sem, Nat.reduceAdd, Nat.reduceMul, Nat.reduceSub, Nat.reduceLT, Nat.reduceLeDiff, Nat.reduceEqDiff, Nat.reduceBEq, Nat.reduceBeqDiff, Int.reduceEq, Int.reduceLT, Int.reduceLE, Int.reduceToNat, Int.reduceNeg, Int.reduceAdd, Int.reduceSub, Int.reduceMul, reduceIte, reduceCtorEq, Nat.reducePow, Nat.reduceDiv, Nat.reduceMod, Int.reduceBEq, j0, jI, jM, idx, hg, hm, q, Wj, c1, c2, szj, List.length_map]
              exact go _ _ _ h2' (.row _ _ _ rfl rfl)
            | row ys m c h3 h4 =>
              subst h3 h4
              simp only [go_sem, Nat.reduceAdd, Nat.reduceMul, Nat.reduceSub, Nat.reduceLT, Nat.reduceLeDiff, Nat.reduceEqDiff, Nat.reduceBEq, Nat.reduceBeqDiff, Int.reduceEq, Int.reduceLT, Int.reduceLE, Int.reduceToNat, Int.reduceNeg, Int.reduceAdd, Int.reduceSub, Int.reduceMul, reduceIte, reduceCtorEq, Nat.reducePow, Nat.reduceDiv, Nat.reduceMod, Int.reduceBEq, j0, jI, jM, idx, hg, hm, q, Wj, c1, c2, szj, ht, hl2, List.length_map]
              exact go _ _ _ h2' (.row _ _ _ (by simp) (by simp))
        · simp only [c1, decide_false, Bool.and_false, Bool.false_and, Bool.false_eq_true, if_false] at h2
          cases hH with
          | nil h3 => simp only [go_sem, Nat.reduceAdd, Nat.reduceMul, Nat.reduceSub, Nat.reduceLT, Nat.reduceLeDiff, Nat.reduceEqDiff, Nat.reduceBEq, Nat.reduceBeqDiff, Int.reduceEq, Int.reduceLT, Int.reduceLE, Int.reduceToNat, Int.reduceNeg, Int.reduceAdd, Int.reduceSub, Int.reduceMul, reduceIte, reduceCtorEq, Nat.reducePow, Nat.reduceDiv, Nat.reduceMod, Int.reduceBEq, j0, jI, jM, idx, hg, hm, q, Wj, c1, List.length_map]; exact go _ _ _ h2 (.nil h3)
          | row ys m c h3 h4 => simp only [go_sem, Nat.reduceAdd, Nat.reduceMul, Nat.reduceSub, Nat.reduceLT, Nat.reduceLeDiff, Nat.reduceEqDiff, Nat.reduceBEq, Nat.reduceBeqDiff, Int.reduceEq, Int.reduceLT, Int.reduceLE, Int.reduceToNat, Int.reduceNeg, Int.reduceAdd, Int.reduceSub, Int.reduceMul, reduceIte, reduceCtorEq, Nat.reducePow, Nat.reduceDiv, Nat.reduceMod, Int.reduceBEq, j0, jI, jM, idx, hg, hm, q, Wj, c1, List.length_map]; exact go _ _ _ h2 (.row _ _ _ h3 h4)
  cases hH with
  | nil h3 => simp only [go_sem, Nat.reduceAdd, Nat.reduceMul, Nat.reduceSub, Nat.reduceLT, Nat.reduceLeDiff, Nat.reduceEqDiff, Nat.reduceBEq, Nat.reduceBeqDiff, Int.reduceEq, Int.reduceLT, Int.reduceLE, Int.reduceToNat, Int.reduceNeg, Int.reduceAdd, Int.reduceSub, Int.reduceMul, reduceIte, reduceCtorEq, Nat.reducePow, Nat.reduceDiv, Nat.reduceMod, Int.reduceBEq, h3, List.map_nil, List.length_nil]
  | row ys m c h3 h4 =>
    subst h3 h4
    simp only [go_sem, Nat.reduceAdd, Nat.reduceMul, Nat.reduceSub, Nat.reduceLT, Nat.reduceLeDiff, Nat.reduceEqDiff, Nat.reduceBEq, Nat.reduceBeqDiff, Int.reduceEq, Int.reduceLT, Int.reduceLE, Int.reduceToNat, Int.reduceNeg, Int.reduceAdd, Int.reduceSub, Int.reduceMul, reduceIte, reduceCtorEq, Nat.reducePow, Nat.reduceDiv, Nat.reduceMod, Int.reduceBEq]
end Go.Proofs.YtfpioigggjnffaaDoor.E

/- The reading of the document's Depths, Target, Sane (avocetref06). -/
set_option autoImplicit false
set_option maxRecDepth 100000
set_option maxHeartbeats 8000000
set_option linter.unusedSimpArgs false
set_option linter.unusedVariables false
set_option pp.maxSteps 20000
namespace Go.Proofs.YtfpioigggjnffaaDoor.E
open Go.Ev
theorem ar_depth {l : List TInstr} (h : walkOk l = true) {k : Nat} (hk : k < l.length) : ((arGo l (matchesF l) (k : Int) k).length : Int) = (depthsF l).getD k 0 := by
  obtain ⟨st, hst⟩ := walkSt_ok h (k := k) (by omega)
  rw [ar_encl h hk hst, depthsF_get h hk hst, List.length_map]
theorem take_snoc {L : List Int} {k : Nat} (h : k < L.length) : L.take (k + 1) = L.take k ++ [L.getD k 0] := by
  rw [List.take_add_one, List.getD_eq_getElem?_getD, List.getElem?_eq_getElem h]; rfl
inductive DpH (o : List Int) : V → Map Go.Ev.Obj → Prop
  | nil : o = [] → DpH o .nilsl []
  | row (ys : List D) (m : Nat) (c : Bool) : ys = o.map (D.int .i64) → m = o.length → DpH o (.row 1856 0 0 m) [(1856, .row 1 ys 0 false c)]
theorem rDepths_ev (fu n : Nat) (l : List TInstr) (hf : l.length < fu) (hs : l.length < 100000) : evF (G fu) (n+4) 12 [.d (.list (l.map TInstr.d))] [] = some (.row 0 0 0 (depthsF l).length, [.row 1 ((depthsF l).map (D.int .i64)) 0 false false]) := by
  have hM := rMatches_ev fu n l hf hs
  cases hw : walkOk l with
  | false =>
    rw [hw, matchesF_no l hw] at hM
    rw [depthsF_no l hw]
    simp only [List.map_nil, List.length_nil] at hM
    rw [evF.eq_2, evX.eq_def, Gext, exts_no _ (f := 12) (by decide), GP, Tryd.func12]; simp only [Tryd.f12, evB]
    simp only [go_sem, Nat.reduceAdd, Nat.reduceMul, Nat.reduceSub, Nat.reduceLT, Nat.reduceLeDiff, Nat.reduceEqDiff, Nat.reduceBEq, Nat.reduceBeqDiff, Int.reduceEq, Int.reduceLT, Int.reduceLE, Int.reduceToNat, Int.reduceNeg, Int.reduceAdd, Int.reduceSub, Int.reduceMul, reduceIte, reduceCtorEq, Nat.reducePow, Nat.reduceDiv, Nat.reduceMod, Int.reduceBEq, hM]
    rw [loop_some 0 (fun k => ⟨[(0, .d (.list (l.map TInstr.d))), (3, .row 640 0 0 0), (4, .d (.bool false)), (5, .nilsl), (6, .d (.int .i64 k))], [(640, .row 2 [] 0 false false)]⟩) (.exit 0, ⟨[(5, .nilsl)], []⟩) trivial (by omega) ?_]
    case hs => intro k hk; omega
    case he =>
      by_cases hl : 0 < l.length
      · have hlI : (0 : Int) < l.length := by omega
        simp only [go_sem, Nat.reduceAdd, Nat.reduceMul, Nat.reduceSub, Nat.reduceLT, Nat.reduceLeDiff, Nat.reduceEqDiff, Nat.reduceBEq, Nat.reduceBeqDiff, Int.reduceEq, Int.reduceLT, Int.reduceLE, Int.reduceToNat, Int.reduceNeg, Int.reduceAdd, Int.reduceSub, Int.reduceMul, reduceIte, reduceCtorEq, Nat.reducePow, Nat.reduceDiv, Nat.reduceMod, Int.reduceBEq, List.length_map, hlI]
      · have hlI : ¬ (0 : Int) < l.length := by omega
        simp only [go_sem, Nat.reduceAdd, Nat.reduceMul, Nat.reduceSub, Nat.reduceLT, Nat.reduceLeDiff, Nat.reduceEqDiff, Nat.reduceBEq, Nat.reduceBeqDiff, Int.reduceEq, Int.reduceLT, Int.reduceLE, Int.reduceToNat, Int.reduceNeg, Int.reduceAdd, Int.reduceSub, Int.reduceMul, reduceIte, reduceCtorEq, Nat.reducePow, Nat.reduceDiv, Nat.reduceMod, Int.reduceBEq, List.length_map, hlI]
    · simp only [go_sem, Nat.reduceAdd, Nat.reduceMul, Nat.reduceSub, Nat.reduceLT, Nat.reduceLeDiff, Nat.reduceEqDiff, Nat.reduceBEq, Nat.reduceBeqDiff, Int.reduceEq, Int.reduceLT, Int.reduceLE, Int.reduceToNat, Int.reduceNeg, Int.reduceAdd, Int.reduceSub, Int.reduceMul, reduceIte, reduceCtorEq, Nat.reducePow, Nat.reduceDiv, Nat.reduceMod, Int.reduceBEq, List.map_nil, List.length_nil]
    · rfl
  | true =>
    have hml := matchesF_len l hw
    have hdl := depthsF_len l hw
    have hA := fun k (hk : k < l.length) => around_ev fu (n+1) l (matchesF l) k (by omega) hml hf hs
    have hD := fun k (hk : k < l.length) => ar_depth hw hk
    have hP := fun k (hk : k < l.length) => take_snoc (L := depthsF l) (k := k) (by omega)
    rw [hw, hml] at hM
    have hmt : ((matchesF l).map nestD).take l.length = (matchesF l).map nestD := List.take_of_length_le (by simp; omega)
    rw [evF.eq_2, evX.eq_def, Gext, exts_no _ (f := 12) (by decide), GP, Tryd.func12]; simp only [Tryd.f12, evB]
    simp only [go_sem, Nat.reduceAdd, Nat.reduceMul, Nat.reduceSub, Nat.reduceLT, Nat.reduceLeDiff, Nat.reduceEqDiff, Nat.reduceBEq, Nat.reduceBeqDiff, Int.reduceEq, Int.reduceLT, Int.reduceLE, Int.reduceToNat, Int.reduceNeg, Int.reduceAdd, Int.reduceSub, Int.reduceMul, reduceIte, reduceCtorEq, Nat.reducePow, Nat.reduceDiv, Nat.reduceMod, Int.reduceBEq, hM]
    generalize hr : loopN _ _ _ _ _ = r
    obtain ⟨y, s1, rfl, hy, rfl, v, H, hH, rfl⟩ : ∃ y s1, r = some (y, s1) ∧ leaves y ∧ (y = .exit 0 ∧ ∃ v H, DpH (depthsF l) v H ∧ s1 = ⟨[(5, v)], H⟩) := by
      rw [← hr]
      clear hr r
      refine loop_inv (J := fun y s1 => y = .exit 0 ∧ ∃ v H, DpH (depthsF l) v H ∧ s1 = ⟨[(5, v)], H⟩)
        l.length (fun k z => ∃ v H fz, DpH ((depthsF l).take k) v H ∧ z = ⟨[(0, .d (.list (l.map TInstr.d))), (3, .row 640 0 0 l.length), (4, .d (.bool true)), (5, v), (6, .d (.int .i64 k))], (640, .row 2 ((matchesF l).map nestD) 0 fz false) :: H⟩) ?_ ?_ fu _ hf ⟨_, _, false, .nil rfl, rfl⟩
      · rintro k z hk ⟨v, H, fz, hH, rfl⟩
        have hkI : (k : Int) < l.length := by omega
        have Wk := wrap_i64 (show -9223372036854775808 ≤ (k : Int) + 1 by omega) (by omega)
        have hA := hA k hk
        have hD := hD k hk
        rw [hP k hk, ← hD]
        have hol : ((depthsF l).take k).length + 1 ≤ 1099511627776 := by rw [List.length_take]; omega
        generalize (depthsF l).take k = o at *
        generalize arGo l (matchesF l) (k : Int) k = A at *
        have ht : (o.map (D.int .i64)).take o.length = o.map (D.int .i64) := List.take_of_length_le (by simp)
        cases fz
        all_goals
          cases hH with
          | nil h3 =>
            subst h3
            simp only [go_sem, Nat.reduceAdd, Nat.reduceMul, Nat.reduceSub, Nat.reduceLT, Nat.reduceLeDiff, Nat.reduceEqDiff, Nat.reduceBEq, Nat.reduceBeqDiff, Int.reduceEq, Int.reduceLT, Int.reduceLE, Int.reduceToNat, Int.reduceNeg, Int.reduceAdd, Int.reduceSub, Int.reduceMul, reduceIte, reduceCtorEq, Nat.reducePow, Nat.reduceDiv, Nat.reduceMod, Int.reduceBEq, List.length_map, hkI, Wk, hmt, hA, szj]
            exact ⟨.normal, _, rfl, _, _, true, .row _ _ _ rfl rfl, rfl⟩
          | row ys m c h3 h4 =>
            subst h3 h4
            simp only [go_sem, Nat.reduceAdd, Nat.reduceMul, Nat.reduceSub, Nat.reduceLT, Nat.reduceLeDiff, Nat.reduceEqDiff, Nat.reduceBEq, Nat.reduceBeqDiff, Int.reduceEq, Int.reduceLT, Int.reduceLE, Int.reduceToNat, Int.reduceNeg, Int.reduceAdd, Int.reduceSub, Int.reduceMul, reduceIte, reduceCtorEq, Nat.reducePow, Nat.reduceDiv, Nat.reduceMod, Int.reduceBEq, List.length_map, hkI, Wk, hmt, hA, szj, ht, hol]
            exact ⟨.normal, _, rfl, _, _, true, .row _ _ _ (by simp) (by simp), rfl⟩
      · rintro z ⟨v, H, fz, hH, rfl⟩
        rw [List.take_of_length_le (by omega)] at hH
        cases hH with
        | nil h3 =>
          simp only [go_sem, Nat.reduceAdd, Nat.reduceMul, Nat.reduceSub, Nat.reduceLT, Nat.reduceLeDiff, Nat.reduceEqDiff, Nat.reduceBEq, Nat.reduceBeqDiff, Int.reduceEq, Int.reduceLT, Int.reduceLE, Int.reduceToNat, Int.reduceNeg, Int.reduceAdd, Int.reduceSub, Int.reduceMul, reduceIte, reduceCtorEq, Nat.reducePow, Nat.reduceDiv, Nat.reduceMod, Int.reduceBEq, List.length_map, Int.lt_irrefl]
          exact ⟨_, _, rfl, trivial, rfl, _, _, .nil h3, rfl⟩
        | row ys m c h3 h4 =>
          simp only [go_sem, Nat.reduceAdd, Nat.reduceMul, Nat.reduceSub, Nat.reduceLT, Nat.reduceLeDiff, Nat.reduceEqDiff, Nat.reduceBEq, Nat.reduceBeqDiff, Int.reduceEq, Int.reduceLT, Int.reduceLE, Int.reduceToNat, Int.reduceNeg, Int.reduceAdd, Int.reduceSub, Int.reduceMul, reduceIte, reduceCtorEq, Nat.reducePow, Nat.reduceDiv, Nat.reduceMod, Int.reduceBEq, List.length_map, Int.lt_irrefl]
          exact ⟨_, _, rfl, trivial, rfl, _, _, .row _ _ _ h3 h4, rfl⟩
    cases hH with
    | nil h3 => simp only [go_sem, Nat.reduceAdd, Nat.reduceMul, Nat.reduceSub, Nat.reduceLT, Nat.reduceLeDiff, Nat.reduceEqDiff, Nat.reduceBEq, Nat.reduceBeqDiff, Int.reduceEq, Int.reduceLT, Int.reduceLE, Int.reduceToNat, Int.reduceNeg, Int.reduceAdd, Int.reduceSub, Int.reduceMul, reduceIte, reduceCtorEq, Nat.reducePow, Nat.reduceDiv, Nat.reduceMod, Int.reduceBEq, h3, List.map_nil, List.length_nil]
    | row ys m c h3 h4 =>
      subst h3 h4
      simp only [go_sem, Nat.reduceAdd, Nat.reduceMul, Nat.reduceSub, Nat.reduceLT, Nat.reduceLeDiff, Nat.reduceEqDiff, Nat.reduceBEq, Nat.reduceBeqDiff, Int.reduceEq, Int.reduceLT, Int.reduceLE, Int.reduceToNat, Int.reduceNeg, Int.reduceAdd, Int.reduceSub, Int.reduceMul, reduceIte, reduceCtorEq, Nat.reducePow, Nat.reduceDiv, Nat.reduceMod, Int.reduceBEq]
theorem deep_le {l : List TInstr} (h : walkOk l = true) : deepF l ≤ 32 ↔ ∀ k, k < l.length → (depthsF l).getD k 0 ≤ 32 := by
  obtain ⟨s, hs⟩ := walk_some tellD [] h
  obtain ⟨m, hm⟩ := walk_some tellS 0 h
  rw [depthsF_of hs]
  have hd : deepF l = m := by unfold deepF; rw [hm]
  rw [hd]
  have go : ∀ k, k ≤ l.length → ∀ st s st' m, walkG tellD [] l k = some (st, s) → walkG tellS 0 l k = some (st', m) → s.length = k ∧ st = st' ∧ (m ≤ 32 ↔ ∀ i, i < k → s.getD i 0 ≤ 32) := by
    intro k
    induction k with
    | zero =>
      intro _ st s st' m h1 h2
      simp only [walkG, Option.some.injEq, Prod.mk.injEq] at h1 h2
      obtain ⟨rfl, rfl⟩ := h1
      obtain ⟨rfl, rfl⟩ := h2
      exact ⟨rfl, rfl, ⟨fun _ i hi => by omega, fun _ => by decide⟩⟩
    | succ k ih =>
      intro hk st s st' m h1 h2
      simp only [walkG] at h1 h2
      split at h1
      · cases h1
      · rename_i a b ha
        split at h1
        · cases h1
        · rename_i a1 d e h3
          simp only [Option.some.injEq, Prod.mk.injEq] at h1
          obtain ⟨rfl, rfl⟩ := h1
          split at h2
          · cases h2
          · rename_i a' b' ha'
            obtain ⟨i1, i2, i3⟩ := ih (by omega) a b a' b' ha ha'
            subst i2
            split at h2
            · cases h2
            · rename_i a2 d' e' h4
              simp only [Option.some.injEq, Prod.mk.injEq] at h2
              obtain ⟨rfl, rfl⟩ := h2
              have := h3.symm.trans h4
              simp only [Option.some.injEq, Prod.mk.injEq] at this
              obtain ⟨rfl, rfl, rfl⟩ := this
              refine ⟨by simp [tellD, i1], rfl, ?_⟩
              simp only [tellS, tellD]
              have hlast : (b ++ [d]).getD k 0 = d := by simp [List.getD_eq_getElem?_getD, ← i1]
              have hfirst : ∀ i, i < k → (b ++ [d]).getD i 0 = b.getD i 0 := fun i hi => by
                simp only [List.getD_eq_getElem?_getD]
                rw [List.getElem?_append_left (by omega)]
              constructor
              · intro hmx i hi
                by_cases e1 : i = k
                · subst e1; rw [hlast]; omega
                · rw [hfirst i (by omega)]
                  exact i3.1 (by omega) i (by omega)
              · intro hall
                have h5 := i3.2 (fun i hi => by rw [← hfirst i hi]; exact hall i (by omega))
                have h6 := hall k (by omega)
                rw [hlast] at h6
                omega
  exact (go l.length (Nat.le_refl _) [] s [] m hs hm).2.2
def badS (l : List TInstr) (k : Nat) : Bool := !saneF (l.getD k in0) || decide (32 < (depthsF l).getD k 0)
end Go.Proofs.YtfpioigggjnffaaDoor.E

/- Chapter 10, plain: what is asked of the tables and of an environment holds. -/
set_option autoImplicit false
set_option maxRecDepth 100000
set_option linter.unusedSimpArgs false
set_option linter.unusedVariables false
namespace Go.Proofs.YtfpioigggjnffaaDoor.E
open Go.Ev
theorem tabOk : TabOk saneF accE shapeF where
  op := fun i h => by
    obtain ⟨_, _, _, hk⟩ := sane_parts h
    obtain ⟨s, hs, h1, h2, h3⟩ := kind_span rfl hk
    simp only [spanL, List.mem_cons, List.not_mem_nil, or_false] at hs
    rcases hs with rfl | rfl | rfl | rfl | rfl | rfl | rfl | rfl | rfl | rfl | rfl | rfl | rfl | rfl | rfl | rfl | rfl | rfl | rfl | rfl | rfl <;> (simp only at h1; omega)
  acc := fun i h h1 h2 => by
    obtain ⟨_, _, _, hk⟩ := sane_parts h
    obtain ⟨s, hs, g1, g2, g3⟩ := kind_span rfl hk
    have key : ∀ k : Nat, k < 23 → k ≠ 2 → k ≠ 3 → k ≠ 16 → k ≠ 17 → (accT.getD k (0, 0, false, false)).1 ≠ 0 := fun k hk n2 n3 n16 n17 => by
      have := (by decide : ∀ k : Fin 23, k.1 ≠ 2 → k.1 ≠ 3 → k.1 ≠ 16 → k.1 ≠ 17 → (accT.getD k.1 (0, 0, false, false)).1 ≠ 0) ⟨k, hk⟩
      exact this n2 n3 n16 n17
    by_cases h63 : i.op = 63
    · exact .inr (.inl h63)
    by_cases h64 : i.op = 64
    · exact .inr (.inr h64)
    left
    have hr : 40 ≤ i.op ∧ i.op ≤ 62 ∧ i.op ≠ 42 ∧ i.op ≠ 43 ∧ i.op ≠ 56 ∧ i.op ≠ 57 := by
      simp only [spanL, List.mem_cons, List.not_mem_nil, or_false] at hs
      rcases hs with rfl | rfl | rfl | rfl | rfl | rfl | rfl | rfl | rfl | rfl | rfl | rfl | rfl | rfl | rfl | rfl | rfl | rfl | rfl | rfl | rfl <;> (simp only at g1 g2; omega)
    unfold accE accF
    rw [if_pos (by omega)]
    exact key _ (by omega) (by omega) (by omega) (by omega) (by omega)
  shape := fun o p r h => by
    unfold shapeF at h
    repeat' (first | split at h | (cases h; decide) | cases h)
theorem valB_all {l : List Int} (h : l.all valB = true) : NZ l := fun x hx => valB_nz (List.all_eq_true.1 h x hx)
theorem envOk_of {e : TEnv} (h : envSane e = true) : EnvOk e ∧ finB e.results = true := by
  unfold envSane at h
  simp only [Bool.and_eq_true, decide_eq_true_eq, List.all_append] at h
  obtain ⟨⟨h1, ⟨h2, h3⟩, h4⟩, h5⟩ := h
  refine ⟨⟨fun t ht => ?_, fun g hg => ?_, valB_all h2⟩, ?_⟩
  · have := List.all_eq_true.1 h1 t ht
    unfold typeSane at this
    simp only [Bool.and_eq_true] at this
    exact valB_all this.2
  · have := List.all_eq_true.1 h4 g.1 (List.mem_map.2 ⟨g, hg, rfl⟩)
    exact valB_nz this
  · match hr : e.results, h3, h5 with
    | [], _, _ => rfl
    | [c], h3, _ => simpa [finB] using h3
    | a :: b :: r, _, h5 => simp at h5; omega
theorem eok_of {fu : Nat} {e : Tavocetref10_Env} (h : smallE e = true) (hf : 1000 < fu) : EOk fu (envOf e) := by
  unfold smallE at h
  simp only [Bool.and_eq_true, decide_eq_true_eq] at h
  obtain ⟨⟨⟨⟨⟨h1, h2⟩, h3⟩, h4⟩, h5⟩, h6⟩ := h
  refine ⟨by simp [envOf]; omega, fun t ht => ?_, by simp [envOf]; omega, by simp [envOf]; omega, by simp [envOf]; omega, by simp [envOf]; omega, by omega⟩
  simp only [envOf, List.mem_map] at ht
  obtain ⟨t0, ht0, rfl⟩ := ht
  have := List.all_eq_true.1 h6 t0 ht0
  unfold tySm at this
  simp only [Bool.and_eq_true, decide_eq_true_eq] at this
  simp only [tyOf]; omega
theorem few_of {l : List TInstr} {m : Int} (h : few l m = true) : (l.length : Int) ≤ m ∧ ∀ i ∈ l, (i.labels.length : Int) ≤ 70 := by
  unfold few at h
  simp only [Bool.and_eq_true, decide_eq_true_eq, Bool.not_eq_true', List.any_eq_false] at h
  exact ⟨h.1, fun i hi => by have := h.2 i hi; simp at this; omega⟩
/-- what a body that fits is, told -/
theorem body_fits {e : TEnv} {l : List TInstr} (h : bodyF e l = 0) : ∃ p r, pathF e l = .ok p ∧ closeS (p.getLastD stk0) = .ok r := by
  unfold bodyF at h
  cases hp : pathF e l with
  | error f => rw [hp] at h; exact absurd h (pathF_ne hp)
  | ok p =>
    rw [hp] at h
    simp only at h
    cases hc : closeS (p.getLastD stk0) with
    | ok r => exact ⟨p, r, rfl, hc⟩
    | error f => rw [hc] at h; cases h
end Go.Proofs.YtfpioigggjnffaaDoor.E
