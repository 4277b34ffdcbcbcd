/- The reading of body.Put. -/
import Derived.Test.YtklnkkejkeelaaaDoorL7
import Derived.Test.YtklnkkejkeelaaaDoorF9
set_option linter.unnecessarySimpa false
set_option linter.unusedSimpArgs false
set_option linter.unusedVariables false
set_option autoImplicit false
set_option maxRecDepth 100000
set_option maxHeartbeats 4000000
set_option linter.unusedSimpArgs false
set_option linter.unusedVariables false
set_option pp.maxSteps 20000
namespace Go.Proofs.YtklnkkejkeelaaaDoor.E
open Go.Ev
def encs (l : List TInstr) : List Int := l.flatMap enc
def bputR (b : List Int) (l : List TInstr) : Option Res := if bodySane l then some (.tup [.row 0 0 0 (b ++ encs l ++ [11]).length, .d (.int .i64 0)], [.row 1 (byt (b ++ encs l ++ [11])) 0 false false]) else some (.tup [.row 0 0 0 0, .d (.int .i64 1)], [.row 1 [] 0 false false])
theorem bodySane_all {l : List TInstr} (h : bodySane l = true) : walkOk l = true ∧ deepF l ≤ 32 ∧ (l.length : Int) ≤ 4096 ∧ ∀ i ∈ l, saneF i = true := by
  unfold bodySane at h
  simp only [Bool.and_eq_true, decide_eq_true_eq, List.all_eq_true] at h
  exact ⟨h.1.1.1, h.1.1.2, h.1.2, h.2⟩
theorem encs_len (l : List TInstr) (h : ∀ i ∈ l, saneF i = true) : (encs l).length ≤ 1000 * l.length := by
  induction l with
  | nil => simp [encs]
  | cons i l ih =>
    have h1 := enc_len i ((saneF_iff i).1 (h i (by simp)))
    have h2 := ih (fun j hj => h j (by simp [hj]))
    simp only [encs, List.flatMap_cons, List.length_append, List.length_cons] at h2 ⊢
    omega
theorem BPut_ev (fu n : Nat) (b : List Int) (l : List TInstr) (hc : ∀ i ∈ l, Cok i) (hf : 1000 < fu) (hfl : l.length < fu) (hb : lab fu l) (hs : l.length < 100000) (hl : b.length < 1099500000000) :
    evF (G fu) (n+10) 37 [.d (.list (byt b)), .d (.list (l.map TInstr.d))] [] = bputR b l := by
  have S := bodySane_ev fu n l (by omega) hfl hs hb
  unfold bputR
  cases hsan : bodySane l with
  | false =>
    rw [hsan] at S
    rw [evF.eq_2, evX.eq_def, Gext, exts_no _ (f := 37) (by decide), GP, Tryd.func37]; simp only [Tryd.f37, evB]
    simp only [go_sem, Nat.reduceAdd, Nat.reduceMul, Nat.reduceSub, Nat.reduceLT, Nat.reduceLeDiff, Nat.reduceEqDiff, Nat.reduceBEq, Nat.reduceBeqDiff, Int.reduceEq, Int.reduceLT, Int.reduceLE, Int.reduceToNat, Int.reduceNeg, Int.reduceAdd, Int.reduceSub, Int.reduceMul, reduceIte, reduceCtorEq, Nat.reducePow, Nat.reduceDiv, Nat.reduceMod, Int.reduceBEq, S]
  | true =>
    rw [hsan] at S
    obtain ⟨w, hd, h4096, hall⟩ := bodySane_all hsan
    have hcl := clone_ev fu (n+8) b (by omega)
    rw [evF.eq_2, evX.eq_def, Gext, exts_no _ (f := 37) (by decide), GP, Tryd.func37]; simp only [Tryd.f37, evB]
    simp only [go_sem, Nat.reduceAdd, Nat.reduceMul, Nat.reduceSub, Nat.reduceLT, Nat.reduceLeDiff, Nat.reduceEqDiff, Nat.reduceBEq, Nat.reduceBeqDiff, Int.reduceEq, Int.reduceLT, Int.reduceLE, Int.reduceToNat, Int.reduceNeg, Int.reduceAdd, Int.reduceSub, Int.reduceMul, reduceIte, reduceCtorEq, Nat.reducePow, Nat.reduceDiv, Nat.reduceMod, Int.reduceBEq, S, hcl, List.length_map]
    have hPl : ∀ j, (b ++ encs (l.take j)).length < 1099510000000 := fun j => by
      have h1 := encs_len (l.take j) (fun i hi => hall i (List.mem_of_mem_take hi))
      have h2 : (l.take j).length ≤ 4096 := by rw [List.length_take]; omega
      simp only [List.length_append]
      omega
    generalize hr : loopN _ _ _ _ _ = r
    obtain ⟨x, s1, rfl, hx, rfl, K, hK, rfl⟩ : ∃ x s1, r = some (x, s1) ∧ leaves x ∧ (x = .exit 0 ∧ ∃ K, (K = 960 ∨ K = 1600 ∨ K = 193600) ∧ s1 = ⟨[(6, .row K 0 0 (b ++ encs l).length)], [(K, .row 1 (byt (b ++ encs l)) 0 false false)]⟩) := by
      rw [← hr]
      refine loop_inv (J := fun x s1 => x = .exit 0 ∧ ∃ K, (K = 960 ∨ K = 1600 ∨ K = 193600) ∧ s1 = ⟨[(6, .row K 0 0 (b ++ encs l).length)], [(K, .row 1 (byt (b ++ encs l)) 0 false false)]⟩)
        l.length (fun j z => ∃ K, (K = 960 ∨ K = 1600 ∨ K = 193600) ∧ z = ⟨[(6, .row K 0 0 (b ++ encs (l.take j)).length), (15, .d (.list (l.map TInstr.d))), (16, .d (.int .i64 l.length)), (17, .d (.int .i64 j))], [(K, .row 1 (byt (b ++ encs (l.take j))) 0 false false)]⟩) ?_ ?_ fu _ hfl ⟨960, .inl rfl, by simp [encs]⟩
      · rintro j z hj ⟨K, hK, rfl⟩
        have hx : (l.map TInstr.d)[j]? = some (l.getD j in0).d := getD_map hj
        have hv : l.getD j in0 ∈ l := by
          rw [List.getD_eq_getElem?_getD, List.getElem?_eq_getElem hj]; exact List.getElem_mem hj
        have hjI : (j : Int) < l.length := by omega
        have hP : encs (l.take (j + 1)) = encs (l.take j) ++ enc (l.getD j in0) := by
          unfold encs
          rw [List.take_add_one, List.flatMap_append, List.getD_eq_getElem?_getD, List.getElem?_eq_getElem hj]
          simp
        have hq := hPl j
        have hp := Put_ev fu (n+3) (b ++ encs (l.take j)) (l.getD j in0) (hc _ hv) (by omega) (hb _ hv).1 (hb _ hv).2 (by omega)
        unfold putR at hp
        rw [if_pos (hall _ hv)] at hp
        have Wj := wrap_i64 (show -9223372036854775808 ≤ (j : Int) + 1 by omega) (by omega)
        have ht3 := byt_take (b ++ encs (l.take j))
        rw [hP, ← List.append_assoc]
        generalize b ++ encs (l.take j) = P at *
        generalize l.getD j in0 = i at *
        simp only [TInstr.d] at hx hp
        rcases hK with rfl | rfl | rfl
        · simp only [go_sem, Nat.reduceAdd, Nat.reduceMul, Nat.reduceSub, Nat.reduceLT, Nat.reduceLeDiff, Nat.reduceEqDiff, Nat.reduceBEq, Nat.reduceBeqDiff, Int.reduceEq, Int.reduceLT, Int.reduceLE, Int.reduceToNat, Int.reduceNeg, Int.reduceAdd, Int.reduceSub, Int.reduceMul, reduceIte, reduceCtorEq, Nat.reducePow, Nat.reduceDiv, Nat.reduceMod, Int.reduceBEq, hjI, idx, hx, hp, Wj, ht3]
          exact ⟨_, _, rfl, 1600, .inr (.inl rfl), rfl⟩
        · simp only [go_sem, Nat.reduceAdd, Nat.reduceMul, Nat.reduceSub, Nat.reduceLT, Nat.reduceLeDiff, Nat.reduceEqDiff, Nat.reduceBEq, Nat.reduceBeqDiff, Int.reduceEq, Int.reduceLT, Int.reduceLE, Int.reduceToNat, Int.reduceNeg, Int.reduceAdd, Int.reduceSub, Int.reduceMul, reduceIte, reduceCtorEq, Nat.reducePow, Nat.reduceDiv, Nat.reduceMod, Int.reduceBEq, hjI, idx, hx, hp, Wj, ht3]
          exact ⟨_, _, rfl, 193600, .inr (.inr rfl), rfl⟩
        · simp only [go_sem, Nat.reduceAdd, Nat.reduceMul, Nat.reduceSub, Nat.reduceLT, Nat.reduceLeDiff, Nat.reduceEqDiff, Nat.reduceBEq, Nat.reduceBeqDiff, Int.reduceEq, Int.reduceLT, Int.reduceLE, Int.reduceToNat, Int.reduceNeg, Int.reduceAdd, Int.reduceSub, Int.reduceMul, reduceIte, reduceCtorEq, Nat.reducePow, Nat.reduceDiv, Nat.reduceMod, Int.reduceBEq, hjI, idx, hx, hp, Wj, ht3]
          exact ⟨_, _, rfl, 1600, .inr (.inl rfl), rfl⟩
      · rintro z ⟨K, hK, rfl⟩
        rcases hK with rfl | rfl | rfl <;> simp only [go_sem, Nat.reduceAdd, Nat.reduceMul, Nat.reduceSub, Nat.reduceLT, Nat.reduceLeDiff, Nat.reduceEqDiff, Nat.reduceBEq, Nat.reduceBeqDiff, Int.reduceEq, Int.reduceLT, Int.reduceLE, Int.reduceToNat, Int.reduceNeg, Int.reduceAdd, Int.reduceSub, Int.reduceMul, reduceIte, reduceCtorEq, Nat.reducePow, Nat.reduceDiv, Nat.reduceMod, Int.reduceBEq, Int.lt_irrefl, List.take_length]
        · exact ⟨_, _, rfl, trivial, rfl, 960, .inl rfl, rfl⟩
        · exact ⟨_, _, rfl, trivial, rfl, 1600, .inr (.inl rfl), rfl⟩
        · exact ⟨_, _, rfl, trivial, rfl, 193600, .inr (.inr rfl), rfl⟩
    have hq : (b ++ encs l).length < 1099510000000 := by have := hPl l.length; rwa [List.take_length] at this
    have ht3 := byt_take (b ++ encs l)
    have hz1 : sizedAll 1 [D.int .u8 11] = true := rfl
    generalize b ++ encs l = P at *
    have hq2 : P.length ≤ 1099511627775 := by omega
    rw [← byt_app, ← len_app P 11]
    rcases hK with rfl | rfl | rfl <;> simp only [go_sem, Nat.reduceAdd, Nat.reduceMul, Nat.reduceSub, Nat.reduceLT, Nat.reduceLeDiff, Nat.reduceEqDiff, Nat.reduceBEq, Nat.reduceBeqDiff, Int.reduceEq, Int.reduceLT, Int.reduceLE, Int.reduceToNat, Int.reduceNeg, Int.reduceAdd, Int.reduceSub, Int.reduceMul, reduceIte, reduceCtorEq, Nat.reducePow, Nat.reduceDiv, Nat.reduceMod, Int.reduceBEq, ht3, hz1, hq2]
end Go.Proofs.YtklnkkejkeelaaaDoor.E
