/- The reading of the document's Put (avocetref05.Put). -/
import Derived.Test.YtklnkkejkeelaaaDoorM7
import Derived.Test.YtklnkkejkeelaaaDoorL7
set_option linter.unnecessarySimpa false
set_option linter.unusedSimpArgs false
set_option linter.unusedVariables false
set_option autoImplicit false
set_option maxRecDepth 100000
set_option maxHeartbeats 4000000
set_option linter.unusedSimpArgs false
set_option linter.unusedVariables false
set_option pp.maxSteps 20000
namespace Go.Proofs.YtklnkkejkeelaaaDoor.E
open Go.Ev
theorem rPut_ev (fu n : Nat) (l : List Int) (i : TInstr) (hc : Cok i) (hf : 70 < fu) (hi : i.labels.length < fu) (hs : i.labels.length < 1000000) (hl : l.length < 1099511000000) :
    evF (G fu) (n+5) 30 [.d (.list (byt l)), .d i.d] [] = putR l i := by
  have hsn := rSane_ev fu n i hi hs
  unfold putR
  cases hsan : saneF i with
  | false =>
    rw [hsan] at hsn
    simp only [TInstr.d] at hsn ⊢
    rw [evF.eq_2, evX.eq_def, Gext, exts_no _ (f := 30) (by decide), GP, Tryd.func30]; simp only [Tryd.f30, evB]
    simp only [go_sem, Nat.reduceAdd, Nat.reduceMul, Nat.reduceSub, Nat.reduceLT, Nat.reduceLeDiff, Nat.reduceEqDiff, Nat.reduceBEq, Nat.reduceBeqDiff, Int.reduceEq, Int.reduceLT, Int.reduceLE, Int.reduceToNat, Int.reduceNeg, Int.reduceAdd, Int.reduceSub, Int.reduceMul, reduceIte, reduceCtorEq, Nat.reducePow, Nat.reduceDiv, Nat.reduceMod, Int.reduceBEq, hsn]
  | true =>
    have San := (saneF_iff i).1 hsan
    rw [hsan] at hsn
    have hop := kd_byte San.1
    have hkk := rKind_ev fu (n+1) i.op
    obtain ⟨op, a, b, k, ls⟩ := i
    simp only [TInstr.d] at hsn ⊢
    simp only at hop hkk
    have W0 : IntKind.wrap .u8 op = op := wrap_u8 hop.1 (by omega)
    have ht := byt_take l
    have hz1 : ∀ v : Int, sizedAll 1 [D.int .u8 v] = true := fun v => rfl
    have hl1 : l.length ≤ 1099511627775 := by omega
    have hl0 : l.length ≤ 1099511627776 := by omega
    have hk := kd_in op
    obtain ⟨sa0, sa, sb, snl, s17, s2, s35, s4, s6, s8, s9⟩ := San
    simp only at sa0 sa sb snl s17 s2 s35 s4 s6 s8 s9
    have Wa : IntKind.wrap .u64 a = a := wrap_u64 sa.1 (by have := sa.2; omega)
    rcases hk with hk | hk | hk | hk | hk | hk | hk | hk | hk | hk <;> rw [hk] at hkk
    · exact absurd hk sa0
    all_goals
      obtain ⟨m, hm⟩ : ∃ m, m = l ++ [op] := ⟨_, rfl⟩
      have hml : m.length = l.length + 1 := by rw [hm]; simp
      have hE : ∀ T, l ++ op :: T = m ++ T := fun T => by rw [hm]; simp
      have ht2 := byt_take m
      have hl2 : m.length ≤ 1099511627775 := by omega
      have hl3 : m.length < 1099511627000 := by omega
    · -- plain
      simp only [enc, tl, hk, hE, List.append_nil, Int.reduceEq, if_false]
      rw [evF.eq_2, evX.eq_def, Gext, exts_no _ (f := 30) (by decide), GP, Tryd.func30]; simp only [Tryd.f30, evB]
      simp only [go_sem, Nat.reduceAdd, Nat.reduceMul, Nat.reduceSub, Nat.reduceLT, Nat.reduceLeDiff, Nat.reduceEqDiff, Nat.reduceBEq, Nat.reduceBeqDiff, Int.reduceEq, Int.reduceLT, Int.reduceLE, Int.reduceToNat, Int.reduceNeg, Int.reduceAdd, Int.reduceSub, Int.reduceMul, reduceIte, reduceCtorEq, Nat.reducePow, Nat.reduceDiv, Nat.reduceMod, Int.reduceBEq, hsn, W0, ht, hz1, hl1, hl0, byt_sized, byt_len]
      rw [byt_app, len_app l op, ← hm]
      simp only [go_sem, Nat.reduceAdd, Nat.reduceMul, Nat.reduceSub, Nat.reduceLT, Nat.reduceLeDiff, Nat.reduceEqDiff, Nat.reduceBEq, Nat.reduceBeqDiff, Int.reduceEq, Int.reduceLT, Int.reduceLE, Int.reduceToNat, Int.reduceNeg, Int.reduceAdd, Int.reduceSub, Int.reduceMul, reduceIte, reduceCtorEq, Nat.reducePow, Nat.reduceDiv, Nat.reduceMod, Int.reduceBEq, hkk, ht2, hz1, hl2, hE]
    · -- block
      have ha := (s2 hk).2.2
      simp only [enc, tl, hk, hE, Int.reduceEq, if_false, if_true]
      rcases ha with rfl | rfl | rfl
      · simp only [Int.reduceEq, if_false, if_true]
        rw [evF.eq_2, evX.eq_def, Gext, exts_no _ (f := 30) (by decide), GP, Tryd.func30]; simp only [Tryd.f30, evB]
        simp only [go_sem, Nat.reduceAdd, Nat.reduceMul, Nat.reduceSub, Nat.reduceLT, Nat.reduceLeDiff, Nat.reduceEqDiff, Nat.reduceBEq, Nat.reduceBeqDiff, Int.reduceEq, Int.reduceLT, Int.reduceLE, Int.reduceToNat, Int.reduceNeg, Int.reduceAdd, Int.reduceSub, Int.reduceMul, reduceIte, reduceCtorEq, Nat.reducePow, Nat.reduceDiv, Nat.reduceMod, Int.reduceBEq, hsn, W0, ht, hz1, hl1, hl0, byt_sized, byt_len]
        rw [byt_app, len_app l op, ← hm]
        simp only [go_sem, Nat.reduceAdd, Nat.reduceMul, Nat.reduceSub, Nat.reduceLT, Nat.reduceLeDiff, Nat.reduceEqDiff, Nat.reduceBEq, Nat.reduceBeqDiff, Int.reduceEq, Int.reduceLT, Int.reduceLE, Int.reduceToNat, Int.reduceNeg, Int.reduceAdd, Int.reduceSub, Int.reduceMul, reduceIte, reduceCtorEq, Nat.reducePow, Nat.reduceDiv, Nat.reduceMod, Int.reduceBEq, hkk, ht2, hz1, hl2, maxV, show max (0 : Int) 64 = 64 from rfl, show IntKind.wrap .u8 64 = 64 from rfl]
        rw [byt_app, len_app _ 64]
      · simp only [Int.reduceEq, if_false, if_true]
        rw [evF.eq_2, evX.eq_def, Gext, exts_no _ (f := 30) (by decide), GP, Tryd.func30]; simp only [Tryd.f30, evB]
        simp only [go_sem, Nat.reduceAdd, Nat.reduceMul, Nat.reduceSub, Nat.reduceLT, Nat.reduceLeDiff, Nat.reduceEqDiff, Nat.reduceBEq, Nat.reduceBeqDiff, Int.reduceEq, Int.reduceLT, Int.reduceLE, Int.reduceToNat, Int.reduceNeg, Int.reduceAdd, Int.reduceSub, Int.reduceMul, reduceIte, reduceCtorEq, Nat.reducePow, Nat.reduceDiv, Nat.reduceMod, Int.reduceBEq, hsn, W0, ht, hz1, hl1, hl0, byt_sized, byt_len]
        rw [byt_app, len_app l op, ← hm]
        simp only [go_sem, Nat.reduceAdd, Nat.reduceMul, Nat.reduceSub, Nat.reduceLT, Nat.reduceLeDiff, Nat.reduceEqDiff, Nat.reduceBEq, Nat.reduceBeqDiff, Int.reduceEq, Int.reduceLT, Int.reduceLE, Int.reduceToNat, Int.reduceNeg, Int.reduceAdd, Int.reduceSub, Int.reduceMul, reduceIte, reduceCtorEq, Nat.reducePow, Nat.reduceDiv, Nat.reduceMod, Int.reduceBEq, hkk, ht2, hz1, hl2, maxV, show max (127 : Int) 64 = 127 from rfl, show IntKind.wrap .u8 127 = 127 from rfl]
        rw [byt_app, len_app _ 127]
      · simp only [Int.reduceEq, if_false, if_true]
        rw [evF.eq_2, evX.eq_def, Gext, exts_no _ (f := 30) (by decide), GP, Tryd.func30]; simp only [Tryd.f30, evB]
        simp only [go_sem, Nat.reduceAdd, Nat.reduceMul, Nat.reduceSub, Nat.reduceLT, Nat.reduceLeDiff, Nat.reduceEqDiff, Nat.reduceBEq, Nat.reduceBeqDiff, Int.reduceEq, Int.reduceLT, Int.reduceLE, Int.reduceToNat, Int.reduceNeg, Int.reduceAdd, Int.reduceSub, Int.reduceMul, reduceIte, reduceCtorEq, Nat.reducePow, Nat.reduceDiv, Nat.reduceMod, Int.reduceBEq, hsn, W0, ht, hz1, hl1, hl0, byt_sized, byt_len]
        rw [byt_app, len_app l op, ← hm]
        simp only [go_sem, Nat.reduceAdd, Nat.reduceMul, Nat.reduceSub, Nat.reduceLT, Nat.reduceLeDiff, Nat.reduceEqDiff, Nat.reduceBEq, Nat.reduceBeqDiff, Int.reduceEq, Int.reduceLT, Int.reduceLE, Int.reduceToNat, Int.reduceNeg, Int.reduceAdd, Int.reduceSub, Int.reduceMul, reduceIte, reduceCtorEq, Nat.reducePow, Nat.reduceDiv, Nat.reduceMod, Int.reduceBEq, hkk, ht2, hz1, hl2, maxV, show max (126 : Int) 64 = 126 from rfl, show IntKind.wrap .u8 126 = 126 from rfl]
        rw [byt_app, len_app _ 126]
    · -- index
      have hu := rU_ev fu (n+3) m a (by omega) sa.1 (by have := sa.2; omega) hl3
      simp only [enc, tl, hk, hE, Int.reduceEq, if_false, if_true]
      rw [evF.eq_2, evX.eq_def, Gext, exts_no _ (f := 30) (by decide), GP, Tryd.func30]; simp only [Tryd.f30, evB]
      simp only [go_sem, Nat.reduceAdd, Nat.reduceMul, Nat.reduceSub, Nat.reduceLT, Nat.reduceLeDiff, Nat.reduceEqDiff, Nat.reduceBEq, Nat.reduceBeqDiff, Int.reduceEq, Int.reduceLT, Int.reduceLE, Int.reduceToNat, Int.reduceNeg, Int.reduceAdd, Int.reduceSub, Int.reduceMul, reduceIte, reduceCtorEq, Nat.reducePow, Nat.reduceDiv, Nat.reduceMod, Int.reduceBEq, hsn, W0, ht, hz1, hl1, hl0, byt_sized, byt_len]
      rw [byt_app, len_app l op, ← hm]
      simp only [go_sem, Nat.reduceAdd, Nat.reduceMul, Nat.reduceSub, Nat.reduceLT, Nat.reduceLeDiff, Nat.reduceEqDiff, Nat.reduceBEq, Nat.reduceBeqDiff, Int.reduceEq, Int.reduceLT, Int.reduceLE, Int.reduceToNat, Int.reduceNeg, Int.reduceAdd, Int.reduceSub, Int.reduceMul, reduceIte, reduceCtorEq, Nat.reducePow, Nat.reduceDiv, Nat.reduceMod, Int.reduceBEq, hkk, ht2, hz1, hl2, hu, Wa]
    · -- labels
      obtain ⟨_, _, h64, hnum⟩ := s4 hk
      have hu := rU_ev fu (n+3) m (ls.length : Int) (by omega) (by omega) (by omega) hl3
      have WL := wrap_u64 (show (0 : Int) ≤ ls.length by omega) (by omega)
      simp only [enc, tl, hk, hE, Int.reduceEq, if_false, if_true]
      rw [evF.eq_2, evX.eq_def, Gext, exts_no _ (f := 30) (by decide), GP, Tryd.func30]; simp only [Tryd.f30, evB]
      simp only [go_sem, Nat.reduceAdd, Nat.reduceMul, Nat.reduceSub, Nat.reduceLT, Nat.reduceLeDiff, Nat.reduceEqDiff, Nat.reduceBEq, Nat.reduceBeqDiff, Int.reduceEq, Int.reduceLT, Int.reduceLE, Int.reduceToNat, Int.reduceNeg, Int.reduceAdd, Int.reduceSub, Int.reduceMul, reduceIte, reduceCtorEq, Nat.reducePow, Nat.reduceDiv, Nat.reduceMod, Int.reduceBEq, hsn, W0, ht, hz1, hl1, hl0, byt_sized, byt_len]
      rw [byt_app, len_app l op, ← hm]
      simp only [go_sem, Nat.reduceAdd, Nat.reduceMul, Nat.reduceSub, Nat.reduceLT, Nat.reduceLeDiff, Nat.reduceEqDiff, Nat.reduceBEq, Nat.reduceBeqDiff, Int.reduceEq, Int.reduceLT, Int.reduceLE, Int.reduceToNat, Int.reduceNeg, Int.reduceAdd, Int.reduceSub, Int.reduceMul, reduceIte, reduceCtorEq, Nat.reducePow, Nat.reduceDiv, Nat.reduceMod, Int.reduceBEq, hkk, ht2, hz1, hl2, hu, WL, List.length_map]
      have hPl : ∀ j, (m ++ uleb ls.length ++ (ls.take j).flatMap uleb).length < 1099511000000 + 700 := fun j => by
        have h1 := ulebF_len 10 ls.length
        have h2 := flat_len (ls.take j)
        have h3 : (ls.take j).length ≤ 64 := by rw [List.length_take]; omega
        simp only [List.length_append, uleb]
        omega
      generalize hr : loopN _ _ _ _ _ = r
      obtain ⟨x, s1, rfl, hx, rfl, K, hK, rfl⟩ : ∃ x s1, r = some (x, s1) ∧ leaves x ∧ (x = .exit 1 ∧ ∃ K, (K = 3328 ∨ K = 4288 ∨ K = 196288) ∧ s1 = ⟨[(3, .ptr 256 0), (6, .row K 0 0 (m ++ uleb ls.length ++ ls.flatMap uleb).length)], [(256, .cells [.d (.int .i64 op), .d (.int .i64 a), .d (.int .i64 b), .d (.int .u64 k), .d (.list (ls.map (D.int .i64)))]), (K, .row 1 (byt (m ++ uleb ls.length ++ ls.flatMap uleb)) 0 false false)]⟩) := by
        rw [← hr]
        refine loop_inv (J := fun x s1 => x = .exit 1 ∧ ∃ K, (K = 3328 ∨ K = 4288 ∨ K = 196288) ∧ s1 = ⟨[(3, .ptr 256 0), (6, .row K 0 0 (m ++ uleb ls.length ++ ls.flatMap uleb).length)], [(256, .cells [.d (.int .i64 op), .d (.int .i64 a), .d (.int .i64 b), .d (.int .u64 k), .d (.list (ls.map (D.int .i64)))]), (K, .row 1 (byt (m ++ uleb ls.length ++ ls.flatMap uleb)) 0 false false)]⟩)
          ls.length (fun j z => ∃ K, (K = 3328 ∨ K = 4288 ∨ K = 196288) ∧ z = ⟨[(3, .ptr 256 0), (6, .row K 0 0 (m ++ uleb ls.length ++ (ls.take j).flatMap uleb).length), (7, .d (.int .i64 j))], [(256, .cells [.d (.int .i64 op), .d (.int .i64 a), .d (.int .i64 b), .d (.int .u64 k), .d (.list (ls.map (D.int .i64)))]), (K, .row 1 (byt (m ++ uleb ls.length ++ (ls.take j).flatMap uleb)) 0 false false)]⟩) ?_ ?_ fu _ (by simp only at hi; omega) ⟨3328, .inl rfl, by simp⟩
        · rintro j z hj ⟨K, hK, rfl⟩
          have hx : (ls.map (D.int .i64))[j]? = some (.int .i64 (ls.getD j 0)) := getD_map hj
          have hv : ls.getD j 0 ∈ ls := by
            rw [List.getD_eq_getElem?_getD, List.getElem?_eq_getElem hj]; exact List.getElem_mem hj
          have hn := hnum _ hv
          have hjI : (j : Int) < ls.length := by omega
          have hP : (ls.take (j + 1)).flatMap uleb = (ls.take j).flatMap uleb ++ uleb (ls.getD j 0) := by
            rw [List.take_add_one, List.flatMap_append, List.getD_eq_getElem?_getD, List.getElem?_eq_getElem hj]
            simp
          have hq := hPl j
          have hv := rU_ev fu (n+3) (m ++ uleb ls.length ++ (ls.take j).flatMap uleb) (ls.getD j 0) (by omega) hn.1 (by have := hn.2; omega) (by omega)
          have Wj := wrap_i64 (show -9223372036854775808 ≤ (j : Int) + 1 by omega) (by omega)
          have Wv : IntKind.wrap .u64 (ls.getD j 0) = ls.getD j 0 := wrap_u64 hn.1 (by have := hn.2; omega)
          have ht3 := byt_take (m ++ uleb ls.length ++ (ls.take j).flatMap uleb)
          rw [hP, ← List.append_assoc]
          generalize m ++ uleb ls.length ++ (ls.take j).flatMap uleb = P at *
          rcases hK with rfl | rfl | rfl
          · simp only [go_sem, Nat.reduceAdd, Nat.reduceMul, Nat.reduceSub, Nat.reduceLT, Nat.reduceLeDiff, Nat.reduceEqDiff, Nat.reduceBEq, Nat.reduceBeqDiff, Int.reduceEq, Int.reduceLT, Int.reduceLE, Int.reduceToNat, Int.reduceNeg, Int.reduceAdd, Int.reduceSub, Int.reduceMul, reduceIte, reduceCtorEq, Nat.reducePow, Nat.reduceDiv, Nat.reduceMod, Int.reduceBEq, List.length_map, hjI, idx, hx, hv, Wj, Wv, ht3]
            exact ⟨.normal, _, rfl, 4288, .inr (.inl rfl), rfl⟩
          · simp only [go_sem, Nat.reduceAdd, Nat.reduceMul, Nat.reduceSub, Nat.reduceLT, Nat.reduceLeDiff, Nat.reduceEqDiff, Nat.reduceBEq, Nat.reduceBeqDiff, Int.reduceEq, Int.reduceLT, Int.reduceLE, Int.reduceToNat, Int.reduceNeg, Int.reduceAdd, Int.reduceSub, Int.reduceMul, reduceIte, reduceCtorEq, Nat.reducePow, Nat.reduceDiv, Nat.reduceMod, Int.reduceBEq, List.length_map, hjI, idx, hx, hv, Wj, Wv, ht3]
            exact ⟨.normal, _, rfl, 196288, .inr (.inr rfl), rfl⟩
          · simp only [go_sem, Nat.reduceAdd, Nat.reduceMul, Nat.reduceSub, Nat.reduceLT, Nat.reduceLeDiff, Nat.reduceEqDiff, Nat.reduceBEq, Nat.reduceBeqDiff, Int.reduceEq, Int.reduceLT, Int.reduceLE, Int.reduceToNat, Int.reduceNeg, Int.reduceAdd, Int.reduceSub, Int.reduceMul, reduceIte, reduceCtorEq, Nat.reducePow, Nat.reduceDiv, Nat.reduceMod, Int.reduceBEq, List.length_map, hjI, idx, hx, hv, Wj, Wv, ht3]
            exact ⟨.normal, _, rfl, 4288, .inr (.inl rfl), rfl⟩
        · rintro z ⟨K, hK, rfl⟩
          rcases hK with rfl | rfl | rfl <;> simp only [go_sem, Nat.reduceAdd, Nat.reduceMul, Nat.reduceSub, Nat.reduceLT, Nat.reduceLeDiff, Nat.reduceEqDiff, Nat.reduceBEq, Nat.reduceBeqDiff, Int.reduceEq, Int.reduceLT, Int.reduceLE, Int.reduceToNat, Int.reduceNeg, Int.reduceAdd, Int.reduceSub, Int.reduceMul, reduceIte, reduceCtorEq, Nat.reducePow, Nat.reduceDiv, Nat.reduceMod, Int.reduceBEq, List.length_map, Int.lt_irrefl, List.take_length]
          · exact ⟨_, _, rfl, trivial, rfl, 3328, .inl rfl, rfl⟩
          · exact ⟨_, _, rfl, trivial, rfl, 4288, .inr (.inl rfl), rfl⟩
          · exact ⟨_, _, rfl, trivial, rfl, 196288, .inr (.inr rfl), rfl⟩
      have hq : (m ++ uleb ls.length ++ ls.flatMap uleb).length < 1099511000000 + 700 := by have := hPl ls.length; rwa [List.take_length] at this
      have hv := rU_ev fu (n+3) (m ++ uleb ls.length ++ ls.flatMap uleb) a (by omega) sa.1 (by have := sa.2; omega) (by omega)
      have ht3 := byt_take (m ++ uleb ls.length ++ ls.flatMap uleb)
      have e1 : m ++ (uleb ls.length ++ (ls.flatMap uleb ++ uleb a)) = m ++ uleb ls.length ++ ls.flatMap uleb ++ uleb a := by simp
      rw [show (List.map uleb ls).flatten = ls.flatMap uleb from rfl, e1]
      generalize m ++ uleb ls.length ++ ls.flatMap uleb = P at *
      rcases hK with rfl | rfl | rfl <;> simp only [go_sem, Nat.reduceAdd, Nat.reduceMul, Nat.reduceSub, Nat.reduceLT, Nat.reduceLeDiff, Nat.reduceEqDiff, Nat.reduceBEq, Nat.reduceBeqDiff, Int.reduceEq, Int.reduceLT, Int.reduceLE, Int.reduceToNat, Int.reduceNeg, Int.reduceAdd, Int.reduceSub, Int.reduceMul, reduceIte, reduceCtorEq, Nat.reducePow, Nat.reduceDiv, Nat.reduceMod, Int.reduceBEq, hv, Wa, ht3]
    · -- a call
      have hu := rU_ev fu (n+3) m a (by omega) sa.1 (by have := sa.2; omega) hl3
      have hla := ulebF_len 10 a
      have hq : (m ++ uleb a).length ≤ 1099511627775 := by simp only [List.length_append, uleb]; omega
      have ht3 := byt_take (m ++ uleb a)
      simp only [enc, tl, hk, hE, Int.reduceEq, if_false, if_true]
      rw [← List.append_assoc]
      generalize m ++ uleb a = m2 at *
      rw [evF.eq_2, evX.eq_def, Gext, exts_no _ (f := 30) (by decide), GP, Tryd.func30]; simp only [Tryd.f30, evB]
      simp only [go_sem, Nat.reduceAdd, Nat.reduceMul, Nat.reduceSub, Nat.reduceLT, Nat.reduceLeDiff, Nat.reduceEqDiff, Nat.reduceBEq, Nat.reduceBeqDiff, Int.reduceEq, Int.reduceLT, Int.reduceLE, Int.reduceToNat, Int.reduceNeg, Int.reduceAdd, Int.reduceSub, Int.reduceMul, reduceIte, reduceCtorEq, Nat.reducePow, Nat.reduceDiv, Nat.reduceMod, Int.reduceBEq, hsn, W0, ht, hz1, hl1, hl0, byt_sized, byt_len]
      rw [byt_app, len_app l op, ← hm]
      simp only [go_sem, Nat.reduceAdd, Nat.reduceMul, Nat.reduceSub, Nat.reduceLT, Nat.reduceLeDiff, Nat.reduceEqDiff, Nat.reduceBEq, Nat.reduceBeqDiff, Int.reduceEq, Int.reduceLT, Int.reduceLE, Int.reduceToNat, Int.reduceNeg, Int.reduceAdd, Int.reduceSub, Int.reduceMul, reduceIte, reduceCtorEq, Nat.reducePow, Nat.reduceDiv, Nat.reduceMod, Int.reduceBEq, hkk, ht2, hz1, hl2, hu, Wa, ht3, hq]
      rw [byt_app, len_app _ 0]
    · -- two numbers
      have hu := rU_ev fu (n+3) m a (by omega) sa.1 (by have := sa.2; omega) hl3
      have hla := ulebF_len 10 a
      have hq : (m ++ uleb a).length < 1099511627000 := by simp only [List.length_append, uleb]; omega
      have hv := rU_ev fu (n+3) (m ++ uleb a) b (by omega) sb.1 (by have := sb.2; omega) hq
      have ht3 := byt_take (m ++ uleb a)
      have Wb : IntKind.wrap .u64 b = b := wrap_u64 sb.1 (by have := sb.2; omega)
      simp only [enc, tl, hk, hE, Int.reduceEq, if_false, if_true]
      rw [← List.append_assoc]
      generalize m ++ uleb a = m2 at *
      rw [evF.eq_2, evX.eq_def, Gext, exts_no _ (f := 30) (by decide), GP, Tryd.func30]; simp only [Tryd.f30, evB]
      simp only [go_sem, Nat.reduceAdd, Nat.reduceMul, Nat.reduceSub, Nat.reduceLT, Nat.reduceLeDiff, Nat.reduceEqDiff, Nat.reduceBEq, Nat.reduceBeqDiff, Int.reduceEq, Int.reduceLT, Int.reduceLE, Int.reduceToNat, Int.reduceNeg, Int.reduceAdd, Int.reduceSub, Int.reduceMul, reduceIte, reduceCtorEq, Nat.reducePow, Nat.reduceDiv, Nat.reduceMod, Int.reduceBEq, hsn, W0, ht, hz1, hl1, hl0, byt_sized, byt_len]
      rw [byt_app, len_app l op, ← hm]
      simp only [go_sem, Nat.reduceAdd, Nat.reduceMul, Nat.reduceSub, Nat.reduceLT, Nat.reduceLeDiff, Nat.reduceEqDiff, Nat.reduceBEq, Nat.reduceBeqDiff, Int.reduceEq, Int.reduceLT, Int.reduceLE, Int.reduceToNat, Int.reduceNeg, Int.reduceAdd, Int.reduceSub, Int.reduceMul, reduceIte, reduceCtorEq, Nat.reducePow, Nat.reduceDiv, Nat.reduceMod, Int.reduceBEq, hkk, ht2, hz1, hl2, hu, Wa, Wb, ht3, hv]
    · -- a zero
      simp only [enc, tl, hk, hE, Int.reduceEq, if_false, if_true]
      rw [evF.eq_2, evX.eq_def, Gext, exts_no _ (f := 30) (by decide), GP, Tryd.func30]; simp only [Tryd.f30, evB]
      simp only [go_sem, Nat.reduceAdd, Nat.reduceMul, Nat.reduceSub, Nat.reduceLT, Nat.reduceLeDiff, Nat.reduceEqDiff, Nat.reduceBEq, Nat.reduceBeqDiff, Int.reduceEq, Int.reduceLT, Int.reduceLE, Int.reduceToNat, Int.reduceNeg, Int.reduceAdd, Int.reduceSub, Int.reduceMul, reduceIte, reduceCtorEq, Nat.reducePow, Nat.reduceDiv, Nat.reduceMod, Int.reduceBEq, hsn, W0, ht, hz1, hl1, hl0, byt_sized, byt_len]
      rw [byt_app, len_app l op, ← hm]
      simp only [go_sem, Nat.reduceAdd, Nat.reduceMul, Nat.reduceSub, Nat.reduceLT, Nat.reduceLeDiff, Nat.reduceEqDiff, Nat.reduceBEq, Nat.reduceBeqDiff, Int.reduceEq, Int.reduceLT, Int.reduceLE, Int.reduceToNat, Int.reduceNeg, Int.reduceAdd, Int.reduceSub, Int.reduceMul, reduceIte, reduceCtorEq, Nat.reducePow, Nat.reduceDiv, Nat.reduceMod, Int.reduceBEq, hkk, ht2, hz1, hl2, hE]
      rw [byt_app, len_app _ 0]
    · -- a constant of 32
      have hk32 := (s8 hk).2.2
      have hin := s32_in hc.1 hk32
      simp only at hin
      have hin1 := hin.1
      simp only [inS, Bool.false_eq_true, if_false] at hin1
      have hsg := signed127_ev fu (n+2) k hc.1
      have hc1 := hc.1
      simp only at hc1
      rw [show k % 4294967296 = k by omega] at hsg
      have hu := rS_ev fu (n+3) m (s32 k) (by omega) (by omega) (by omega) hl3
      have W1 : IntKind.wrap .i32 k = s32 k := by
        have h0 := hc.1
        simp only at h0
        simp only [IntKind.wrap, IntKind.bits, IntKind.signed, Bool.true_and, decide_eq_true_eq, s32]
        split <;> rename_i h <;> simp at h <;> split <;> omega
      have W2 := wrap_i64 (show -9223372036854775808 ≤ s32 k by omega) (by omega)
      simp only [enc, tl, hk, hE, Int.reduceEq, if_false, if_true]
      rw [evF.eq_2, evX.eq_def, Gext, exts_no _ (f := 30) (by decide), GP, Tryd.func30]; simp only [Tryd.f30, evB]
      simp only [go_sem, Nat.reduceAdd, Nat.reduceMul, Nat.reduceSub, Nat.reduceLT, Nat.reduceLeDiff, Nat.reduceEqDiff, Nat.reduceBEq, Nat.reduceBeqDiff, Int.reduceEq, Int.reduceLT, Int.reduceLE, Int.reduceToNat, Int.reduceNeg, Int.reduceAdd, Int.reduceSub, Int.reduceMul, reduceIte, reduceCtorEq, Nat.reducePow, Nat.reduceDiv, Nat.reduceMod, Int.reduceBEq, hsn, W0, ht, hz1, hl1, hl0, byt_sized, byt_len]
      rw [byt_app, len_app l op, ← hm]
      simp only [go_sem, Nat.reduceAdd, Nat.reduceMul, Nat.reduceSub, Nat.reduceLT, Nat.reduceLeDiff, Nat.reduceEqDiff, Nat.reduceBEq, Nat.reduceBeqDiff, Int.reduceEq, Int.reduceLT, Int.reduceLE, Int.reduceToNat, Int.reduceNeg, Int.reduceAdd, Int.reduceSub, Int.reduceMul, reduceIte, reduceCtorEq, Nat.reducePow, Nat.reduceDiv, Nat.reduceMod, Int.reduceBEq, hkk, ht2, hz1, hl2, hu, hsg]
    · -- a constant of 64
      have hin := s64_in hc.1 hc.2
      simp only at hin
      have hin1 := hin.1
      simp only [inS, if_true] at hin1
      have hu := rS_ev fu (n+3) m (s64 k) (by omega) hin1.1 hin1.2 hl3
      have W1 : IntKind.wrap .i64 k = s64 k := by
        have h0 := hc.1
        have h1 := hc.2
        simp only at h0 h1
        simp only [IntKind.wrap, IntKind.bits, IntKind.signed, Bool.true_and, decide_eq_true_eq, s64]
        split <;> rename_i h <;> simp at h <;> split <;> omega
      simp only [enc, tl, hk, hE, Int.reduceEq, if_false, if_true]
      rw [evF.eq_2, evX.eq_def, Gext, exts_no _ (f := 30) (by decide), GP, Tryd.func30]; simp only [Tryd.f30, evB]
      simp only [go_sem, Nat.reduceAdd, Nat.reduceMul, Nat.reduceSub, Nat.reduceLT, Nat.reduceLeDiff, Nat.reduceEqDiff, Nat.reduceBEq, Nat.reduceBeqDiff, Int.reduceEq, Int.reduceLT, Int.reduceLE, Int.reduceToNat, Int.reduceNeg, Int.reduceAdd, Int.reduceSub, Int.reduceMul, reduceIte, reduceCtorEq, Nat.reducePow, Nat.reduceDiv, Nat.reduceMod, Int.reduceBEq, hsn, W0, ht, hz1, hl1, hl0, byt_sized, byt_len]
      rw [byt_app, len_app l op, ← hm]
      simp only [go_sem, Nat.reduceAdd, Nat.reduceMul, Nat.reduceSub, Nat.reduceLT, Nat.reduceLeDiff, Nat.reduceEqDiff, Nat.reduceBEq, Nat.reduceBeqDiff, Int.reduceEq, Int.reduceLT, Int.reduceLE, Int.reduceToNat, Int.reduceNeg, Int.reduceAdd, Int.reduceSub, Int.reduceMul, reduceIte, reduceCtorEq, Nat.reducePow, Nat.reduceDiv, Nat.reduceMod, Int.reduceBEq, hkk, ht2, hz1, hl2, hu, W1]
end Go.Proofs.YtklnkkejkeelaaaDoor.E
