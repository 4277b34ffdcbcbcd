/- N8, N10. -/
import Derived.Test.YtklnkkejkeelaaaDoorN7
import Derived.Test.YtklnkkejkeelaaaDoorM9
import Derived.Test.YtklnkkejkeelaaaDoorL10
import Derived.Test.YtklnkkejkeelaaaDoorF6
set_option linter.unnecessarySimpa false
set_option linter.unusedSimpArgs false
set_option linter.unusedVariables false
/- The reading of the document's body: Same, Put (avocetref06). -/
set_option autoImplicit false
set_option maxRecDepth 100000
set_option maxHeartbeats 8000000
set_option linter.unusedSimpArgs false
set_option linter.unusedVariables false
set_option pp.maxSteps 20000
namespace Go.Proofs.YtklnkkejkeelaaaDoor.E
open Go.Ev
theorem rBSame_ev (fu n : Nat) (a b : List TInstr) (h : a.length < fu) (hs : a.length < 1000000) (hb : lab fu a) : evF (G fu) (n+2) 46 [.d (.list (a.map TInstr.d)), .d (.list (b.map TInstr.d))] [] = some (.d (.bool (decide (a = b))), []) := by
  rw [evF.eq_2, evX.eq_def, Gext, exts_no _ (f := 46) (by decide), GP, Tryd.func46]; simp only [Tryd.f46, evB]
  by_cases hl : a.length = b.length
  · simp only [go_sem, Nat.reduceAdd, Nat.reduceMul, Nat.reduceSub, Nat.reduceLT, Nat.reduceLeDiff, Nat.reduceEqDiff, Nat.reduceBEq, Nat.reduceBeqDiff, Int.reduceEq, Int.reduceLT, Int.reduceLE, Int.reduceToNat, Int.reduceNeg, Int.reduceAdd, Int.reduceSub, Int.reduceMul, reduceIte, reduceCtorEq, Nat.reducePow, Nat.reduceDiv, Nat.reduceMod, Int.reduceBEq, List.length_map, hl]
    rw [loop_scan b.length (fun i => ⟨[(0, .d (.list (a.map TInstr.d))), (1, .d (.list (b.map TInstr.d))), (5, .d (.int .i64 i))], []⟩) (fun i => decide (a.getD i in0 ≠ b.getD i in0)) (fun i => (.ret, ⟨[(4, V.d (D.bool false))], []⟩)) (.exit 0, ⟨[], []⟩) (by omega) (fun _ => trivial) trivial ?_]
    case hs =>
      intro i hi
      have hm : a.getD i in0 ∈ a := by
        have : a.getD i in0 = a[i] := by simp [show i < a.length by omega]
        rw [this]; exact List.getElem_mem _
      have q := rSame_ev fu n (a.getD i in0) (b.getD i in0) (hb _ hm).1 (hb _ hm).2
      have hga := getD_map (f := TInstr.d) (d := in0) (show i < a.length by omega)
      have hgb := getD_map (f := TInstr.d) (d := in0) hi
      generalize a.getD i in0 = x at *
      generalize b.getD i in0 = y at *
      simp only [TInstr.d] at q hga hgb
      by_cases hxy : x = y
      · subst hxy
        simp only [decide_true] at q
        simp only [go_sem, Nat.reduceAdd, Nat.reduceMul, Nat.reduceSub, Nat.reduceLT, Nat.reduceLeDiff, Nat.reduceEqDiff, Nat.reduceBEq, Nat.reduceBeqDiff, Int.reduceEq, Int.reduceLT, Int.reduceLE, Int.reduceToNat, Int.reduceNeg, Int.reduceAdd, Int.reduceSub, Int.reduceMul, reduceIte, reduceCtorEq, Nat.reducePow, Nat.reduceDiv, Nat.reduceMod, Int.reduceBEq, List.length_map, hl, Int.ofNat_lt, hi, idx, hga, hgb, q, ne_eq, wrap_i64 (show -9223372036854775808 ≤ (i : Int) + 1 by omega) (by omega)]
        rfl
      · rw [decide_eq_false hxy] at q
        simp only [go_sem, Nat.reduceAdd, Nat.reduceMul, Nat.reduceSub, Nat.reduceLT, Nat.reduceLeDiff, Nat.reduceEqDiff, Nat.reduceBEq, Nat.reduceBeqDiff, Int.reduceEq, Int.reduceLT, Int.reduceLE, Int.reduceToNat, Int.reduceNeg, Int.reduceAdd, Int.reduceSub, Int.reduceMul, reduceIte, reduceCtorEq, Nat.reducePow, Nat.reduceDiv, Nat.reduceMod, Int.reduceBEq, List.length_map, hl, Int.ofNat_lt, hi, idx, hga, hgb, q, hxy, ne_eq]
    case he => simp only [go_sem, Nat.reduceAdd, Nat.reduceMul, Nat.reduceSub, Nat.reduceLT, Nat.reduceLeDiff, Nat.reduceEqDiff, Nat.reduceBEq, Nat.reduceBeqDiff, Int.reduceEq, Int.reduceLT, Int.reduceLE, Int.reduceToNat, Int.reduceNeg, Int.reduceAdd, Int.reduceSub, Int.reduceMul, reduceIte, reduceCtorEq, Nat.reducePow, Nat.reduceDiv, Nat.reduceMod, Int.reduceBEq, List.length_map, hl, Int.ofNat_lt, Nat.lt_irrefl]
    · unfold Go.Ev.scan
      have := lists_same (d := in0) hl
      rw [hl] at this
      cases hf : first (fun i => decide (a.getD i in0 ≠ b.getD i in0)) 0 b.length with
      | none => simp only [go_sem, Nat.reduceAdd, Nat.reduceMul, Nat.reduceSub, Nat.reduceLT, Nat.reduceLeDiff, Nat.reduceEqDiff, Nat.reduceBEq, Nat.reduceBeqDiff, Int.reduceEq, Int.reduceLT, Int.reduceLE, Int.reduceToNat, Int.reduceNeg, Int.reduceAdd, Int.reduceSub, Int.reduceMul, reduceIte, reduceCtorEq, Nat.reducePow, Nat.reduceDiv, Nat.reduceMod, Int.reduceBEq, this.1 hf]
      | some i =>
        have hne : ¬ a = b := fun e => by rw [this.2 e] at hf; cases hf
        simp only [go_sem, Nat.reduceAdd, Nat.reduceMul, Nat.reduceSub, Nat.reduceLT, Nat.reduceLeDiff, Nat.reduceEqDiff, Nat.reduceBEq, Nat.reduceBeqDiff, Int.reduceEq, Int.reduceLT, Int.reduceLE, Int.reduceToNat, Int.reduceNeg, Int.reduceAdd, Int.reduceSub, Int.reduceMul, reduceIte, reduceCtorEq, Nat.reducePow, Nat.reduceDiv, Nat.reduceMod, Int.reduceBEq, hne]
    · rfl
  · have hne : ¬ a = b := fun e => hl (by rw [e])
    have hl2 : ¬ ((a.length : Int) = b.length) := by omega
    simp only [go_sem, Nat.reduceAdd, Nat.reduceMul, Nat.reduceSub, Nat.reduceLT, Nat.reduceLeDiff, Nat.reduceEqDiff, Nat.reduceBEq, Nat.reduceBeqDiff, Int.reduceEq, Int.reduceLT, Int.reduceLE, Int.reduceToNat, Int.reduceNeg, Int.reduceAdd, Int.reduceSub, Int.reduceMul, reduceIte, reduceCtorEq, Nat.reducePow, Nat.reduceDiv, Nat.reduceMod, Int.reduceBEq, List.length_map, hl2, hne]
theorem rSaneC_ev (fu n : Nat) (l : List TInstr) (hfl : l.length < fu) (hs : l.length < 100000) (hb : lab fu l) : evF (G fu) (n+5) 47 [.d (.list (l.map TInstr.d))] [] = some (.d (.bool (bodySane l)), []) :=
  rSaneB_ev fu n l (fun i hi => rSane_ev fu n i (hb i hi).1 (hb i hi).2) hfl hs
theorem rBPut_ev (fu n : Nat) (b : List Int) (l : List TInstr) (hc : ∀ i ∈ l, Cok i) (hf : 1000 < fu) (hfl : l.length < fu) (hb : lab fu l) (hs : l.length < 100000) (hl : b.length < 1099500000000) :
    evF (G fu) (n+6) 42 [.d (.list (byt b)), .d (.list (l.map TInstr.d))] [] = bputR b l := by
  have S := rSaneC_ev fu n l hfl hs hb
  unfold bputR
  cases hsan : bodySane l with
  | false =>
    rw [hsan] at S
    rw [evF.eq_2, evX.eq_def, Gext, exts_no _ (f := 42) (by decide), GP, Tryd.func42]; simp only [Tryd.f42, evB]
    simp only [go_sem, Nat.reduceAdd, Nat.reduceMul, Nat.reduceSub, Nat.reduceLT, Nat.reduceLeDiff, Nat.reduceEqDiff, Nat.reduceBEq, Nat.reduceBeqDiff, Int.reduceEq, Int.reduceLT, Int.reduceLE, Int.reduceToNat, Int.reduceNeg, Int.reduceAdd, Int.reduceSub, Int.reduceMul, reduceIte, reduceCtorEq, Nat.reducePow, Nat.reduceDiv, Nat.reduceMod, Int.reduceBEq, S]
  | true =>
    rw [hsan] at S
    obtain ⟨w, hd, h4096, hall⟩ := bodySane_all hsan
    have htb := byt_take b
    have hPl : ∀ j, (b ++ encs (l.take j)).length < 1099510000000 := fun j => by
      have h1 := encs_len (l.take j) (fun i hi => hall i (List.mem_of_mem_take hi))
      have h2 : (l.take j).length ≤ 4096 := by rw [List.length_take]; omega
      simp only [List.length_append]
      omega
    rw [evF.eq_2, evX.eq_def, Gext, exts_no _ (f := 42) (by decide), GP, Tryd.func42]; simp only [Tryd.f42, evB]
    simp only [go_sem, Nat.reduceAdd, Nat.reduceMul, Nat.reduceSub, Nat.reduceLT, Nat.reduceLeDiff, Nat.reduceEqDiff, Nat.reduceBEq, Nat.reduceBeqDiff, Int.reduceEq, Int.reduceLT, Int.reduceLE, Int.reduceToNat, Int.reduceNeg, Int.reduceAdd, Int.reduceSub, Int.reduceMul, reduceIte, reduceCtorEq, Nat.reducePow, Nat.reduceDiv, Nat.reduceMod, Int.reduceBEq, S, byt_sized, byt_len, htb, show b.length ≤ 1099511627776 by omega]
    generalize hr : loopN _ _ _ _ _ = r
    obtain ⟨x, s1, rfl, hx, rfl, c, rfl⟩ : ∃ x s1, r = some (x, s1) ∧ leaves x ∧ (x = .exit 0 ∧ ∃ c : Bool, s1 = ⟨[(6, .row 896 0 0 (b ++ encs l).length)], [(896, .row 1 (byt (b ++ encs l)) 0 false c)]⟩) := by
      rw [← hr]
      clear hr r
      refine loop_inv (J := fun x s1 => x = .exit 0 ∧ ∃ c : Bool, s1 = ⟨[(6, .row 896 0 0 (b ++ encs l).length)], [(896, .row 1 (byt (b ++ encs l)) 0 false c)]⟩)
        l.length (fun j z => ∃ c : Bool, z = ⟨[(1, .d (.list (l.map TInstr.d))), (6, .row 896 0 0 (b ++ encs (l.take j)).length), (7, .d (.int .i64 j))], [(896, .row 1 (byt (b ++ encs (l.take j))) 0 false c)]⟩) ?_ ?_ fu _ hfl ⟨true, by simp [encs]⟩
      · rintro j z hj ⟨c, rfl⟩
        have hx : (l.map TInstr.d)[j]? = some (l.getD j in0).d := getD_map hj
        have hv : l.getD j in0 ∈ l := by
          rw [List.getD_eq_getElem?_getD, List.getElem?_eq_getElem hj]; exact List.getElem_mem hj
        have hjI : (j : Int) < l.length := by omega
        have hP := encs_take l hj
        have hq := hPl j
        have hp := rPut_ev fu n [] (l.getD j in0) (hc _ hv) (by omega) (hb _ hv).1 (hb _ hv).2 (by simp)
        unfold putR at hp
        rw [if_pos (hall _ hv)] at hp
        simp only [List.nil_append] at hp
        have hel := enc_len (l.getD j in0) ((saneF_iff _).1 (hall _ hv))
        have Wj := wrap_i64 (show -9223372036854775808 ≤ (j : Int) + 1 by omega) (by omega)
        rw [hP, ← List.append_assoc]
        generalize b ++ encs (l.take j) = P at *
        generalize l.getD j in0 = i at *
        have ht3 := byt_take P
        have ht4 := byt_take (enc i)
        have hcat : byt P ++ byt (enc i) = byt (P ++ enc i) := by simp [byt]
        simp only [TInstr.d, byt, List.map_nil] at hx hp
        simp only [byt] at ht3 ht4 hcat
        have hlen : P.length + (enc i).length ≤ 1099511627776 := by omega
        have hsz := byt_sized (enc i)
        simp only [byt] at hsz
        simp only [go_sem, Nat.reduceAdd, Nat.reduceMul, Nat.reduceSub, Nat.reduceLT, Nat.reduceLeDiff, Nat.reduceEqDiff, Nat.reduceBEq, Nat.reduceBeqDiff, Int.reduceEq, Int.reduceLT, Int.reduceLE, Int.reduceToNat, Int.reduceNeg, Int.reduceAdd, Int.reduceSub, Int.reduceMul, reduceIte, reduceCtorEq, Nat.reducePow, Nat.reduceDiv, Nat.reduceMod, Int.reduceBEq, List.length_map, hjI, idx, hx, hp, Wj, ht3, ht4, hsz, hlen, hcat]
        exact ⟨.normal, _, rfl, true, by simp⟩
      · rintro z ⟨c, rfl⟩
        simp only [go_sem, Nat.reduceAdd, Nat.reduceMul, Nat.reduceSub, Nat.reduceLT, Nat.reduceLeDiff, Nat.reduceEqDiff, Nat.reduceBEq, Nat.reduceBeqDiff, Int.reduceEq, Int.reduceLT, Int.reduceLE, Int.reduceToNat, Int.reduceNeg, Int.reduceAdd, Int.reduceSub, Int.reduceMul, reduceIte, reduceCtorEq, Nat.reducePow, Nat.reduceDiv, Nat.reduceMod, Int.reduceBEq, List.length_map, Int.lt_irrefl, List.take_length]
        exact ⟨_, _, rfl, trivial, rfl, c, rfl⟩
    have hq : (b ++ encs l).length < 1099510000000 := by have := hPl l.length; rwa [List.take_length] at this
    have ht3 := byt_take (b ++ encs l)
    have hz1 : sizedAll 1 [D.int .u8 11] = true := rfl
    generalize b ++ encs l = P at *
    have hq2 : P.length ≤ 1099511627775 := by omega
    rw [← byt_app, ← len_app P 11]
    simp only [go_sem, Nat.reduceAdd, Nat.reduceMul, Nat.reduceSub, Nat.reduceLT, Nat.reduceLeDiff, Nat.reduceEqDiff, Nat.reduceBEq, Nat.reduceBeqDiff, Int.reduceEq, Int.reduceLT, Int.reduceLE, Int.reduceToNat, Int.reduceNeg, Int.reduceAdd, Int.reduceSub, Int.reduceMul, reduceIte, reduceCtorEq, Nat.reducePow, Nat.reduceDiv, Nat.reduceMod, Int.reduceBEq, ht3, hz1, hq2]
end Go.Proofs.YtklnkkejkeelaaaDoor.E

/- The reading of the law's theirs, the document's Equal (avocetlaw06, avocetref06). -/
set_option autoImplicit false
set_option maxRecDepth 100000
set_option maxHeartbeats 8000000
set_option linter.unusedSimpArgs false
set_option linter.unusedVariables false
set_option pp.maxSteps 20000
namespace Go.Proofs.YtklnkkejkeelaaaDoor.E
open Go.Ev
theorem szn (a b : Int) : sizedAll 2 [D.agg [.int .i64 a, .int .i64 b]] = true := rfl
theorem take_snocN {L : List Nest} {k : Nat} (h : k < L.length) : L.take (k + 1) = L.take k ++ [L.getD k n0] := by
  rw [List.take_add_one, List.getD_eq_getElem?_getD, List.getElem?_eq_getElem h]; rfl
inductive ThH (o : List Nest) : V → Map Go.Ev.Obj → Prop
  | nil : o = [] → ThH o .nilsl []
  | row (ys : List D) (m : Nat) (c : Bool) : ys = o.map nestD → m = o.length → ThH o (.row 1600 0 0 m) [(1600, .row 2 ys 0 false c)]
theorem theirs_ev (fu n : Nat) (M : List Nest) (hf : M.length < fu) (hs : M.length < 100000) : evF (G fu) (n+1) 45 [.d (.list (M.map nestD))] [] = some (.row 0 0 0 M.length, [.row 2 (M.map nestD) 0 false false]) := by
  rw [evF.eq_2, evX.eq_def, Gext, exts_no _ (f := 45) (by decide), GP, Tryd.func45]; simp only [Tryd.f45, evB]
  simp only [go_sem, Nat.reduceAdd, Nat.reduceMul, Nat.reduceSub, Nat.reduceLT, Nat.reduceLeDiff, Nat.reduceEqDiff, Nat.reduceBEq, Nat.reduceBeqDiff, Int.reduceEq, Int.reduceLT, Int.reduceLE, Int.reduceToNat, Int.reduceNeg, Int.reduceAdd, Int.reduceSub, Int.reduceMul, reduceIte, reduceCtorEq, Nat.reducePow, Nat.reduceDiv, Nat.reduceMod, Int.reduceBEq]
  generalize hr : loopN _ _ _ _ _ = r
  obtain ⟨y, s1, rfl, hy, rfl, v, H, hH, rfl⟩ : ∃ y s1, r = some (y, s1) ∧ leaves y ∧ (y = .exit 0 ∧ ∃ v H, ThH M v H ∧ s1 = ⟨[(3, v)], H⟩) := by
    rw [← hr]
    clear hr r
    refine loop_inv (J := fun y s1 => y = .exit 0 ∧ ∃ v H, ThH M v H ∧ s1 = ⟨[(3, v)], H⟩)
      M.length (fun k z => ∃ v H, ThH (M.take k) v H ∧ z = ⟨[(0, .d (.list (M.map nestD))), (3, v), (4, .d (.int .i64 k))], H⟩) ?_ ?_ fu _ hf ⟨_, _, .nil rfl, rfl⟩
    · rintro k z hk ⟨v, H, hH, rfl⟩
      have hkI : (k : Int) < M.length := by omega
      have Wk := wrap_i64 (show -9223372036854775808 ≤ (k : Int) + 1 by omega) (by omega)
      have hg : (M.map nestD)[k]? = some (nestD (M.getD k n0)) := getD_map (d := n0) hk
      have hol : (M.take k).length + 1 ≤ 1099511627776 := by rw [List.length_take]; omega
      rw [take_snocN hk]
      generalize M.take k = o at *
      generalize M.getD k n0 = p at *
      obtain ⟨p1, p2⟩ := p
      simp only [nestD] at hg
      have ht : (o.map nestD).take o.length = o.map nestD := List.take_of_length_le (by simp)
      cases hH with
      | nil h3 =>
        subst h3
        simp only [go_sem, Nat.reduceAdd, Nat.reduceMul, Nat.reduceSub, Nat.reduceLT, Nat.reduceLeDiff, Nat.reduceEqDiff, Nat.reduceBEq, Nat.reduceBeqDiff, Int.reduceEq, Int.reduceLT, Int.reduceLE, Int.reduceToNat, Int.reduceNeg, Int.reduceAdd, Int.reduceSub, Int.reduceMul, reduceIte, reduceCtorEq, Nat.reducePow, Nat.reduceDiv, Nat.reduceMod, Int.reduceBEq, List.length_map, hkI, idx, hg, Wk, szn]
        rw [cond_free]
        rotate_left
        · rfl
        simp only [go_sem, Nat.reduceAdd, Nat.reduceMul, Nat.reduceSub, Nat.reduceLT, Nat.reduceLeDiff, Nat.reduceEqDiff, Nat.reduceBEq, Nat.reduceBeqDiff, Int.reduceEq, Int.reduceLT, Int.reduceLE, Int.reduceToNat, Int.reduceNeg, Int.reduceAdd, Int.reduceSub, Int.reduceMul, reduceIte, reduceCtorEq, Nat.reducePow, Nat.reduceDiv, Nat.reduceMod, Int.reduceBEq, Wk]
        exact ⟨.normal, _, rfl, _, _, .row _ _ _ rfl rfl, rfl⟩
      | row ys m c h3 h4 =>
        subst h3 h4
        simp only [go_sem, Nat.reduceAdd, Nat.reduceMul, Nat.reduceSub, Nat.reduceLT, Nat.reduceLeDiff, Nat.reduceEqDiff, Nat.reduceBEq, Nat.reduceBeqDiff, Int.reduceEq, Int.reduceLT, Int.reduceLE, Int.reduceToNat, Int.reduceNeg, Int.reduceAdd, Int.reduceSub, Int.reduceMul, reduceIte, reduceCtorEq, Nat.reducePow, Nat.reduceDiv, Nat.reduceMod, Int.reduceBEq, List.length_map, hkI, idx, hg, Wk, szn, ht, hol]
        rw [cond_free]
        rotate_left
        · rfl
        simp only [go_sem, Nat.reduceAdd, Nat.reduceMul, Nat.reduceSub, Nat.reduceLT, Nat.reduceLeDiff, Nat.reduceEqDiff, Nat.reduceBEq, Nat.reduceBeqDiff, Int.reduceEq, Int.reduceLT, Int.reduceLE, Int.reduceToNat, Int.reduceNeg, Int.reduceAdd, Int.reduceSub, Int.reduceMul, reduceIte, reduceCtorEq, Nat.reducePow, Nat.reduceDiv, Nat.reduceMod, Int.reduceBEq, Wk]
        exact ⟨.normal, _, rfl, _, _, .row _ _ _ (by simp [nestD]) (by simp), rfl⟩
    · rintro z ⟨v, H, hH, rfl⟩
      rw [List.take_length] at hH
      cases hH with
      | nil h3 =>
        simp only [go_sem, Nat.reduceAdd, Nat.reduceMul, Nat.reduceSub, Nat.reduceLT, Nat.reduceLeDiff, Nat.reduceEqDiff, Nat.reduceBEq, Nat.reduceBeqDiff, Int.reduceEq, Int.reduceLT, Int.reduceLE, Int.reduceToNat, Int.reduceNeg, Int.reduceAdd, Int.reduceSub, Int.reduceMul, reduceIte, reduceCtorEq, Nat.reducePow, Nat.reduceDiv, Nat.reduceMod, Int.reduceBEq, List.length_map, Int.lt_irrefl]
        exact ⟨_, _, rfl, trivial, rfl, _, _, .nil h3, rfl⟩
      | row ys m c h3 h4 =>
        simp only [go_sem, Nat.reduceAdd, Nat.reduceMul, Nat.reduceSub, Nat.reduceLT, Nat.reduceLeDiff, Nat.reduceEqDiff, Nat.reduceBEq, Nat.reduceBeqDiff, Int.reduceEq, Int.reduceLT, Int.reduceLE, Int.reduceToNat, Int.reduceNeg, Int.reduceAdd, Int.reduceSub, Int.reduceMul, reduceIte, reduceCtorEq, Nat.reducePow, Nat.reduceDiv, Nat.reduceMod, Int.reduceBEq, List.length_map, Int.lt_irrefl]
        exact ⟨_, _, rfl, trivial, rfl, _, _, .row _ _ _ h3 h4, rfl⟩
  cases hH with
  | nil h3 => simp only [go_sem, Nat.reduceAdd, Nat.reduceMul, Nat.reduceSub, Nat.reduceLT, Nat.reduceLeDiff, Nat.reduceEqDiff, Nat.reduceBEq, Nat.reduceBeqDiff, Int.reduceEq, Int.reduceLT, Int.reduceLE, Int.reduceToNat, Int.reduceNeg, Int.reduceAdd, Int.reduceSub, Int.reduceMul, reduceIte, reduceCtorEq, Nat.reducePow, Nat.reduceDiv, Nat.reduceMod, Int.reduceBEq, h3, List.map_nil, List.length_nil]
  | row ys m c h3 h4 =>
    subst h3 h4
    simp only [go_sem, Nat.reduceAdd, Nat.reduceMul, Nat.reduceSub, Nat.reduceLT, Nat.reduceLeDiff, Nat.reduceEqDiff, Nat.reduceBEq, Nat.reduceBeqDiff, Int.reduceEq, Int.reduceLT, Int.reduceLE, Int.reduceToNat, Int.reduceNeg, Int.reduceAdd, Int.reduceSub, Int.reduceMul, reduceIte, reduceCtorEq, Nat.reducePow, Nat.reduceDiv, Nat.reduceMod, Int.reduceBEq]
theorem rEqual_ev (fu n : Nat) (M : List Nest) (hf : M.length < fu) (hs : M.length < 100000) : evF (G fu) (n+1) 44 [.d (.list (M.map nestD)), .d (.list (M.map nestD))] [] = some (.d (.bool true), []) := by
  rw [evF.eq_2, evX.eq_def, Gext, exts_no _ (f := 44) (by decide), GP, Tryd.func44]; simp only [Tryd.f44, evB]
  simp only [go_sem, Nat.reduceAdd, Nat.reduceMul, Nat.reduceSub, Nat.reduceLT, Nat.reduceLeDiff, Nat.reduceEqDiff, Nat.reduceBEq, Nat.reduceBeqDiff, Int.reduceEq, Int.reduceLT, Int.reduceLE, Int.reduceToNat, Int.reduceNeg, Int.reduceAdd, Int.reduceSub, Int.reduceMul, reduceIte, reduceCtorEq, Nat.reducePow, Nat.reduceDiv, Nat.reduceMod, Int.reduceBEq, List.length_map]
  rw [loop_some M.length (fun k => ⟨[(0, .d (.list (M.map nestD))), (1, .d (.list (M.map nestD))), (5, .d (.int .i64 k))], []⟩) (.exit 0, ⟨[], []⟩) trivial hf ?_]
  case hs =>
    intro k hk
    have hkI : (k : Int) < M.length := by omega
    have Wk := wrap_i64 (show -9223372036854775808 ≤ (k : Int) + 1 by omega) (by omega)
    have hg : (M.map nestD)[k]? = some (nestD (M.getD k n0)) := getD_map (d := n0) hk
    generalize M.getD k n0 = p at *
    obtain ⟨p1, p2⟩ := p
    simp only [nestD] at hg
    simp only [go_sem, Nat.reduceAdd, Nat.reduceMul, Nat.reduceSub, Nat.reduceLT, Nat.reduceLeDiff, Nat.reduceEqDiff, Nat.reduceBEq, Nat.reduceBeqDiff, Int.reduceEq, Int.reduceLT, Int.reduceLE, Int.reduceToNat, Int.reduceNeg, Int.reduceAdd, Int.reduceSub, Int.reduceMul, reduceIte, reduceCtorEq, Nat.reducePow, Nat.reduceDiv, Nat.reduceMod, Int.reduceBEq, List.length_map, hkI, idx, hg, Wk, sameKind]
    try rfl
  case he => simp only [go_sem, Nat.reduceAdd, Nat.reduceMul, Nat.reduceSub, Nat.reduceLT, Nat.reduceLeDiff, Nat.reduceEqDiff, Nat.reduceBEq, Nat.reduceBeqDiff, Int.reduceEq, Int.reduceLT, Int.reduceLE, Int.reduceToNat, Int.reduceNeg, Int.reduceAdd, Int.reduceSub, Int.reduceMul, reduceIte, reduceCtorEq, Nat.reducePow, Nat.reduceDiv, Nat.reduceMod, Int.reduceBEq, List.length_map, Int.lt_irrefl]
  · simp only [go_sem, Nat.reduceAdd, Nat.reduceMul, Nat.reduceSub, Nat.reduceLT, Nat.reduceLeDiff, Nat.reduceEqDiff, Nat.reduceBEq, Nat.reduceBeqDiff, Int.reduceEq, Int.reduceLT, Int.reduceLE, Int.reduceToNat, Int.reduceNeg, Int.reduceAdd, Int.reduceSub, Int.reduceMul, reduceIte, reduceCtorEq, Nat.reducePow, Nat.reduceDiv, Nat.reduceMod, Int.reduceBEq]
  · rfl
end Go.Proofs.YtklnkkejkeelaaaDoor.E
