/- What body.Read tells of what body.Put laid; slices.EqualFunc, body.Same. -/
import Derived.Test.YtklnkkejkeelaaaDoorL9
import Derived.Test.YtklnkkejkeelaaaDoorEvD
set_option linter.unnecessarySimpa false
set_option linter.unusedSimpArgs false
set_option linter.unusedVariables false
set_option autoImplicit false
set_option maxRecDepth 100000
set_option maxHeartbeats 4000000
set_option linter.unusedSimpArgs false
set_option linter.unusedVariables false
set_option pp.maxSteps 20000
namespace Go.Proofs.YtklnkkejkeelaaaDoor.E
open Go.Ev
theorem encs_take (l : List TInstr) {k : Nat} (hk : k < l.length) : encs (l.take (k + 1)) = encs (l.take k) ++ enc (l.getD k in0) := by
  unfold encs
  rw [List.take_add_one, List.flatMap_append, List.getD_eq_getElem?_getD, List.getElem?_eq_getElem hk]
  simp
theorem encs_split (l : List TInstr) {k : Nat} (hk : k < l.length) : encs l = encs (l.take k) ++ (enc (l.getD k in0) ++ encs (l.drop (k + 1))) := by
  have h : l = l.take k ++ (l.getD k in0 :: l.drop (k + 1)) := by
    have h2 : l.getD k in0 = l[k] := by simp [List.getD_eq_getElem?_getD, hk]
    rw [h2, List.getElem_cons_drop, List.take_append_drop]
  conv => lhs; rw [h]
  simp [encs]
/-- What is read at the place of l's k-th instruction. -/
theorem dec_at (pre rest : List Int) (l : List TInstr) (hs : ∀ i ∈ l, saneF i = true) (hc : ∀ i ∈ l, Cok i) {k : Nat} (hk : k < l.length) :
    dec ((pre ++ encs l ++ rest).drop (pre.length + (encs (l.take k)).length)) = .ok (l.getD k in0, (enc (l.getD k in0)).length) := by
  have hm : l.getD k in0 ∈ l := by
    rw [List.getD_eq_getElem?_getD, List.getElem?_eq_getElem hk]; exact List.getElem_mem hk
  rw [encs_split l hk]
  have e : pre ++ (encs (l.take k) ++ (enc (l.getD k in0) ++ encs (l.drop (k + 1)))) ++ rest = (pre ++ encs (l.take k)) ++ (enc (l.getD k in0) ++ (encs (l.drop (k + 1)) ++ rest)) := by simp
  rw [e, ← List.length_append, drop_left]
  exact dec_enc ((saneF_iff _).1 (hs _ hm)) (hc _ hm) _
theorem dec_end (pre tail : List Int) (l : List TInstr) : dec ((pre ++ encs l ++ 11 :: tail).drop (pre.length + (encs l).length)) = .ok (⟨11, 0, 0, 0, []⟩, 1) := by
  rw [← List.length_append, drop_left]
  rfl
theorem dec_none (pre : List Int) (l : List TInstr) : dec ((pre ++ encs l ++ []).drop (pre.length + (encs l).length)) = .error 2 := by
  rw [← List.length_append, drop_left]
  rfl
theorem walkS_mono {l : List TInstr} {k : Nat} {st : List Nest} {s : Int} (h : walkG tellS 0 l k = some (st, s)) : ∀ (j : Nat) {st' : List Nest} {s' : Int}, walkG tellS 0 l (k + j) = some (st', s') → s ≤ s' := by
  intro j
  induction j with
  | zero =>
    intro st' s' h'
    rw [Nat.add_zero, h] at h'
    cases h'; omega
  | succ j ih =>
    intro st' s' h'
    rw [← Nat.add_assoc] at h'
    simp only [walkG] at h'
    split at h'
    · cases h'
    · rename_i st0 s0 h0
      split at h'
      · cases h'
      · simp only [Option.some.injEq, Prod.mk.injEq] at h'
        obtain ⟨_, rfl⟩ := h'
        have := ih h0
        simp only [tellS]
        omega
theorem ifAt_take {l : List TInstr} {k : Nat} {a : Int} (h0 : 0 ≤ a) (h1 : a < k) : ifAt (l.take k) a = ifAt l a := by
  unfold ifAt
  have h : a.toNat < k := by omega
  simp only [List.getD_eq_getElem?_getD, List.getElem?_take, h, if_true]
theorem stepF_take {l : List TInstr} {k : Nat} {st : List Nest} {op : Int} (h : ∀ p ∈ st, nestIn k p) : stepF (l.take k) st k op = stepF l st k op := by
  unfold stepF
  cases st with
  | nil => rfl
  | cons t r =>
    obtain ⟨h0, h1, _⟩ := h t (by simp)
    simp only [ifAt_take h0 h1]
/-- Whatever follows: what is read, if each instruction is told and the last one's end is R. -/
theorem brd_all {B : List Int} {x0 : Nat} {l : List TInstr} {R : Except Int (List TInstr × Nat)} (hw : walkOk l = true) (hd : deepF l ≤ 32) (h4 : l.length ≤ 4096)
    (hs : ∀ k, k < l.length → dec (B.drop (x0 + (encs (l.take k)).length)) = .ok (l.getD k in0, (enc (l.getD k in0)).length))
    (he : ∀ f, brd B (f + 1) (x0 + (encs l).length) l [] = R) :
    ∀ (j k : Nat) (st : List Nest) (s : Int), k + j = l.length → walkG tellS 0 l k = some (st, s) → brd B (4096 - k + 1) (x0 + (encs (l.take k)).length) (l.take k) st = R := by
  obtain ⟨stn, sn, hn⟩ : ∃ stn sn, walkG tellS 0 l l.length = some (stn, sn) := by
    cases h : walkG tellS 0 l l.length with
    | none => rw [walkOk_none h] at hw; cases hw
    | some q => exact ⟨q.1, q.2, rfl⟩
  have hdn : sn ≤ 32 := by
    unfold deepF at hd
    rw [hn] at hd
    exact hd
  intro j
  induction j with
  | zero =>
    intro k st s hk h
    obtain rfl : k = l.length := by omega
    rw [walkOk_of h] at hw
    obtain rfl : st = [] := by simpa using hw
    rw [List.take_length]
    exact he _
  | succ j ih =>
    intro k st s hk h
    have hkl : k < l.length := by omega
    obtain ⟨f, hf⟩ : ∃ f, 4096 - k = f + 1 := ⟨4096 - k - 1, by omega⟩
    have hin := (walkG_in h).1
    cases h1 : stepF l st k (l.getD k in0).op with
    | none =>
      have : walkG tellS 0 l (k + 1) = none := by simp only [walkG, h, h1]
      rw [walkG_none this l.length (by omega)] at hn
      cases hn
    | some q =>
      obtain ⟨st', deep, e⟩ := q
      have h2 : walkG tellS 0 l (k + 1) = some (st', max s deep) := by simp only [walkG, h, h1]; rfl
      obtain ⟨d, hd2⟩ : ∃ d, k + 1 + d = l.length := ⟨l.length - (k + 1), by omega⟩
      have h3 := walkS_mono h2 d (by rw [hd2]; exact hn)
      have hlen : (l.take k).length = k := by rw [List.length_take]; omega
      have hne : ¬ ((l.getD k in0).op = 11 ∧ st = []) := by
        rintro ⟨q1, rfl⟩
        rw [stepF_bare (.inr q1)] at h1
        cases h1
      rw [hf, brd_go (hs k hkl) hne (by rw [hlen, stepF_take hin]; exact h1) (by omega) (by omega)]
      have := ih (k + 1) st' _ (by omega) h2
      rw [show 4096 - (k + 1) + 1 = f + 1 by omega, encs_take l hkl] at this
      rw [List.length_append, ← Nat.add_assoc, List.take_add_one] at this
      rw [← this]
      congr 2
      rw [List.getD_eq_getElem?_getD, List.getElem?_eq_getElem hkl]
      rfl
theorem brd_put {l : List TInstr} (h : bodySane l = true) (hc : ∀ i ∈ l, Cok i) (pre tail : List Int) : brd (pre ++ encs l ++ 11 :: tail) 4097 pre.length [] [] = .ok (l, pre.length + (encs l).length + 1) := by
  obtain ⟨w, hd, h4, hall⟩ := bodySane_all h
  have := brd_all (B := pre ++ encs l ++ 11 :: tail) (x0 := pre.length) (R := .ok (l, pre.length + (encs l).length + 1)) w hd (by omega) (fun k hk => dec_at pre (11 :: tail) l hall hc hk) (fun f => brd_end (dec_end pre tail l) rfl) l.length 0 [] 0 (by omega) rfl
  exact this
theorem brd_short {l : List TInstr} (h : bodySane l = true) (hc : ∀ i ∈ l, Cok i) (pre : List Int) : brd (pre ++ encs l) 4097 pre.length [] [] = .error 2 := by
  obtain ⟨w, hd, h4, hall⟩ := bodySane_all h
  have := brd_all (B := pre ++ encs l ++ []) (x0 := pre.length) (R := .error 2) w hd (by omega) (fun k hk => dec_at pre [] l hall hc hk) (fun f => by simp only [brd, dec_none pre l]) l.length 0 [] 0 (by omega) rfl
  rw [List.append_nil] at this
  exact this
theorem encs_bs {l : List TInstr} (h : ∀ i ∈ l, saneF i = true) (hc : ∀ i ∈ l, Cok i) : Bs (encs l) := by
  intro x hx
  obtain ⟨i, hi, hx⟩ := List.mem_flatMap.1 hx
  exact enc_bs ((saneF_iff i).1 (h i hi)) (hc i hi) x hx
theorem eqf_ev (fu n : Nat) (a b : List TInstr) (h : a.length < fu) (hs : a.length < 1000000) (hb : lab fu a) : evF (G fu) (n+3) 79 [.d (.list (a.map TInstr.d)), .d (.list (b.map TInstr.d)), .fn (.func 27) [] []] [] = some (.d (.bool (decide (a = b))), []) := by
  rw [evF.eq_2, evX.eq_def, Gext, exts_no _ (f := 79) (by decide), GP, Tryd.func79]; simp only [Tryd.f79, evB]
  by_cases hl : a.length = b.length
  · simp only [go_sem, Nat.reduceAdd, Nat.reduceMul, Nat.reduceSub, Nat.reduceLT, Nat.reduceLeDiff, Nat.reduceEqDiff, Nat.reduceBEq, Nat.reduceBeqDiff, Int.reduceEq, Int.reduceLT, Int.reduceLE, Int.reduceToNat, Int.reduceNeg, Int.reduceAdd, Int.reduceSub, Int.reduceMul, reduceIte, reduceCtorEq, Nat.reducePow, Nat.reduceDiv, Nat.reduceMod, Int.reduceBEq, List.length_map, hl]
    rw [loop_scan b.length (fun i => ⟨[(1, .d (.list (b.map TInstr.d))), (2, .fn (.func 27) [] []), (15, .d (.list (a.map TInstr.d))), (16, .d (.int .i64 b.length)), (17, .d (.int .i64 i))], []⟩) (fun i => decide (a.getD i in0 ≠ b.getD i in0)) (fun i => (.ret, ⟨[(6, V.d (D.bool false))], []⟩)) (.exit 0, ⟨[], []⟩) (by omega) (fun _ => trivial) trivial ?_]
    case hs =>
      intro i hi
      have hm : a.getD i in0 ∈ a := by
        have : a.getD i in0 = a[i] := by simp [show i < a.length by omega]
        rw [this]; exact List.getElem_mem _
      have q := same_ev fu n (a.getD i in0).op (a.getD i in0).a (a.getD i in0).b (a.getD i in0).k (b.getD i in0).op (b.getD i in0).a (b.getD i in0).b (b.getD i in0).k (a.getD i in0).labels (b.getD i in0).labels (hb _ hm).1 (hb _ hm).2
      simp only [go_sem, Nat.reduceAdd, Nat.reduceMul, Nat.reduceSub, Nat.reduceLT, Nat.reduceLeDiff, Nat.reduceEqDiff, Nat.reduceBEq, Nat.reduceBeqDiff, Int.reduceEq, Int.reduceLT, Int.reduceLE, Int.reduceToNat, Int.reduceNeg, Int.reduceAdd, Int.reduceSub, Int.reduceMul, reduceIte, reduceCtorEq, Nat.reducePow, Nat.reduceDiv, Nat.reduceMod, Int.reduceBEq, Int.ofNat_lt, hi, idx, getD_map (f := TInstr.d) (d := in0) (show i < a.length by omega), getD_map (f := TInstr.d) (d := in0) hi, TInstr.d, q]
      generalize a.getD i in0 = x
      generalize b.getD i in0 = y
      by_cases hb : x = y
      · subst hb
        simp only [go_sem, Nat.reduceAdd, Nat.reduceMul, Nat.reduceSub, Nat.reduceLT, Nat.reduceLeDiff, Nat.reduceEqDiff, Nat.reduceBEq, Nat.reduceBeqDiff, Int.reduceEq, Int.reduceLT, Int.reduceLE, Int.reduceToNat, Int.reduceNeg, Int.reduceAdd, Int.reduceSub, Int.reduceMul, reduceIte, reduceCtorEq, Nat.reducePow, Nat.reduceDiv, Nat.reduceMod, Int.reduceBEq, ne_eq, wrap_i64 (show -9223372036854775808 ≤ (i : Int) + 1 by omega) (by omega)]
        rfl
      · have hb2 : ¬ (x.op = y.op ∧ x.a = y.a ∧ x.b = y.b ∧ x.k = y.k ∧ x.labels = y.labels) := fun e => hb ((TInstr.ext_iff x y).1 e)
        simp only [go_sem, Nat.reduceAdd, Nat.reduceMul, Nat.reduceSub, Nat.reduceLT, Nat.reduceLeDiff, Nat.reduceEqDiff, Nat.reduceBEq, Nat.reduceBeqDiff, Int.reduceEq, Int.reduceLT, Int.reduceLE, Int.reduceToNat, Int.reduceNeg, Int.reduceAdd, Int.reduceSub, Int.reduceMul, reduceIte, reduceCtorEq, Nat.reducePow, Nat.reduceDiv, Nat.reduceMod, Int.reduceBEq, hb, hb2, ne_eq, wrap_i64 (show -9223372036854775808 ≤ (i : Int) + 1 by omega) (by omega)]
    case he => simp only [go_sem, Nat.reduceAdd, Nat.reduceMul, Nat.reduceSub, Nat.reduceLT, Nat.reduceLeDiff, Nat.reduceEqDiff, Nat.reduceBEq, Nat.reduceBeqDiff, Int.reduceEq, Int.reduceLT, Int.reduceLE, Int.reduceToNat, Int.reduceNeg, Int.reduceAdd, Int.reduceSub, Int.reduceMul, reduceIte, reduceCtorEq, Nat.reducePow, Nat.reduceDiv, Nat.reduceMod, Int.reduceBEq, Int.ofNat_lt, Nat.lt_irrefl]
    · unfold Go.Ev.scan
      have := lists_same (d := in0) hl
      rw [hl] at this
      cases hf : first (fun i => decide (a.getD i in0 ≠ b.getD i in0)) 0 b.length with
      | none => simp only [go_sem, Nat.reduceAdd, Nat.reduceMul, Nat.reduceSub, Nat.reduceLT, Nat.reduceLeDiff, Nat.reduceEqDiff, Nat.reduceBEq, Nat.reduceBeqDiff, Int.reduceEq, Int.reduceLT, Int.reduceLE, Int.reduceToNat, Int.reduceNeg, Int.reduceAdd, Int.reduceSub, Int.reduceMul, reduceIte, reduceCtorEq, Nat.reducePow, Nat.reduceDiv, Nat.reduceMod, Int.reduceBEq, this.1 hf]
      | some i =>
        have hne : ¬ a = b := fun e => by rw [this.2 e] at hf; cases hf
        simp only [go_sem, Nat.reduceAdd, Nat.reduceMul, Nat.reduceSub, Nat.reduceLT, Nat.reduceLeDiff, Nat.reduceEqDiff, Nat.reduceBEq, Nat.reduceBeqDiff, Int.reduceEq, Int.reduceLT, Int.reduceLE, Int.reduceToNat, Int.reduceNeg, Int.reduceAdd, Int.reduceSub, Int.reduceMul, reduceIte, reduceCtorEq, Nat.reducePow, Nat.reduceDiv, Nat.reduceMod, Int.reduceBEq, hne]
    · rfl
  · have hne : ¬ a = b := fun e => hl (by rw [e])
    have hl2 : ¬ ((a.length : Int) = b.length) := by omega
    simp only [go_sem, Nat.reduceAdd, Nat.reduceMul, Nat.reduceSub, Nat.reduceLT, Nat.reduceLeDiff, Nat.reduceEqDiff, Nat.reduceBEq, Nat.reduceBeqDiff, Int.reduceEq, Int.reduceLT, Int.reduceLE, Int.reduceToNat, Int.reduceNeg, Int.reduceAdd, Int.reduceSub, Int.reduceMul, reduceIte, reduceCtorEq, Nat.reducePow, Nat.reduceDiv, Nat.reduceMod, Int.reduceBEq, List.length_map, hl2, hne]
theorem bsame_ev (fu n : Nat) (a b : List TInstr) (h : a.length < fu) (hs : a.length < 1000000) (hb : lab fu a) : evF (G fu) (n+4) 39 [.d (.list (a.map TInstr.d)), .d (.list (b.map TInstr.d))] [] = some (.d (.bool (decide (a = b))), []) := by
  rw [evF.eq_2, evX.eq_def, Gext, exts_no _ (f := 39) (by decide), GP, Tryd.func39]; simp only [Tryd.f39, evB]
  simp only [go_sem, Nat.reduceAdd, Nat.reduceMul, Nat.reduceSub, Nat.reduceLT, Nat.reduceLeDiff, Nat.reduceEqDiff, Nat.reduceBEq, Nat.reduceBeqDiff, Int.reduceEq, Int.reduceLT, Int.reduceLE, Int.reduceToNat, Int.reduceNeg, Int.reduceAdd, Int.reduceSub, Int.reduceMul, reduceIte, reduceCtorEq, Nat.reducePow, Nat.reduceDiv, Nat.reduceMod, Int.reduceBEq, eqf_ev fu n a b h hs hb]
end Go.Proofs.YtklnkkejkeelaaaDoor.E
