/- The reading of leb's ReadU and ReadS. -/
import Derived.Test.YtklnkkejkeelaaaDoorL2
set_option linter.unnecessarySimpa false
set_option linter.unusedSimpArgs false
set_option linter.unusedVariables false
set_option autoImplicit false
set_option maxRecDepth 100000
set_option maxHeartbeats 4000000
set_option linter.unusedSimpArgs false
set_option linter.unusedVariables false
set_option pp.maxSteps 20000
namespace Go.Proofs.YtklnkkejkeelaaaDoor.E
open Go.Ev
def rdUR (x : Int) : Except Int (List Int) → V
  | .error e => .tup [.d (.int .u64 0), .d (.int .i64 0), .d (.int .i64 e)]
  | .ok ds => .tup [.d (.int .u64 (val ds)), .d (.int .i64 (x + ds.length)), .d (.int .i64 0)]
def rdSR (x : Int) : Except Int (List Int) → V
  | .error e => .tup [.d (.int .i64 0), .d (.int .i64 0), .d (.int .i64 e)]
  | .ok ds => .tup [.d (.int .i64 (sval ds)), .d (.int .i64 (x + ds.length)), .d (.int .i64 0)]
theorem shr_u8 {x : Int} (n : Nat) (hn : n ≤ 8) : shr .u8 x n = x / (2 ^ n : Int) := by
  simp only [shr, IntKind.bits, Int.toNat_natCast, Nat.min_eq_left hn]
  rw [Int.fdiv_eq_ediv_of_nonneg _ (by exact Int.le_of_lt (Int.pow_pos (by decide)))]
theorem ReadU_ev (fu n : Nat) (l : List Int) (hb : Bs l) (x : Nat) (hf : 10 < fu) (hx : x ≤ l.length) (hl : l.length < 1099511627000) :
    evF (G fu) (n+4) 87 [.d (.list (byt l)), .d (.int .i64 x), .d (.int .i64 32)] [] = some (rdUR x (rdU (l.drop x)), []) := by
  have hr := read_ev fu n l hb x 32 4 hf (by omega) (by omega) (by decide) hx hl
  rw [evF.eq_2, evX.eq_def, Gext, exts_no _ (f := 87) (by decide), GP, Tryd.func87]; simp only [Tryd.f87, evB]
  unfold rdU
  cases hs : scan (4 + 1) (l.drop x) with
  | error e =>
    have he := scan_err hs
    have he0 : ¬ e = 0 := by omega
    rw [hs] at hr
    have hs' : scan 5 (l.drop x) = .error e := hs
    simp only [readR] at hr
    simp only [go_sem, Nat.reduceAdd, Nat.reduceMul, Nat.reduceSub, Nat.reduceLT, Nat.reduceLeDiff, Nat.reduceEqDiff, Nat.reduceBEq, Nat.reduceBeqDiff, Int.reduceEq, Int.reduceLT, Int.reduceLE, Int.reduceToNat, Int.reduceNeg, Int.reduceAdd, Int.reduceSub, Int.reduceMul, reduceIte, reduceCtorEq, Nat.reducePow, Nat.reduceDiv, Nat.reduceMod, Int.reduceBEq, hr, he0, hs', rdUR]
  | ok ds =>
    obtain ⟨h1, h2, h3, h4, h5⟩ := scan_ok hs
    have hbd : Bs ds := by rw [h3]; exact (hb.drop x).take _
    have hv2 : val ds < 128 ^ 5 := Int.lt_of_lt_of_le (val_lt ds) (pow_mono (by omega))
    have hvm : val ds % 18446744073709551616 = val ds := Int.emod_eq_of_lt (val_nonneg ds) (by omega)
    have hlb := lastB_nonneg ds hbd
    rw [hs] at hr
    have hs' : scan 5 (l.drop x) = .ok ds := hs
    simp only [readR, hvm] at hr
    by_cases h6 : ds.length = 5
    · have e2 : shr .u8 (lastB ds) 4 = lastB ds / 16 := shr_u8 4 (by decide)
      rw [h6] at hr
      by_cases h7 : lastB ds < 16
      · have e3 : lastB ds / 16 = 0 := by omega
        have e4 : ¬ 16 ≤ lastB ds := by omega
        simp only [go_sem, Nat.reduceAdd, Nat.reduceMul, Nat.reduceSub, Nat.reduceLT, Nat.reduceLeDiff, Nat.reduceEqDiff, Nat.reduceBEq, Nat.reduceBeqDiff, Int.reduceEq, Int.reduceLT, Int.reduceLE, Int.reduceToNat, Int.reduceNeg, Int.reduceAdd, Int.reduceSub, Int.reduceMul, reduceIte, reduceCtorEq, Nat.reducePow, Nat.reduceDiv, Nat.reduceMod, Int.reduceBEq, hr, hs', h6, e2, e3, e4, rdUR, show ((5 : Nat) : Int) = 5 from rfl, show IntKind.wrap .i64 3 = 3 from rfl, show IntKind.wrap .i64 4 = 4 from rfl]
      · have e3 : ¬ lastB ds / 16 = 0 := by omega
        have e4 : 16 ≤ lastB ds := by omega
        simp only [go_sem, Nat.reduceAdd, Nat.reduceMul, Nat.reduceSub, Nat.reduceLT, Nat.reduceLeDiff, Nat.reduceEqDiff, Nat.reduceBEq, Nat.reduceBeqDiff, Int.reduceEq, Int.reduceLT, Int.reduceLE, Int.reduceToNat, Int.reduceNeg, Int.reduceAdd, Int.reduceSub, Int.reduceMul, reduceIte, reduceCtorEq, Nat.reducePow, Nat.reduceDiv, Nat.reduceMod, Int.reduceBEq, hr, hs', h6, e2, e3, e4, rdUR, show ((5 : Nat) : Int) = 5 from rfl, show IntKind.wrap .i64 3 = 3 from rfl, show IntKind.wrap .i64 4 = 4 from rfl]
    · have e1 : ¬ 32 < 7 * (ds.length : Int) := by omega
      simp only [go_sem, Nat.reduceAdd, Nat.reduceMul, Nat.reduceSub, Nat.reduceLT, Nat.reduceLeDiff, Nat.reduceEqDiff, Nat.reduceBEq, Nat.reduceBeqDiff, Int.reduceEq, Int.reduceLT, Int.reduceLE, Int.reduceToNat, Int.reduceNeg, Int.reduceAdd, Int.reduceSub, Int.reduceMul, reduceIte, reduceCtorEq, Nat.reducePow, Nat.reduceDiv, Nat.reduceMod, Int.reduceBEq, hr, hs', h6, e1, rdUR]
theorem sign_ext {v : Int} {n : Nat} (h0 : 0 ≤ v) (h1 : v < 128 ^ n) (h2 : 64 * 128 ^ (n - 1) ≤ v) (hn : 1 ≤ n) (hn9 : n ≤ 9) : bits2 .or .u64 v (shl .u64 18446744073709551615 (7 * (n : Int))) = v - 128 ^ n + 18446744073709551616 := by
  have hs : shl .u64 18446744073709551615 (7 * (n : Int)) = 18446744073709551616 - 128 ^ n := by
    unfold shl
    have e : (7 * (n : Int)).toNat = 7 * n := by omega
    have eb : IntKind.bits .u64 = 64 := rfl
    rw [e, eb, Nat.min_eq_left (by omega), wrap_u64_mod, pow128]
    rcases (by omega : n = 1 ∨ n = 2 ∨ n = 3 ∨ n = 4 ∨ n = 5 ∨ n = 6 ∨ n = 7 ∨ n = 8 ∨ n = 9) with rfl | rfl | rfl | rfl | rfl | rfl | rfl | rfl | rfl <;> decide
  have hp : (128 : Int) ^ n ≤ 128 ^ 9 := pow_mono hn9
  have hp0 : (0 : Int) < 128 ^ n := Int.pow_pos (by decide)
  rw [hs, or_join h0 (i := 7 * n) (by rw [pow128]; exact h1) (by omega) (by omega) (by omega) (by
    rw [pow128]
    rcases (by omega : n = 1 ∨ n = 2 ∨ n = 3 ∨ n = 4 ∨ n = 5 ∨ n = 6 ∨ n = 7 ∨ n = 8 ∨ n = 9) with rfl | rfl | rfl | rfl | rfl | rfl | rfl | rfl | rfl <;> decide) (by omega)]
  omega
theorem wrap_i64_hi {x : Int} (h0 : -9223372036854775808 ≤ x) (h1 : x < 0) : IntKind.wrap .i64 (x + 18446744073709551616) = x := by
  simp only [IntKind.wrap, IntKind.bits, IntKind.signed, Bool.true_and, decide_eq_true_eq]
  split <;> rename_i h <;> simp at h <;> omega
theorem and64' {c : Int} (h0 : 0 ≤ c) (h1 : c < 256) : bits2 .and .u8 c 64 = if c % 128 < 64 then 0 else 64 := by
  have := all256 (p := fun c => bits2 .and .u8 c 64 == if c % 128 < 64 then 0 else 64) (by kernel_rfl) h0 h1
  simpa using this
theorem lastB_byte {ds : List Int} (h1 : ds ≠ []) (hb : Bs ds) : 0 ≤ lastB ds ∧ lastB ds < 256 := by
  induction ds with
  | nil => exact absurd rfl h1
  | cons c l ih =>
    cases l with
    | nil => exact hb c (by simp)
    | cons d l => exact ih (by simp) (fun z hz => hb z (List.mem_cons_of_mem _ hz))
theorem ReadS_ev (w : Bool) (fu n : Nat) (l : List Int) (hb : Bs l) (x : Nat) (hf : 10 < fu) (hx : x ≤ l.length) (hl : l.length < 1099511627000) :
    evF (G fu) (n+4) 88 [.d (.list (byt l)), .d (.int .i64 x), .d (.int .i64 (if w then 64 else 32))] [] = some (rdSR x (rdS w (l.drop x)), []) := by
  unfold rdS
  -- what stands behind the checks
  have fin : ∀ (ds : List Int), ds ≠ [] → Bs ds → ds.length ≤ 9 → (if lastB ds % 128 < 64 then IntKind.wrap .i64 (val ds) else IntKind.wrap .i64 (bits2 .or .u64 (val ds) (shl .u64 18446744073709551615 (7 * (ds.length : Int))))) = sval ds := fun ds h1 hbd h9 => by
    have hv := val_lt ds
    have hv0 := val_nonneg ds
    have hp : (128 : Int) ^ ds.length ≤ 128 ^ 9 := pow_mono h9
    have hl : 0 < ds.length := List.length_pos_iff.2 h1
    rw [sval_val ds h1]
    by_cases h : lastB ds % 128 < 64
    · rw [if_pos h, if_pos h, wrap_i64 (by omega) (by omega)]
    · rw [if_neg h, if_neg h, sign_ext hv0 hv (val_high ds h1 h) hl h9]
      have hq := val_high ds h1 h
      exact wrap_i64_hi (by omega) (by omega)
  cases w with
  | false =>
    have hr := read_ev fu n l hb x 32 4 hf (by omega) (by omega) (by decide) hx hl
    simp only [Bool.false_eq_true, if_false]
    rw [evF.eq_2, evX.eq_def, Gext, exts_no _ (f := 88) (by decide), GP, Tryd.func88]; simp only [Tryd.f88, evB]
    cases hs : scan (4 + 1) (l.drop x) with
    | error e =>
      have he := scan_err hs
      have he0 : ¬ e = 0 := by omega
      rw [hs] at hr
      have hs' : scan 5 (l.drop x) = .error e := hs
      simp only [readR] at hr
      simp only [go_sem, Nat.reduceAdd, Nat.reduceMul, Nat.reduceSub, Nat.reduceLT, Nat.reduceLeDiff, Nat.reduceEqDiff, Nat.reduceBEq, Nat.reduceBeqDiff, Int.reduceEq, Int.reduceLT, Int.reduceLE, Int.reduceToNat, Int.reduceNeg, Int.reduceAdd, Int.reduceSub, Int.reduceMul, reduceIte, reduceCtorEq, Nat.reducePow, Nat.reduceDiv, Nat.reduceMod, Int.reduceBEq, hr, he0, hs', rdSR]
    | ok ds =>
      obtain ⟨h1, h2, h3, h4, h5⟩ := scan_ok hs
      have hbd : Bs ds := by rw [h3]; exact (hb.drop x).take _
      have hv2 : val ds < 128 ^ 5 := Int.lt_of_lt_of_le (val_lt ds) (pow_mono (by omega))
      have hvm : val ds % 18446744073709551616 = val ds := Int.emod_eq_of_lt (val_nonneg ds) (by omega)
      have hlb := lastB_byte h1 hbd
      have hf := fin ds h1 hbd (by omega)
      have ha := and64' hlb.1 hlb.2
      rw [hs] at hr
      have hs' : scan 5 (l.drop x) = .ok ds := hs
      simp only [readR, hvm] at hr
      have hlt : 7 * (ds.length : Int) < 64 := by omega
      by_cases h6 : ds.length = 5
      · have e2 : shr .u8 (lastB ds) 3 = lastB ds / 8 := shr_u8 3 (by decide)
        have e3 : shr .u8 127 3 = 15 := by decide
        rw [h6] at hr hf
        by_cases h7 : lastB ds / 8 = 0
        · have e4 : ¬ 7 < lastB ds := by omega
          have h : lastB ds % 128 < 64 := by omega
          rw [if_pos h] at ha hf
          simp only [go_sem, Nat.reduceAdd, Nat.reduceMul, Nat.reduceSub, Nat.reduceLT, Nat.reduceLeDiff, Nat.reduceEqDiff, Nat.reduceBEq, Nat.reduceBeqDiff, Int.reduceEq, Int.reduceLT, Int.reduceLE, Int.reduceToNat, Int.reduceNeg, Int.reduceAdd, Int.reduceSub, Int.reduceMul, reduceIte, reduceCtorEq, Nat.reducePow, Nat.reduceDiv, Nat.reduceMod, Int.reduceBEq, hr, hs', h6, e2, e3, e4, h7, rdSR, ha, hf, show ((5 : Nat) : Int) = 5 from rfl, show IntKind.wrap .i64 3 = 3 from rfl, show IntKind.wrap .i64 4 = 4 from rfl]
        · by_cases h8 : lastB ds / 8 = 15
          · have e4 : ¬ lastB ds < 120 := by omega
            have h : ¬ lastB ds % 128 < 64 := by omega
            rw [if_neg h] at ha hf
            simp only [show ((5 : Nat) : Int) = 5 from rfl, Int.reduceMul] at hf
            simp only [go_sem, Nat.reduceAdd, Nat.reduceMul, Nat.reduceSub, Nat.reduceLT, Nat.reduceLeDiff, Nat.reduceEqDiff, Nat.reduceBEq, Nat.reduceBeqDiff, Int.reduceEq, Int.reduceLT, Int.reduceLE, Int.reduceToNat, Int.reduceNeg, Int.reduceAdd, Int.reduceSub, Int.reduceMul, reduceIte, reduceCtorEq, Nat.reducePow, Nat.reduceDiv, Nat.reduceMod, Int.reduceBEq, hr, hs', h6, e2, e3, e4, h8, rdSR, ha, hf, show ((5 : Nat) : Int) = 5 from rfl, show IntKind.wrap .i64 3 = 3 from rfl, show IntKind.wrap .i64 4 = 4 from rfl]
          · have e4 : 7 < lastB ds := by omega
            have e5 : lastB ds < 120 := by omega
            simp only [go_sem, Nat.reduceAdd, Nat.reduceMul, Nat.reduceSub, Nat.reduceLT, Nat.reduceLeDiff, Nat.reduceEqDiff, Nat.reduceBEq, Nat.reduceBeqDiff, Int.reduceEq, Int.reduceLT, Int.reduceLE, Int.reduceToNat, Int.reduceNeg, Int.reduceAdd, Int.reduceSub, Int.reduceMul, reduceIte, reduceCtorEq, Nat.reducePow, Nat.reduceDiv, Nat.reduceMod, Int.reduceBEq, hr, hs', h6, e2, e3, e4, e5, h7, h8, rdSR, show ((5 : Nat) : Int) = 5 from rfl, show IntKind.wrap .i64 3 = 3 from rfl, show IntKind.wrap .i64 4 = 4 from rfl]
      · have e1 : ¬ 32 < 7 * (ds.length : Int) := by omega
        have s0 : ¬ 7 * (ds.length : Int) < 0 := by omega
        by_cases h : lastB ds % 128 < 64
        · rw [if_pos h] at ha hf
          simp only [go_sem, Nat.reduceAdd, Nat.reduceMul, Nat.reduceSub, Nat.reduceLT, Nat.reduceLeDiff, Nat.reduceEqDiff, Nat.reduceBEq, Nat.reduceBeqDiff, Int.reduceEq, Int.reduceLT, Int.reduceLE, Int.reduceToNat, Int.reduceNeg, Int.reduceAdd, Int.reduceSub, Int.reduceMul, reduceIte, reduceCtorEq, Nat.reducePow, Nat.reduceDiv, Nat.reduceMod, Int.reduceBEq, hr, hs', h6, e1, s0, rdSR, hlt, ha, hf]
        · rw [if_neg h] at ha hf
          simp only [go_sem, Nat.reduceAdd, Nat.reduceMul, Nat.reduceSub, Nat.reduceLT, Nat.reduceLeDiff, Nat.reduceEqDiff, Nat.reduceBEq, Nat.reduceBeqDiff, Int.reduceEq, Int.reduceLT, Int.reduceLE, Int.reduceToNat, Int.reduceNeg, Int.reduceAdd, Int.reduceSub, Int.reduceMul, reduceIte, reduceCtorEq, Nat.reducePow, Nat.reduceDiv, Nat.reduceMod, Int.reduceBEq, hr, hs', h6, e1, s0, rdSR, hlt, ha, hf]
  | true =>
    have hr := read_ev fu n l hb x 64 9 hf (by omega) (by omega) (by decide) hx hl
    simp only [if_true]
    rw [evF.eq_2, evX.eq_def, Gext, exts_no _ (f := 88) (by decide), GP, Tryd.func88]; simp only [Tryd.f88, evB]
    cases hs : scan (9 + 1) (l.drop x) with
    | error e =>
      have he := scan_err hs
      have he0 : ¬ e = 0 := by omega
      rw [hs] at hr
      have hs' : scan 10 (l.drop x) = .error e := hs
      simp only [readR] at hr
      simp only [go_sem, Nat.reduceAdd, Nat.reduceMul, Nat.reduceSub, Nat.reduceLT, Nat.reduceLeDiff, Nat.reduceEqDiff, Nat.reduceBEq, Nat.reduceBeqDiff, Int.reduceEq, Int.reduceLT, Int.reduceLE, Int.reduceToNat, Int.reduceNeg, Int.reduceAdd, Int.reduceSub, Int.reduceMul, reduceIte, reduceCtorEq, Nat.reducePow, Nat.reduceDiv, Nat.reduceMod, Int.reduceBEq, hr, he0, hs', rdSR]
    | ok ds =>
      obtain ⟨h1, h2, h3, h4, h5⟩ := scan_ok hs
      have hbd : Bs ds := by rw [h3]; exact (hb.drop x).take _
      have hlb := lastB_byte h1 hbd
      have ha := and64' hlb.1 hlb.2
      rw [hs] at hr
      have hs' : scan 10 (l.drop x) = .ok ds := hs
      simp only [readR] at hr
      by_cases h6 : ds.length = 10
      · have e2 : shr .u8 (lastB ds) 0 = lastB ds := by
          have := shr_u8 (x := lastB ds) 0 (by decide)
          simpa using this
        have e3 : shr .u8 127 0 = 127 := by decide
        rw [h6] at hr
        have hend : lastB ds = 0 ∨ lastB ds = 127 → IntKind.wrap .i64 (val ds % 18446744073709551616) = sval ds := by
          intro h
          rw [sval_val ds h1, h6]
          clear hs hs' hr fin h3 h4 h2 e2 e3 ha
          rcases h with h | h
          · rw [if_pos (by rw [h]; decide)]
            match ds, h6, h with
            | [a0, a1, a2, a3, a4, a5, a6, a7, a8, a9], _, h =>
              simp only [lastB] at h
              simp only [val]
              rw [Int.emod_eq_of_lt (by omega) (by omega), wrap_i64 (by omega) (by omega)]
          · rw [if_neg (by rw [h]; decide)]
            match ds, h6, h with
            | [a0, a1, a2, a3, a4, a5, a6, a7, a8, a9], _, h =>
              simp only [lastB] at h
              have hv : val [a0, a1, a2, a3, a4, a5, a6, a7, a8, a9] % 18446744073709551616 = (val [a0, a1, a2, a3, a4, a5, a6, a7, a8, a9] - 128 ^ 10) + 18446744073709551616 := by simp only [val]; omega
              rw [hv, wrap_i64_hi (by simp only [val]; omega) (by simp only [val]; omega)]
        by_cases h7 : lastB ds = 0
        · have hf := hend (.inl h7)
          simp only [go_sem, Nat.reduceAdd, Nat.reduceMul, Nat.reduceSub, Nat.reduceLT, Nat.reduceLeDiff, Nat.reduceEqDiff, Nat.reduceBEq, Nat.reduceBeqDiff, Int.reduceEq, Int.reduceLT, Int.reduceLE, Int.reduceToNat, Int.reduceNeg, Int.reduceAdd, Int.reduceSub, Int.reduceMul, reduceIte, reduceCtorEq, Nat.reducePow, Nat.reduceDiv, Nat.reduceMod, Int.reduceBEq, hr, hs', h6, e2, e3, h7, rdSR, hf, show ((10 : Nat) : Int) = 10 from rfl, show IntKind.wrap .i64 6 = 6 from rfl, show IntKind.wrap .i64 1 = 1 from rfl, show IntKind.wrap .i64 0 = 0 from rfl, show shr .u8 0 0 = 0 from rfl]
        · by_cases h8 : lastB ds = 127
          · have hf := hend (.inr h8)
            simp only [go_sem, Nat.reduceAdd, Nat.reduceMul, Nat.reduceSub, Nat.reduceLT, Nat.reduceLeDiff, Nat.reduceEqDiff, Nat.reduceBEq, Nat.reduceBeqDiff, Int.reduceEq, Int.reduceLT, Int.reduceLE, Int.reduceToNat, Int.reduceNeg, Int.reduceAdd, Int.reduceSub, Int.reduceMul, reduceIte, reduceCtorEq, Nat.reducePow, Nat.reduceDiv, Nat.reduceMod, Int.reduceBEq, hr, hs', h6, e3, h8, rdSR, hf, show ((10 : Nat) : Int) = 10 from rfl, show IntKind.wrap .i64 6 = 6 from rfl, show IntKind.wrap .i64 1 = 1 from rfl, show IntKind.wrap .i64 0 = 0 from rfl]
          · have e4 : 0 < lastB ds := by omega
            have e5 : lastB ds < 127 := by omega
            simp only [go_sem, Nat.reduceAdd, Nat.reduceMul, Nat.reduceSub, Nat.reduceLT, Nat.reduceLeDiff, Nat.reduceEqDiff, Nat.reduceBEq, Nat.reduceBeqDiff, Int.reduceEq, Int.reduceLT, Int.reduceLE, Int.reduceToNat, Int.reduceNeg, Int.reduceAdd, Int.reduceSub, Int.reduceMul, reduceIte, reduceCtorEq, Nat.reducePow, Nat.reduceDiv, Nat.reduceMod, Int.reduceBEq, hr, hs', h6, e2, e3, e4, e5, h7, h8, rdSR, show ((10 : Nat) : Int) = 10 from rfl, show IntKind.wrap .i64 6 = 6 from rfl, show IntKind.wrap .i64 1 = 1 from rfl, show IntKind.wrap .i64 0 = 0 from rfl]
      · have hv2 : val ds < 128 ^ 9 := Int.lt_of_lt_of_le (val_lt ds) (pow_mono (by omega))
        have hvm : val ds % 18446744073709551616 = val ds := Int.emod_eq_of_lt (val_nonneg ds) (by omega)
        have hf := fin ds h1 hbd (by omega)
        have e1 : ¬ 64 < 7 * (ds.length : Int) := by omega
        have s0 : ¬ 7 * (ds.length : Int) < 0 := by omega
        have hlt : 7 * (ds.length : Int) < 64 := by omega
        by_cases h : lastB ds % 128 < 64
        · rw [if_pos h] at ha hf
          simp only [go_sem, Nat.reduceAdd, Nat.reduceMul, Nat.reduceSub, Nat.reduceLT, Nat.reduceLeDiff, Nat.reduceEqDiff, Nat.reduceBEq, Nat.reduceBeqDiff, Int.reduceEq, Int.reduceLT, Int.reduceLE, Int.reduceToNat, Int.reduceNeg, Int.reduceAdd, Int.reduceSub, Int.reduceMul, reduceIte, reduceCtorEq, Nat.reducePow, Nat.reduceDiv, Nat.reduceMod, Int.reduceBEq, hr, hs', h6, e1, s0, rdSR, hlt, ha, hvm, hf]
        · rw [if_neg h] at ha hf
          simp only [go_sem, Nat.reduceAdd, Nat.reduceMul, Nat.reduceSub, Nat.reduceLT, Nat.reduceLeDiff, Nat.reduceEqDiff, Nat.reduceBEq, Nat.reduceBeqDiff, Int.reduceEq, Int.reduceLT, Int.reduceLE, Int.reduceToNat, Int.reduceNeg, Int.reduceAdd, Int.reduceSub, Int.reduceMul, reduceIte, reduceCtorEq, Nat.reducePow, Nat.reduceDiv, Nat.reduceMod, Int.reduceBEq, hr, hs', h6, e1, s0, rdSR, hlt, ha, hvm, hf]
end Go.Proofs.YtklnkkejkeelaaaDoor.E
