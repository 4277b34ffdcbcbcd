/- The reading of the document's reading of numbers (avocetref01.ReadU, ReadS). -/
import Derived.Test.YtklnkkejkeelaaaDoorK5
set_option linter.unnecessarySimpa false
set_option linter.unusedSimpArgs false
set_option linter.unusedVariables false
set_option autoImplicit false
set_option maxRecDepth 100000
set_option maxHeartbeats 4000000
set_option linter.unusedSimpArgs false
set_option linter.unusedVariables false
set_option pp.maxSteps 20000
namespace Go.Proofs.YtklnkkejkeelaaaDoor.E
open Go.Ev
def rUR (x : Int) : Except Int (List Int) → V
  | .error e => .tup [.d (.int .u64 0), .d (.int .i64 0), .d (.int .i64 e)]
  | .ok ds => .tup [.d (.int .u64 (val ds)), .d (.int .i64 (x + ds.length)), .d (.int .i64 0)]
def rSR (x : Int) : Except Int (List Int) → V
  | .error e => .tup [.d (.int .i64 0), .d (.int .i64 0), .d (.int .i64 e)]
  | .ok ds => .tup [.d (.int .i64 (sval ds)), .d (.int .i64 (x + ds.length)), .d (.int .i64 0)]
theorem firstU {ds : List Int} (hd : ds ≠ []) (h5 : ds.length ≤ 5) (hl : lastB ds < 128) (hn : 0 ≤ lastB ds) : first (fun j => decide (32 ≤ (bitsL ds).length - 1 - j) && !decide ((bitsL ds).getD ((bitsL ds).length - 1 - j) 0 = 0)) 0 (bitsL ds).length = none ↔ ¬ (ds.length = 5 ∧ 16 ≤ lastB ds) := by
  rw [first_none, bitsL_len]
  have hp : 0 < ds.length := List.length_pos_iff.2 hd
  by_cases h : ds.length = 5
  · have b4 := bits_last ds hd (i := 4) (by decide)
    have b5 := bits_last ds hd (i := 5) (by decide)
    have b6 := bits_last ds hd (i := 6) (by decide)
    rw [h] at b4 b5 b6
    simp only [Nat.reduceSub, Nat.reduceMul, Nat.reduceAdd, Int.reducePow] at b4 b5 b6
    rw [h]
    constructor
    · rintro hj ⟨_, h16⟩
      have j0 := hj 0 (by omega) (by omega)
      have j1 := hj 1 (by omega) (by omega)
      have j2 := hj 2 (by omega) (by omega)
      simp only [Nat.reduceMul, Nat.reduceSub, Nat.reduceLeDiff, decide_true, Bool.true_and, Bool.not_eq_false', decide_eq_true_eq] at j0 j1 j2
      omega
    · intro hn16 j _ hj
      simp only [Nat.reduceMul, Bool.and_eq_false_iff, decide_eq_false_iff_not, Bool.not_eq_false', decide_eq_true_eq]
      by_cases hj3 : j < 3
      · right
        rcases (by omega : j = 0 ∨ j = 1 ∨ j = 2) with rfl | rfl | rfl <;> simp only [Nat.reduceSub] <;> omega
      · left; omega
  · constructor
    · rintro _ ⟨h2, _⟩; exact h h2
    · intro _ j _ hj
      simp only [Bool.and_eq_false_iff, decide_eq_false_iff_not]
      left; omega
theorem rReadU_ev (fu n : Nat) (l : List Int) (hb : Bs l) (x : Nat) (hf : 80 < fu) (hx : x ≤ l.length) (hl : l.length < 1099511627000) :
    evF (G fu) (n+2) 101 [.d (.list (byt l)), .d (.int .i64 x), .d (.int .i64 32)] [] = some (rUR x (rdU (l.drop x)), []) := by
  have hd := digits_ev fu n l hb x 32 4 (by omega) (by decide) (by decide) (by decide) hx hl
  unfold rdU
  simp only [Nat.reduceAdd] at hd
  cases hs : scan 5 (l.drop x) with
  | error e =>
    rw [hs] at hd
    simp only [digR] at hd
    have he : ¬ e = 0 := by rcases scan_err hs with rfl | rfl <;> decide
    rw [evF.eq_2, evX.eq_def, Gext, exts_no _ (f := 101) (by decide), GP, Tryd.func101]; simp only [Tryd.f101, evB]
    simp only [go_sem, Nat.reduceAdd, Nat.reduceMul, Nat.reduceSub, Nat.reduceLT, Nat.reduceLeDiff, Nat.reduceEqDiff, Nat.reduceBEq, Nat.reduceBeqDiff, Int.reduceEq, Int.reduceLT, Int.reduceLE, Int.reduceToNat, Int.reduceNeg, Int.reduceAdd, Int.reduceSub, Int.reduceMul, reduceIte, reduceCtorEq, Nat.reducePow, Nat.reduceDiv, Nat.reduceMod, Int.reduceBEq, hd, he, rUR]
  | ok ds =>
    rw [hs] at hd
    simp only [digR] at hd
    obtain ⟨o1, o2, o3, o4, o5⟩ := scan_ok hs
    have hbs : Bs ds := by rw [o3]; exact (hb.drop x).take _
    have o6 := lastB_nonneg ds hbs
    have hfi := firstU o1 o2 o5 o6
    have hlen := bitsL_len ds
    have hp : 0 < ds.length := List.length_pos_iff.2 o1
    have hv := val_lt ds
    have hv0 := val_nonneg ds
    have hv2 : val ds < 34359738368 := Int.lt_of_lt_of_le hv (pow_mono o2)
    have hbit : ∀ i, i < (bitsL ds).length → (bitsL ds).getD i 0 = val ds / 2 ^ i % 2 := fun i hi => bits_val ds i (by omega)
    have htop := val_top ds
    rw [← hlen] at htop
    have hix : ∀ i, i < (bitsL ds).length → ((bitsL ds).map (D.int .i64))[i]? = some (.int .i64 ((bitsL ds).getD i 0)) := fun i hi => getD_map hi
    generalize hL : bitsL ds = L at *
    rw [evF.eq_2, evX.eq_def, Gext, exts_no _ (f := 101) (by decide), GP, Tryd.func101]; simp only [Tryd.f101, evB]
    have W0 := wrap_i64 (show -9223372036854775808 ≤ (L.length : Int) - 1 by omega) (by omega)
    simp only [go_sem, Nat.reduceAdd, Nat.reduceMul, Nat.reduceSub, Nat.reduceLT, Nat.reduceLeDiff, Nat.reduceEqDiff, Nat.reduceBEq, Nat.reduceBeqDiff, Int.reduceEq, Int.reduceLT, Int.reduceLE, Int.reduceToNat, Int.reduceNeg, Int.reduceAdd, Int.reduceSub, Int.reduceMul, reduceIte, reduceCtorEq, Nat.reducePow, Nat.reduceDiv, Nat.reduceMod, Int.reduceBEq, hd, W0]
    rw [loop_scan L.length (fun j => ⟨[(2, .d (.int .i64 32)), (9, .row 1216 0 0 L.length), (10, .d (.int .i64 (x + ds.length))), (12, .d (.int .u64 (val ds / 2 ^ (L.length - j)))), (13, .d (.int .i64 ((L.length : Int) - 1 - j)))], [(1216, .row 1 (L.map (D.int .i64)) 0 false false)]⟩)
      (fun j => decide (32 ≤ L.length - 1 - j) && !decide (L.getD (L.length - 1 - j) 0 = 0)) (fun _ => (.ret, ⟨[(6, .d (.int .u64 0)), (7, .d (.int .i64 0)), (8, .d (.int .i64 3))], []⟩)) (.exit 0, ⟨[(10, .d (.int .i64 (x + ds.length))), (12, .d (.int .u64 (val ds)))], []⟩) (by omega) (fun _ => trivial) trivial ?_]
    case hs =>
      intro j hj
      obtain ⟨k, hk⟩ : ∃ k, L.length = j + k + 1 := ⟨L.length - 1 - j, by omega⟩
      have e1 : (L.length : Int) - 1 - j = (k : Int) := by omega
      have e2 : L.length - 1 - j = k := by omega
      have e3 : L.length - j = k + 1 := by omega
      have e4 : L.length - (j + 1) = k := by omega
      have e5 : (L.length : Int) - 1 - ((j + 1 : Nat) : Int) = (k : Int) - 1 := by omega
      have hkl : k < L.length := by omega
      have hkI : (k : Int) < (L.length : Int) := by omega
      have b := hbit k hkl
      have hix := hix k hkl
      have hst := half_step (val ds) k
      rw [← b] at hst
      have r1 := ediv_in (s := val ds) (B := 34359738368) k (by decide) (by omega) hv2
      have r2 : 0 ≤ val ds / 2 ^ (k + 1) := Int.ediv_nonneg hv0 (Int.le_of_lt (Int.pow_pos (by decide)))
      rw [e1, e2, e3, e4, e5]
      have hb01 : L.getD k 0 = 0 ∨ L.getD k 0 = 1 := by omega
      generalize L.getD k 0 = q at *
      have k0 : (0 : Int) ≤ k := by omega
      have W1 := wrap_i64 (show -9223372036854775808 ≤ (k : Int) - 1 by omega) (by omega)
      have W2 : IntKind.wrap .u64 (val ds / 2 ^ (k + 1) * 2) = val ds / 2 ^ (k + 1) * 2 := wrap_u64 (by omega) (by omega)
      have W3 : IntKind.wrap .u64 q = q := wrap_u64 (by omega) (by omega)
      have W4 : IntKind.wrap .u64 (val ds / 2 ^ (k + 1) * 2 + q) = val ds / 2 ^ k := by rw [wrap_u64 (by omega) (by omega)]; exact hst.symm
      by_cases c1 : 32 ≤ k
      · have c1I : (32 : Int) ≤ k := by omega
        by_cases c2 : q = 0
        · have d : (decide (32 ≤ k) && !decide (q = 0)) = false := by simp [c2]
          rw [d]
          subst c2
          simp only [go_sem, Nat.reduceAdd, Nat.reduceMul, Nat.reduceSub, Nat.reduceLT, Nat.reduceLeDiff, Nat.reduceEqDiff, Nat.reduceBEq, Nat.reduceBeqDiff, Int.reduceEq, Int.reduceLT, Int.reduceLE, Int.reduceToNat, Int.reduceNeg, Int.reduceAdd, Int.reduceSub, Int.reduceMul, reduceIte, reduceCtorEq, Nat.reducePow, Nat.reduceDiv, Nat.reduceMod, Int.reduceBEq, k0, c1I, hkI, hix, W1, W2, W3, W4]
        · have d : (decide (32 ≤ k) && !decide (q = 0)) = true := by simp [c1, c2]
          rw [d]
          simp only [go_sem, Nat.reduceAdd, Nat.reduceMul, Nat.reduceSub, Nat.reduceLT, Nat.reduceLeDiff, Nat.reduceEqDiff, Nat.reduceBEq, Nat.reduceBeqDiff, Int.reduceEq, Int.reduceLT, Int.reduceLE, Int.reduceToNat, Int.reduceNeg, Int.reduceAdd, Int.reduceSub, Int.reduceMul, reduceIte, reduceCtorEq, Nat.reducePow, Nat.reduceDiv, Nat.reduceMod, Int.reduceBEq, k0, c1I, hkI, hix, c2, W1, W2, W3, W4]
      · have c1I : ¬ (32 : Int) ≤ k := by omega
        have d : (decide (32 ≤ k) && !decide (q = 0)) = false := by simp [c1]
        rw [d]
        simp only [go_sem, Nat.reduceAdd, Nat.reduceMul, Nat.reduceSub, Nat.reduceLT, Nat.reduceLeDiff, Nat.reduceEqDiff, Nat.reduceBEq, Nat.reduceBeqDiff, Int.reduceEq, Int.reduceLT, Int.reduceLE, Int.reduceToNat, Int.reduceNeg, Int.reduceAdd, Int.reduceSub, Int.reduceMul, reduceIte, reduceCtorEq, Nat.reducePow, Nat.reduceDiv, Nat.reduceMod, Int.reduceBEq, k0, c1I, hkI, hix, W1, W2, W3, W4]
    case he =>
      have e1 : (L.length : Int) - 1 - L.length = -1 := by omega
      rw [e1, Nat.sub_self]
      simp only [go_sem, Nat.reduceAdd, Nat.reduceMul, Nat.reduceSub, Nat.reduceLT, Nat.reduceLeDiff, Nat.reduceEqDiff, Nat.reduceBEq, Nat.reduceBeqDiff, Int.reduceEq, Int.reduceLT, Int.reduceLE, Int.reduceToNat, Int.reduceNeg, Int.reduceAdd, Int.reduceSub, Int.reduceMul, reduceIte, reduceCtorEq, Nat.reducePow, Nat.reduceDiv, Nat.reduceMod, Int.reduceBEq, Int.pow_zero, Int.ediv_one]
    · unfold Go.Ev.scan
      cases hf : first (fun j => decide (32 ≤ L.length - 1 - j) && !decide (L.getD (L.length - 1 - j) 0 = 0)) 0 L.length with
      | none =>
        rw [if_neg (hfi.1 hf)]
        simp only [go_sem, Nat.reduceAdd, Nat.reduceMul, Nat.reduceSub, Nat.reduceLT, Nat.reduceLeDiff, Nat.reduceEqDiff, Nat.reduceBEq, Nat.reduceBeqDiff, Int.reduceEq, Int.reduceLT, Int.reduceLE, Int.reduceToNat, Int.reduceNeg, Int.reduceAdd, Int.reduceSub, Int.reduceMul, reduceIte, reduceCtorEq, Nat.reducePow, Nat.reduceDiv, Nat.reduceMod, Int.reduceBEq, rUR]
      | some i =>
        have hy : ds.length = 5 ∧ 16 ≤ lastB ds := Decidable.byContradiction fun c => by rw [hfi.2 c] at hf; cases hf
        rw [if_pos hy]
        simp only [go_sem, Nat.reduceAdd, Nat.reduceMul, Nat.reduceSub, Nat.reduceLT, Nat.reduceLeDiff, Nat.reduceEqDiff, Nat.reduceBEq, Nat.reduceBeqDiff, Int.reduceEq, Int.reduceLT, Int.reduceLE, Int.reduceToNat, Int.reduceNeg, Int.reduceAdd, Int.reduceSub, Int.reduceMul, reduceIte, reduceCtorEq, Nat.reducePow, Nat.reduceDiv, Nat.reduceMod, Int.reduceBEq, rUR]
    · rw [Nat.sub_zero, htop]
      simp
theorem q32 {c : Int} (h0 : 0 ≤ c) (h1 : c < 128) : (c / 16 % 2 = c / 8 % 2 ∧ c / 32 % 2 = c / 8 % 2 ∧ c / 64 % 2 = c / 8 % 2) ↔ ¬ (7 < c ∧ c < 120) := by
  have := all256 (p := fun c => decide (c < 128 → ((c / 16 % 2 = c / 8 % 2 ∧ c / 32 % 2 = c / 8 % 2 ∧ c / 64 % 2 = c / 8 % 2) ↔ ¬ (7 < c ∧ c < 120)))) (by decide +kernel) h0 (by omega)
  exact of_decide_eq_true this h1
theorem q64 {c : Int} (h0 : 0 ≤ c) (h1 : c < 128) : (c / 2 % 2 = c % 2 ∧ c / 4 % 2 = c % 2 ∧ c / 8 % 2 = c % 2 ∧ c / 16 % 2 = c % 2 ∧ c / 32 % 2 = c % 2 ∧ c / 64 % 2 = c % 2) ↔ ¬ (0 < c ∧ c < 127) := by
  have := all256 (p := fun c => decide (c < 128 → ((c / 2 % 2 = c % 2 ∧ c / 4 % 2 = c % 2 ∧ c / 8 % 2 = c % 2 ∧ c / 16 % 2 = c % 2 ∧ c / 32 % 2 = c % 2 ∧ c / 64 % 2 = c % 2) ↔ ¬ (0 < c ∧ c < 127)))) (by decide +kernel) h0 (by omega)
  exact of_decide_eq_true this h1
theorem firstS (w : Bool) {ds : List Int} (hd : ds ≠ []) (h5 : ds.length ≤ if w then 10 else 5) (hl : lastB ds < 128) (hn : 0 ≤ lastB ds) :
    first (fun j => !decide ((bitsL ds).getD ((if w then 64 else 32) + j) 0 = (bitsL ds).getD ((if w then 64 else 32) - 1) 0)) 0 ((bitsL ds).length - (if w then 64 else 32)) = none ↔ ¬ (ds.length = (if w then 10 else 5) ∧ (if w then (0 : Int) else 7) < lastB ds ∧ lastB ds < (if w then 127 else 120)) := by
  rw [first_none, bitsL_len]
  have hp : 0 < ds.length := List.length_pos_iff.2 hd
  cases w with
  | false =>
    simp only [Bool.false_eq_true, if_false] at h5 ⊢
    by_cases h : ds.length = 5
    · have b3 := bits_last ds hd (i := 3) (by decide)
      have b4 := bits_last ds hd (i := 4) (by decide)
      have b5 := bits_last ds hd (i := 5) (by decide)
      have b6 := bits_last ds hd (i := 6) (by decide)
      rw [h] at b3 b4 b5 b6
      simp only [Nat.reduceSub, Nat.reduceMul, Nat.reduceAdd, Int.reducePow] at b3 b4 b5 b6
      rw [h]
      simp only [Nat.reduceSub, Nat.reduceMul, Bool.not_eq_false', decide_eq_true_eq]
      constructor
      · rintro hj ⟨_, h16, h17⟩
        have j0 := hj 0 (by omega) (by omega)
        have j1 := hj 1 (by omega) (by omega)
        have j2 := hj 2 (by omega) (by omega)
        simp only [Nat.reduceAdd] at j0 j1 j2
        rw [b3, b4] at j0
        rw [b3, b5] at j1
        rw [b3, b6] at j2
        exact (q32 hn hl).1 ⟨j0, j1, j2⟩ ⟨h16, h17⟩
      · intro hn16 j _ hj
        obtain ⟨j0, j1, j2⟩ := (q32 hn hl).2 (fun c => hn16 ⟨trivial, c⟩)
        rcases (by omega : j = 0 ∨ j = 1 ∨ j = 2) with rfl | rfl | rfl <;> simp only [Nat.reduceAdd, b3, b4, b5, b6, j0, j1, j2]
    · constructor
      · rintro _ ⟨h2, _⟩; exact h h2
      · intro _ j _ hj
        omega
  | true =>
    simp only [if_true] at h5 ⊢
    by_cases h : ds.length = 10
    · have b0 := bits_last ds hd (i := 0) (by decide)
      have b1 := bits_last ds hd (i := 1) (by decide)
      have b2 := bits_last ds hd (i := 2) (by decide)
      have b3 := bits_last ds hd (i := 3) (by decide)
      have b4 := bits_last ds hd (i := 4) (by decide)
      have b5 := bits_last ds hd (i := 5) (by decide)
      have b6 := bits_last ds hd (i := 6) (by decide)
      rw [h] at b0 b1 b2 b3 b4 b5 b6
      simp only [Nat.reduceSub, Nat.reduceMul, Nat.reduceAdd, Int.reducePow, Int.pow_zero] at b0 b1 b2 b3 b4 b5 b6
      rw [h]
      simp only [Nat.reduceSub, Nat.reduceMul, Bool.not_eq_false', decide_eq_true_eq]
      constructor
      · rintro hj ⟨_, h16, h17⟩
        have j0 := hj 0 (by omega) (by omega)
        have j1 := hj 1 (by omega) (by omega)
        have j2 := hj 2 (by omega) (by omega)
        have j3 := hj 3 (by omega) (by omega)
        have j4 := hj 4 (by omega) (by omega)
        have j5 := hj 5 (by omega) (by omega)
        simp only [Nat.reduceAdd] at j0 j1 j2 j3 j4 j5
        rw [Int.ediv_one] at b0
        rw [b0, b1] at j0
        rw [b0, b2] at j1
        rw [b0, b3] at j2
        rw [b0, b4] at j3
        rw [b0, b5] at j4
        rw [b0, b6] at j5
        exact (q64 hn hl).1 ⟨j0, j1, j2, j3, j4, j5⟩ ⟨h16, h17⟩
      · intro hn16 j _ hj
        rw [Int.ediv_one] at b0
        obtain ⟨j0, j1, j2, j3, j4, j5⟩ := (q64 hn hl).2 (fun c => hn16 ⟨trivial, c⟩)
        rcases (by omega : j = 0 ∨ j = 1 ∨ j = 2 ∨ j = 3 ∨ j = 4 ∨ j = 5) with rfl | rfl | rfl | rfl | rfl | rfl <;> simp only [Nat.reduceAdd, b0, b1, b2, b3, b4, b5, b6, j0, j1, j2, j3, j4, j5]
    · constructor
      · rintro _ ⟨h2, _⟩; exact h h2
      · intro _ j _ hj
        omega
theorem rReadS_ev (w : Bool) (fu n : Nat) (l : List Int) (hb : Bs l) (x : Nat) (hf : 80 < fu) (hx : x ≤ l.length) (hl : l.length < 1099511627000) :
    evF (G fu) (n+2) 102 [.d (.list (byt l)), .d (.int .i64 x), .d (.int .i64 (if w then 64 else 32))] [] = some (rSR x (rdS w (l.drop x)), []) := by
  have hd : evF (G fu) (n+1) 104 [.d (.list (byt l)), .d (.int .i64 x), .d (.int .i64 (if w then 64 else 32))] [] = digR x (scan (if w then 10 else 5) (l.drop x)) := by
    cases w with
    | false => exact digits_ev fu n l hb x 32 4 (by omega) (by decide) (by decide) (by decide) hx hl
    | true => exact digits_ev fu n l hb x 64 9 (by omega) (by decide) (by decide) (by decide) hx hl
  obtain ⟨sz, hsz, hszI, hsz3⟩ : ∃ sz : Nat, sz = (if w then 64 else 32) ∧ (sz : Int) = (if w then 64 else 32) ∧ (sz = 64 ∨ sz = 32) := ⟨if w then 64 else 32, rfl, by cases w <;> rfl, by cases w <;> simp⟩
  have hin := fun (ds : List Int) (h : rdS w (l.drop x) = .ok ds) => (rdS_in (hb.drop x) h).1
  unfold rdS at hin ⊢
  have fS := @firstS w
  rw [← hszI] at hd ⊢
  rw [← hsz] at fS
  cases hs : scan (if w then 10 else 5) (l.drop x) with
  | error e =>
    rw [hs] at hd
    simp only [digR] at hd
    have he : ¬ e = 0 := by rcases scan_err hs with rfl | rfl <;> decide
    rw [evF.eq_2, evX.eq_def, Gext, exts_no _ (f := 102) (by decide), GP, Tryd.func102]; simp only [Tryd.f102, evB]
    simp only [go_sem, Nat.reduceAdd, Nat.reduceMul, Nat.reduceSub, Nat.reduceLT, Nat.reduceLeDiff, Nat.reduceEqDiff, Nat.reduceBEq, Nat.reduceBeqDiff, Int.reduceEq, Int.reduceLT, Int.reduceLE, Int.reduceToNat, Int.reduceNeg, Int.reduceAdd, Int.reduceSub, Int.reduceMul, reduceIte, reduceCtorEq, Nat.reducePow, Nat.reduceDiv, Nat.reduceMod, Int.reduceBEq, hd, he, rSR]
  | ok ds =>
    rw [hs] at hd hin
    simp only [digR] at hd hin
    obtain ⟨o1, o2, o3, o4, o5⟩ := scan_ok hs
    have hbs : Bs ds := by rw [o3]; exact (hb.drop x).take _
    have o6 := lastB_nonneg ds hbs
    have hfi := fS o1 o2 o5 o6
    have hlen := bitsL_len ds
    have hp : 0 < ds.length := List.length_pos_iff.2 o1
    have hd10 : ds.length ≤ 10 := by
      have : (if w then 10 else 5) ≤ 10 := by cases w <;> decide
      omega
    have hbit : ∀ i, i < (bitsL ds).length → (bitsL ds).getD i 0 = sval ds / 2 ^ i % 2 := fun i hi => bits_sval ds i (by omega)
    have htop := sval_top ds o1
    rw [← hlen] at htop
    have hix : ∀ i, i < (bitsL ds).length → ((bitsL ds).map (D.int .i64))[i]? = some (.int .i64 ((bitsL ds).getD i 0)) := fun i hi => getD_map hi
    generalize hL : bitsL ds = L at *
    rw [evF.eq_2, evX.eq_def, Gext, exts_no _ (f := 102) (by decide), GP, Tryd.func102]; simp only [Tryd.f102, evB]
    simp only [go_sem, Nat.reduceAdd, Nat.reduceMul, Nat.reduceSub, Nat.reduceLT, Nat.reduceLeDiff, Nat.reduceEqDiff, Nat.reduceBEq, Nat.reduceBeqDiff, Int.reduceEq, Int.reduceLT, Int.reduceLE, Int.reduceToNat, Int.reduceNeg, Int.reduceAdd, Int.reduceSub, Int.reduceMul, reduceIte, reduceCtorEq, Nat.reducePow, Nat.reduceDiv, Nat.reduceMod, Int.reduceBEq, hd]
    rw [loop_scan (L.length - sz) (fun j => ⟨[(2, .d (.int .i64 sz)), (9, .row 1280 0 0 L.length), (10, .d (.int .i64 (x + ds.length))), (12, .d (.int .i64 ((sz + j : Nat) : Int)))], [(1280, .row 1 (L.map (D.int .i64)) 0 false false)]⟩)
      (fun j => !decide (L.getD (sz + j) 0 = L.getD (sz - 1) 0)) (fun _ => (.ret, ⟨[(6, .d (.int .i64 0)), (7, .d (.int .i64 0)), (8, .d (.int .i64 3))], []⟩)) (.exit 0, ⟨[(9, .row 1280 0 0 L.length), (10, .d (.int .i64 (x + ds.length)))], [(1280, .row 1 (L.map (D.int .i64)) 0 false false)]⟩) (by omega) (fun _ => trivial) trivial ?_]
    case hs =>
      intro j hj
      have c1 : ((sz + j : Nat) : Int) < L.length := by omega
      have c2 : (0 : Int) ≤ ((sz + j : Nat) : Int) := by omega
      have i1 := hix (sz + j) (by omega)
      have i2 := hix (sz - 1) (by omega)
      have W1 := wrap_i64 (show -9223372036854775808 ≤ ((sz + j : Nat) : Int) + 1 by omega) (by omega)
      have W2 : IntKind.wrap .i64 ((sz : Int) - 1) = ((sz - 1 : Nat) : Int) := by rw [wrap_i64 (by omega) (by omega)]; omega
      have c3 : ((sz - 1 : Nat) : Int) < L.length := by omega
      by_cases hc : L.getD (sz + j) 0 = L.getD (sz - 1) 0
      · rw [hc] at i1
        simp only [go_sem, Nat.reduceAdd, Nat.reduceMul, Nat.reduceSub, Nat.reduceLT, Nat.reduceLeDiff, Nat.reduceEqDiff, Nat.reduceBEq, Nat.reduceBeqDiff, Int.reduceEq, Int.reduceLT, Int.reduceLE, Int.reduceToNat, Int.reduceNeg, Int.reduceAdd, Int.reduceSub, Int.reduceMul, reduceIte, reduceCtorEq, Nat.reducePow, Nat.reduceDiv, Nat.reduceMod, Int.reduceBEq, c1, i1, i2, W1, W2, c3, hc]
        rfl
      · simp only [go_sem, Nat.reduceAdd, Nat.reduceMul, Nat.reduceSub, Nat.reduceLT, Nat.reduceLeDiff, Nat.reduceEqDiff, Nat.reduceBEq, Nat.reduceBeqDiff, Int.reduceEq, Int.reduceLT, Int.reduceLE, Int.reduceToNat, Int.reduceNeg, Int.reduceAdd, Int.reduceSub, Int.reduceMul, reduceIte, reduceCtorEq, Nat.reducePow, Nat.reduceDiv, Nat.reduceMod, Int.reduceBEq, c1, i1, i2, W1, W2, c3, hc]
    case he =>
      have c1 : ¬ ((sz + (L.length - sz) : Nat) : Int) < L.length := by omega
      simp only [go_sem, Nat.reduceAdd, Nat.reduceMul, Nat.reduceSub, Nat.reduceLT, Nat.reduceLeDiff, Nat.reduceEqDiff, Nat.reduceBEq, Nat.reduceBeqDiff, Int.reduceEq, Int.reduceLT, Int.reduceLE, Int.reduceToNat, Int.reduceNeg, Int.reduceAdd, Int.reduceSub, Int.reduceMul, reduceIte, reduceCtorEq, Nat.reducePow, Nat.reduceDiv, Nat.reduceMod, Int.reduceBEq, c1]
    · unfold Go.Ev.scan
      have e7 : (if w then (127 : Int) else 120) = (if w then 127 else 120) := rfl
      cases hf : first (fun j => !decide (L.getD (sz + j) 0 = L.getD (sz - 1) 0)) 0 (L.length - sz) with
      | some i =>
        have hy : ds.length = (if w then 10 else 5) ∧ (if w then (0 : Int) else 7) < lastB ds ∧ lastB ds < (if w then 127 else 120) := Decidable.byContradiction fun c => by rw [hfi.2 c] at hf; cases hf
        rw [if_pos hy]
        simp only [go_sem, Nat.reduceAdd, Nat.reduceMul, Nat.reduceSub, Nat.reduceLT, Nat.reduceLeDiff, Nat.reduceEqDiff, Nat.reduceBEq, Nat.reduceBeqDiff, Int.reduceEq, Int.reduceLT, Int.reduceLE, Int.reduceToNat, Int.reduceNeg, Int.reduceAdd, Int.reduceSub, Int.reduceMul, reduceIte, reduceCtorEq, Nat.reducePow, Nat.reduceDiv, Nat.reduceMod, Int.reduceBEq, rSR]
      | none =>
        rw [if_neg (hfi.1 hf)] at hin ⊢
        have hS := hin ds rfl
        have hS2 : -9223372036854775808 ≤ sval ds ∧ sval ds < 9223372036854775808 := by
          unfold inS at hS
          cases w <;> simp only [Bool.false_eq_true, if_false, if_true] at hS <;> omega
        have W0 := wrap_i64 (show -9223372036854775808 ≤ (L.length : Int) - 1 by omega) (by omega)
        have W1 : (L.length : Int) - 1 = ((L.length - 1 : Nat) : Int) := by omega
        have i1 := hix (L.length - 1) (by omega)
        have c1 : ((L.length - 1 : Nat) : Int) < L.length := by omega
        rw [W1] at W0
        have b01 : L.getD (L.length - 1) 0 = 0 ∨ L.getD (L.length - 1) 0 = 1 := by
          have := hbit (L.length - 1) (by omega)
          omega
        have step : ∀ j, j < L.length → ∃ k : Nat, (L.length : Int) - 1 - j = k ∧ L.length - j = k + 1 ∧ L.length - (j + 1) = k ∧ (L.length : Int) - 1 - ((j + 1 : Nat) : Int) = (k : Int) - 1 ∧ (k : Int) < L.length ∧ (0 : Int) ≤ k ∧ (L.map (D.int .i64))[k]? = some (.int .i64 (L.getD k 0)) ∧
            IntKind.wrap .i64 (sval ds / 2 ^ (k + 1) * 2) = sval ds / 2 ^ (k + 1) * 2 ∧ IntKind.wrap .i64 (sval ds / 2 ^ (k + 1) * 2 + L.getD k 0) = sval ds / 2 ^ k ∧ IntKind.wrap .i64 ((k : Int) - 1) = (k : Int) - 1 := by
          intro j hj
          obtain ⟨k, hk⟩ : ∃ k, L.length = j + k + 1 := ⟨L.length - 1 - j, by omega⟩
          have hst := half_step (sval ds) k
          rw [← hbit k (by omega)] at hst
          have b2 : L.getD k 0 = 0 ∨ L.getD k 0 = 1 := by
            have := hbit k (by omega)
            omega
          have r1 := ediv_in (s := sval ds) (B := 9223372036854775808) k (by decide) (by omega) hS2.2
          refine ⟨k, by omega, by omega, by omega, by omega, by omega, by omega, hix k (by omega), wrap_i64 (by omega) (by omega), ?_, wrap_i64 (by omega) (by omega)⟩
          rw [wrap_i64 (by omega) (by omega)]
          exact hst.symm
        rcases b01 with hb0 | hb0
        all_goals
          rw [hb0] at i1 htop
          simp only [go_sem, Nat.reduceAdd, Nat.reduceMul, Nat.reduceSub, Nat.reduceLT, Nat.reduceLeDiff, Nat.reduceEqDiff, Nat.reduceBEq, Nat.reduceBeqDiff, Int.reduceEq, Int.reduceLT, Int.reduceLE, Int.reduceToNat, Int.reduceNeg, Int.reduceAdd, Int.reduceSub, Int.reduceMul, reduceIte, reduceCtorEq, Nat.reducePow, Nat.reduceDiv, Nat.reduceMod, Int.reduceBEq, W1, W0, i1, c1]
          rw [loop_some L.length (fun j => ⟨[(9, .row 1280 0 0 L.length), (10, .d (.int .i64 (x + ds.length))), (13, .d (.int .i64 (sval ds / 2 ^ (L.length - j)))), (14, .d (.int .i64 ((L.length : Int) - 1 - j)))], [(1280, .row 1 (L.map (D.int .i64)) 0 false false)]⟩) (.exit 2, ⟨[(10, .d (.int .i64 (x + ds.length))), (13, .d (.int .i64 (sval ds)))], []⟩) trivial (by omega) ?_]
          case hs =>
            intro j hj
            obtain ⟨k, e1, e3, e4, e5, hkI, k0, hq, W2, W3, W4⟩ := step j hj
            rw [e1, e3, e4, e5]
            simp only [go_sem, Nat.reduceAdd, Nat.reduceMul, Nat.reduceSub, Nat.reduceLT, Nat.reduceLeDiff, Nat.reduceEqDiff, Nat.reduceBEq, Nat.reduceBeqDiff, Int.reduceEq, Int.reduceLT, Int.reduceLE, Int.reduceToNat, Int.reduceNeg, Int.reduceAdd, Int.reduceSub, Int.reduceMul, reduceIte, reduceCtorEq, Nat.reducePow, Nat.reduceDiv, Nat.reduceMod, Int.reduceBEq, k0, hkI, hq, W2, W3, W4]
          case he =>
            have e1 : (L.length : Int) - 1 - L.length = -1 := by omega
            rw [e1, Nat.sub_self]
            simp only [go_sem, Nat.reduceAdd, Nat.reduceMul, Nat.reduceSub, Nat.reduceLT, Nat.reduceLeDiff, Nat.reduceEqDiff, Nat.reduceBEq, Nat.reduceBeqDiff, Int.reduceEq, Int.reduceLT, Int.reduceLE, Int.reduceToNat, Int.reduceNeg, Int.reduceAdd, Int.reduceSub, Int.reduceMul, reduceIte, reduceCtorEq, Nat.reducePow, Nat.reduceDiv, Nat.reduceMod, Int.reduceBEq, Int.pow_zero, Int.ediv_one]
          · simp only [go_sem, Nat.reduceAdd, Nat.reduceMul, Nat.reduceSub, Nat.reduceLT, Nat.reduceLeDiff, Nat.reduceEqDiff, Nat.reduceBEq, Nat.reduceBeqDiff, Int.reduceEq, Int.reduceLT, Int.reduceLE, Int.reduceToNat, Int.reduceNeg, Int.reduceAdd, Int.reduceSub, Int.reduceMul, reduceIte, reduceCtorEq, Nat.reducePow, Nat.reduceDiv, Nat.reduceMod, Int.reduceBEq, rSR]
          · rw [Nat.sub_zero, htop, ← W1]
            simp
    · simp
end Go.Proofs.YtklnkkejkeelaaaDoor.E
