/- Plain laws: digits of two of numbers' bytes. -/
import Derived.Test.YtklnkkejkeelaaaDoorM2
set_option linter.unnecessarySimpa false
set_option linter.unusedSimpArgs false
set_option linter.unusedVariables false
set_option autoImplicit false
set_option linter.unusedSimpArgs false
set_option linter.unusedVariables false
namespace Go.Proofs.YtklnkkejkeelaaaDoor.E
open Go.Ev
theorem bits7_len (c : Int) : (bits7 c).length = 7 := rfl
theorem seven {i : Nat} (h : i < 7) : i = 0 ∨ i = 1 ∨ i = 2 ∨ i = 3 ∨ i = 4 ∨ i = 5 ∨ i = 6 := by omega
theorem bits7_get (c w : Int) {i : Nat} (h : i < 7) : (bits7 c).getD i 0 = (c % 128 + 128 * w) / 2 ^ i % 2 := by
  rcases seven h with rfl | rfl | rfl | rfl | rfl | rfl | rfl <;> simp only [bits7, List.getD_cons_zero, List.getD_cons_succ, Int.reducePow, Int.pow_zero] <;> omega
theorem div7 (c w : Int) (k : Nat) : (c % 128 + 128 * w) / 2 ^ (7 + k) = w / 2 ^ k := by
  rw [Int.pow_add, ← Int.ediv_ediv_of_nonneg (by decide)]
  congr 1
  show (c % 128 + 128 * w) / 128 = w
  omega
theorem bitsL_cons (c : Int) (l : List Int) : bitsL (c :: l) = bits7 c ++ bitsL l := rfl
theorem getD_app_lt {a b : List Int} {i : Nat} (h : i < a.length) : (a ++ b).getD i 0 = a.getD i 0 := by
  simp only [List.getD_eq_getElem?_getD, List.getElem?_append_left h]
theorem getD_app_ge {a b : List Int} {i : Nat} : (a ++ b).getD (a.length + i) 0 = b.getD i 0 := by
  simp only [List.getD_eq_getElem?_getD, List.getElem?_append_right (Nat.le_add_right _ _), Nat.add_sub_cancel_left]
/-- A number's digits of two, out of its bytes'. -/
theorem bits_val : ∀ (ds : List Int) (i : Nat), i < 7 * ds.length → (bitsL ds).getD i 0 = val ds / 2 ^ i % 2
  | [], i, h => by simp at h
  | c :: l, i, h => by
    rw [bitsL_cons, val]
    rcases Nat.lt_or_ge i 7 with h7 | h7
    · rw [getD_app_lt (by rw [bits7_len]; exact h7), bits7_get c (val l) h7]
    · obtain ⟨k, rfl⟩ : ∃ k, i = 7 + k := ⟨i - 7, by omega⟩
      have e := getD_app_ge (a := bits7 c) (b := bitsL l) (i := k)
      rw [bits7_len] at e
      rw [e, bits_val l k (by simp at h; omega), div7]
theorem bits_sval : ∀ (ds : List Int) (i : Nat), i < 7 * ds.length → (bitsL ds).getD i 0 = sval ds / 2 ^ i % 2
  | [], i, h => by simp at h
  | [c], i, h => by
    have h7 : i < 7 := by simpa using h
    rw [bitsL_cons, getD_app_lt (by rw [bits7_len]; exact h7)]
    have e : sval [c] = c % 128 + 128 * (if c % 128 < 64 then 0 else -1) := by
      show (if c % 128 < 64 then c % 128 else c % 128 - 128) = _
      split <;> omega
    rw [e, bits7_get c _ h7]
  | c :: d :: l, i, h => by
    rw [bitsL_cons, sval]
    rcases Nat.lt_or_ge i 7 with h7 | h7
    · rw [getD_app_lt (by rw [bits7_len]; exact h7), bits7_get c (sval (d :: l)) h7]
    · obtain ⟨k, rfl⟩ : ∃ k, i = 7 + k := ⟨i - 7, by omega⟩
      have e := getD_app_ge (a := bits7 c) (b := bitsL (d :: l)) (i := k)
      rw [bits7_len] at e
      rw [e, bits_sval (d :: l) k (by simp at h ⊢; omega), div7]
theorem val_top : ∀ (ds : List Int), val ds / 2 ^ (7 * ds.length) = 0
  | [] => rfl
  | c :: l => by
    rw [val, show 7 * (c :: l).length = 7 + 7 * l.length by simp; omega, div7, val_top l]
theorem sval_top : ∀ (ds : List Int), ds ≠ [] → sval ds / 2 ^ (7 * ds.length) = - (bitsL ds).getD (7 * ds.length - 1) 0
  | [], h => absurd rfl h
  | [c], _ => by
    show (if c % 128 < 64 then c % 128 else c % 128 - 128) / 128 = - (c / 64 % 2)
    split <;> omega
  | c :: d :: l, _ => by
    rw [sval, show 7 * (c :: d :: l).length = 7 + 7 * (d :: l).length by simp; omega, div7, sval_top (d :: l) (by simp), bitsL_cons c]
    have e := getD_app_ge (a := bits7 c) (b := bitsL (d :: l)) (i := 7 * (d :: l).length - 1)
    rw [bits7_len] at e
    rw [show 7 + 7 * (d :: l).length - 1 = 7 + (7 * (d :: l).length - 1) by simp; omega, e]
theorem bit01 (ds : List Int) {i : Nat} (h : i < 7 * ds.length) : (bitsL ds).getD i 0 = 0 ∨ (bitsL ds).getD i 0 = 1 := by
  rw [bits_val ds i h]
  omega
/-- Halved once more. -/
theorem half_step (s : Int) (k : Nat) : s / 2 ^ k = s / 2 ^ (k + 1) * 2 + s / 2 ^ k % 2 := by
  rw [Int.pow_succ, ← Int.ediv_ediv_of_nonneg (Int.le_of_lt (Int.pow_pos (by decide)))]
  omega
theorem ediv_in {s B : Int} (k : Nat) (hB : 1 ≤ B) (h0 : -B ≤ s) (h1 : s < B) : -B ≤ s / 2 ^ k ∧ s / 2 ^ k < B := by
  have hp : (0 : Int) < 2 ^ k := Int.pow_pos (by decide)
  generalize (2 : Int) ^ k = p at *
  constructor
  · refine Int.le_ediv_of_mul_le hp ?_
    have : B * 1 ≤ B * p := Int.mul_le_mul_of_nonneg_left (by omega) (by omega)
    rw [Int.neg_mul]; omega
  · refine Int.ediv_lt_of_lt_mul hp ?_
    have : B * 1 ≤ B * p := Int.mul_le_mul_of_nonneg_left (by omega) (by omega)
    omega
/-- The last byte's digits. -/
theorem bits_last (ds : List Int) (hd : ds ≠ []) {i : Nat} (h : i < 7) : (bitsL ds).getD (7 * (ds.length - 1) + i) 0 = lastB ds / 2 ^ i % 2 := by
  obtain ⟨a, c, rfl⟩ : ∃ a c, ds = a ++ [c] := ⟨ds.dropLast, ds.getLast hd, (List.dropLast_concat_getLast hd).symm⟩
  rw [bitsL_app, lastB_append a (by simp)]
  have e := getD_app_ge (a := bitsL a) (b := bits7 c) (i := i)
  rw [bitsL_len] at e
  rw [show 7 * ((a ++ [c]).length - 1) + i = 7 * a.length + i by simp, e, bits7_get c (c / 128) h]
  show _ = c / 2 ^ i % 2
  rw [show c % 128 + 128 * (c / 128) = c by omega]
end Go.Proofs.YtklnkkejkeelaaaDoor.E
