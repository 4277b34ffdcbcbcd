/- Laws on numbers' digits. -/
import Derived.Test.YtklnkkejkeelaaaDoorEvL
set_option linter.unnecessarySimpa false
set_option linter.unusedSimpArgs false
set_option linter.unusedVariables false
set_option autoImplicit false
set_option linter.unusedSimpArgs false
namespace Go.Ev
theorem ofInt_toNat {w : Nat} {x : Int} (h0 : 0 ≤ x) (h1 : x < 2 ^ w) : (BitVec.ofInt w x).toNat = x.toNat := by
  rw [BitVec.toNat_ofInt]
  congr 1
  exact Int.emod_eq_of_lt h0 (by exact_mod_cast h1)
theorem and_lt64 (a b : Nat) (h : a < 2 ^ 64) : a &&& b < 2 ^ 64 := Nat.lt_of_le_of_lt Nat.and_le_left h
theorem bits_and_u64 {x y : Int} (hx : 0 ≤ x) (hx' : x < 18446744073709551616) (hy : 0 ≤ y) (hy' : y < 18446744073709551616) : bits2 .and .u64 x y = ((x.toNat &&& y.toNat : Nat) : Int) := by
  show IntKind.wrap .u64 ((BitVec.ofInt 64 x &&& BitVec.ofInt 64 y).toNat : Int) = _
  rw [BitVec.toNat_and, ofInt_toNat hx (by simpa using hx'), ofInt_toNat hy (by simpa using hy'), wrap_u64 (by omega)]
  have := and_lt64 x.toNat y.toNat (by omega)
  omega
theorem and_mask32 {x : Int} (hx : 0 ≤ x) (hx' : x < 18446744073709551616) : bits2 .and .u64 x 4294967295 = x % 4294967296 := by
  rw [bits_and_u64 hx hx' (by omega) (by omega)]
  have : x.toNat &&& (4294967295 : Int).toNat = x.toNat % 2 ^ 32 := Nat.and_two_pow_sub_one_eq_mod x.toNat 32
  rw [this]
  omega
theorem shr_u64 {x : Int} (n : Nat) (hn : n ≤ 64) : shr .u64 x n = x / (2 ^ n : Int) := by
  simp only [shr, IntKind.bits, Int.toNat_natCast, Nat.min_eq_left hn]
  rw [Int.fdiv_eq_ediv_of_nonneg _ (by exact Int.le_of_lt (Int.pow_pos (by decide)))]
theorem shr32 {x : Int} : shr .u64 x 32 = x / 4294967296 := shr_u64 32 (by decide)
theorem sizedAll_of {sz : Nat} : ∀ {xs : List D}, (∀ x ∈ xs, ∃ cs, cellsOkD sz x = some cs) → sizedAll sz xs = true
  | [], _ => rfl
  | x :: xs, h => by
    obtain ⟨cs, hc⟩ := h x (by simp)
    simp only [sizedAll, hc, Bool.true_and]
    exact sizedAll_of (fun y hy => h y (by simp [hy]))
theorem sizedAll_map {α : Type} {sz : Nat} {f : α → D} (h : ∀ a, ∃ cs, cellsOkD sz (f a) = some cs) (xs : List α) : sizedAll sz (xs.map f) = true := sizedAll_of fun x hx => by
  obtain ⟨a, _, rfl⟩ := List.mem_map.1 hx
  exact h a
theorem sizedAll_rep {sz n : Nat} {x : D} {cs : List D} (h : cellsOkD sz x = some cs) : sizedAll sz (List.replicate n x) = true := sizedAll_of fun y hy => by
  rw [List.eq_of_mem_replicate hy]
  exact ⟨cs, h⟩
theorem and_low_i64 {x : Int} {n : Nat} (hn : n ≤ 62) : bits2 .and .i64 x (2 ^ n - 1 : Nat) = x % (2 ^ n : Nat) := by
  show IntKind.wrap .i64 ((BitVec.ofInt 64 x &&& BitVec.ofInt 64 ((2 ^ n - 1 : Nat) : Int)).toNat : Int) = _
  have hp : 2 ^ n ≤ 2 ^ 62 := Nat.pow_le_pow_right (by decide) hn
  have hp0 : 0 < 2 ^ n := Nat.pow_pos (by decide)
  have h1 : (BitVec.ofInt 64 ((2 ^ n - 1 : Nat) : Int)).toNat = 2 ^ n - 1 := by
    rw [ofInt_toNat (by omega) (by omega)]; omega
  rw [BitVec.toNat_and, h1, Nat.and_two_pow_sub_one_eq_mod, BitVec.toNat_ofInt]
  have h2 : ((x % ((2 ^ 64 : Nat) : Int)).toNat % 2 ^ n : Nat) = ((x % ((2 ^ n : Nat) : Int)).toNat) := by
    have hd : ((2 ^ n : Nat) : Int) ∣ ((2 ^ 64 : Nat) : Int) := by exact_mod_cast Nat.pow_dvd_pow 2 (by omega)
    have h3 : ((x % ((2 ^ 64 : Nat) : Int)) % ((2 ^ n : Nat) : Int)) = x % ((2 ^ n : Nat) : Int) := Int.emod_emod_of_dvd x hd
    have h4 : 0 ≤ x % ((2 ^ 64 : Nat) : Int) := Int.emod_nonneg _ (by decide)
    rw [← h3]
    generalize x % ((2 ^ 64 : Nat) : Int) = y at h4
    obtain ⟨m, rfl⟩ := Int.eq_ofNat_of_zero_le h4
    rw [Int.toNat_natCast, ← Int.natCast_emod, Int.toNat_natCast]
  rw [h2]
  have h5 : 0 ≤ x % ((2 ^ n : Nat) : Int) := Int.emod_nonneg _ (by omega)
  have h6 : x % ((2 ^ n : Nat) : Int) < ((2 ^ n : Nat) : Int) := Int.emod_lt_of_pos _ (by omega)
  rw [wrap_i64 (by omega) (by omega)]
  omega
theorem and_ffff {x : Int} : bits2 .and .i64 x 65535 = x % 65536 := and_low_i64 (x := x) (n := 16) (by decide)
theorem and_63 {x : Int} : bits2 .and .i64 x 63 = x % 64 := and_low_i64 (x := x) (n := 6) (by decide)
theorem bne_tt : (true != true) = false := rfl
theorem bne_ff : (false != false) = false := rfl
theorem bne_tf : (true != false) = true := rfl
theorem bne_ft : (false != true) = true := rfl
attribute [go_sem] bne_tt bne_ff bne_tf bne_ft
end Go.Ev
