/- PLAIN LAWS of leb: what is laid, and what is read. No condition; no program's step in it. -/
import Derived.Test.YtklnkkejkeelaaaDoorXx3
import Derived.Test.YtklnkkejkeelaaaDoorXx5
import Derived.Laws.BitsLemmas
set_option linter.unusedVariables false
set_option linter.unusedSimpArgs false
namespace Go.Proofs.YtklnkkejkeelaaaDoor.X
open Go.RowKit Go.Proofs.YtklnkkejkeelaaaDoorW.PrintWords Go.Proofs.YtklnkkejkeelaaaDoorW.PrintLast Go.Proofs.YtklnkkejkeelaaaDoorW.PrintMore

/-! ### whole numbers -/
theorem w64 {x : Int} (h : -9223372036854775808 ≤ x) (h2 : x < 9223372036854775808) : wrap64 x = x := by
  unfold wrap64
  omega
theorem u64w (n : Int) : IntKind.u64.wrap n = n % 18446744073709551616 := by simp [IntKind.wrap, IntKind.bits, IntKind.signed]
theorem wf_u8 {x : Int} (h : (Lit.int .u8 x).wf = true) : 0 ≤ x ∧ x < 256 := by
  simp [Lit.wf, IntKind.min, IntKind.max, IntKind.signed, IntKind.bits] at h
  omega
theorem wf_u64 {x : Int} (h : (Lit.int .u64 x).wf = true) : 0 ≤ x ∧ x < 18446744073709551616 := by
  simp [Lit.wf, IntKind.min, IntKind.max, IntKind.signed, IntKind.bits] at h
  omega
theorem wf_i64 {x : Int} (h : (Lit.int .i64 x).wf = true) : -9223372036854775808 ≤ x ∧ x < 9223372036854775808 := by
  simp [Lit.wf, IntKind.min, IntKind.max, IntKind.signed, IntKind.bits] at h
  omega
/-- Bytes. -/
def Bs (l : List Int) : Prop := ∀ x ∈ l, 0 ≤ x ∧ x < 256
theorem Bs.nil : Bs [] := fun x h => absurd h (by simp)
theorem Bs.cons {c : Int} {l : List Int} (h : 0 ≤ c ∧ c < 256) (hl : Bs l) : Bs (c :: l) := fun x hx => by
  rcases List.mem_cons.1 hx with rfl | hx
  · exact h
  · exact hl x hx
theorem Bs.append {l m : List Int} (h : Bs l) (h2 : Bs m) : Bs (l ++ m) := fun x hx => by
  rcases List.mem_append.1 hx with hx | hx
  · exact h x hx
  · exact h2 x hx
theorem Bs.drop {l : List Int} (h : Bs l) (n : Nat) : Bs (l.drop n) := fun x hx => h x (List.mem_of_mem_drop hx)
theorem Bs.take {l : List Int} (h : Bs l) (n : Nat) : Bs (l.take n) := fun x hx => h x (List.mem_of_mem_take hx)
theorem rd_nat {l : List Int} {x : Nat} (h : x < l.length) : rd l (x : Int) = l[x] := by
  simp [rd, List.getD_eq_getElem?_getD, List.getElem?_eq_getElem h]
theorem all256 {p : Int → Bool} (h : (List.range 256).all (fun n => p (n : Int)) = true) {c : Int} (h0 : 0 ≤ c) (h1 : c < 256) : p c = true := by
  have := List.all_eq_true.1 h c.toNat (by simp; omega)
  rwa [Int.toNat_of_nonneg h0] at this
theorem or128 {c : Int} (h0 : 0 ≤ c) (h1 : c < 256) : bits .or .u8 c 128 = c % 128 + 128 := by
  have := all256 (p := fun c => bits .or .u8 c 128 == c % 128 + 128) (by kernel_rfl) h0 h1
  simpa using this
theorem and127 {c : Int} (h0 : 0 ≤ c) (h1 : c < 256) : bits .and .u8 c 127 = c % 128 := by
  have := all256 (p := fun c => bits .and .u8 c 127 == c % 128) (by kernel_rfl) h0 h1
  simpa using this
theorem and64 {c : Int} (h0 : 0 ≤ c) (h1 : c < 256) : (bits .and .u8 c 64 = 0) ↔ c % 128 < 64 := by
  have := all256 (p := fun c => decide (bits .and .u8 c 64 = 0) == decide (c % 128 < 64)) (by kernel_rfl) h0 h1
  simpa using this

/-! ### laid -/
/-- A number's bytes: seven digits of two each, the lowest first. -/
def ulebF : Nat → Int → List Int
  | 0, _ => []
  | f + 1, v => if v ≥ 128 then (v % 128 + 128) :: ulebF f (v / 128) else [v]
def uleb (v : Int) : List Int := ulebF 10 v
/-- A number's bytes that may be below 0. -/
def slebF : Nat → Int → List Int
  | 0, _ => []
  | f + 1, v => if v < -64 ∨ v ≥ 64 then (v % 128 + 128) :: slebF f (v / 128) else [v % 128]
def sleb (v : Int) : List Int := slebF 10 v
theorem ulebF_len (f : Nat) : ∀ v, (ulebF f v).length ≤ f := by
  induction f with
  | zero => intro v; simp [ulebF]
  | succ f ih =>
    intro v
    simp only [ulebF]
    split
    · have := ih (v / 128)
      simp
      omega
    · simp
theorem slebF_len (f : Nat) : ∀ v, (slebF f v).length ≤ f := by
  induction f with
  | zero => intro v; simp [slebF]
  | succ f ih =>
    intro v
    simp only [slebF]
    split
    · have := ih (v / 128)
      simp
      omega
    · simp
theorem ulebF_bs (f : Nat) : ∀ v, 0 ≤ v → Bs (ulebF f v) := by
  induction f with
  | zero => intro v _; exact Bs.nil
  | succ f ih =>
    intro v h0
    simp only [ulebF]
    split
    · exact Bs.cons (by omega) (ih _ (by omega))
    · exact Bs.cons (by omega) Bs.nil
theorem slebF_bs (f : Nat) : ∀ v, Bs (slebF f v) := by
  induction f with
  | zero => intro v; exact Bs.nil
  | succ f ih =>
    intro v
    simp only [slebF]
    split
    · exact Bs.cons (by omega) (ih _)
    · exact Bs.cons (by omega) Bs.nil
theorem U_loop (f : Nat) : ∀ (k : Nat) (v : Int) (l : List Int), 0 ≤ v → v < 128 ^ (f + 1) → f < k → l.length + f < 140737488355328 → leb_U.l0 k v l = some (l ++ ulebF (f + 1) v) := by
  induction f with
  | zero =>
    intro k v l h0 h1 hk hl
    obtain ⟨k, rfl⟩ : ∃ m, k = m + 1 := ⟨k - 1, by omega⟩
    have h2 : v < 128 := by simpa using h1
    simp only [leb_U.l0, ulebF]
    rw [if_neg (by omega), if_pos (by omega), if_neg (by omega), Int.emod_eq_of_lt h0 (by omega)]
  | succ f ih =>
    intro k v l h0 h1 hk hl
    obtain ⟨k, rfl⟩ : ∃ m, k = m + 1 := ⟨k - 1, by omega⟩
    rw [ulebF, leb_U.l0]
    by_cases h2 : v ≥ 128
    · rw [if_pos h2, if_pos (by omega), if_pos h2, ih k (v / 128) _ (by omega) (by
        rw [Int.pow_succ] at h1
        exact Int.ediv_lt_of_lt_mul (by decide) h1) (by omega) (by simp; omega), or128 (by omega) (by omega)]
      have : v % 256 % 128 = v % 128 := by omega
      rw [this, List.append_assoc]
      rfl
    · rw [if_neg h2, if_pos (by omega), if_neg h2, Int.emod_eq_of_lt h0 (by omega)]
theorem leb_U_eq (k : Nat) (l : List Int) (v : Int) (hk : 10 ≤ k) (h0 : 0 ≤ v) (h1 : v < 18446744073709551616) (hl : l.length + 10 < 140737488355328) : leb_U.f k l v = some (l ++ uleb v) := by
  unfold leb_U.f bytes_Clone.f
  rw [if_pos (by omega), Option.bind_some]
  exact U_loop 9 k v l h0 (by omega) (by omega) (by omega)
theorem S_loop (f : Nat) : ∀ (k : Nat) (v : Int) (l : List Int), -64 * 128 ^ f ≤ v → v < 64 * 128 ^ f → f < k → l.length + f < 140737488355328 → leb_S.l0 k v l = some (l ++ slebF (f + 1) v) := by
  induction f with
  | zero =>
    intro k v l h0 h1 hk hl
    obtain ⟨k, rfl⟩ : ∃ m, k = m + 1 := ⟨k - 1, by omega⟩
    simp only [Int.pow_zero, Int.mul_one] at h0 h1
    simp only [leb_S.l0, slebF]
    rw [if_neg (by omega), if_neg (by omega), if_pos (by omega), if_neg (by omega), and127 (by omega) (by omega)]
    have : v % 256 % 128 = v % 128 := by omega
    rw [this]
  | succ f ih =>
    intro k v l h0 h1 hk hl
    obtain ⟨k, rfl⟩ : ∃ m, k = m + 1 := ⟨k - 1, by omega⟩
    rw [slebF, leb_S.l0]
    have e : v % 256 % 128 = v % 128 := by omega
    have go : leb_S.l0 k (v / 128) (l ++ [v % 128 + 128]) = some (l ++ [v % 128 + 128] ++ slebF (f + 1) (v / 128)) :=
      ih k (v / 128) _ (by
        rw [Int.pow_succ, ← Int.mul_assoc] at h0
        exact (Int.le_ediv_iff_mul_le (by decide)).2 h0) (by
        rw [Int.pow_succ, ← Int.mul_assoc] at h1
        exact Int.ediv_lt_of_lt_mul (by decide) h1) (by omega) (by simp; omega)
    by_cases h2 : v < -64
    · rw [if_pos h2, if_pos (by omega), if_pos (.inl h2), or128 (by omega) (by omega), e, go, List.append_assoc]
      rfl
    · by_cases h3 : v ≥ 64
      · rw [if_neg h2, if_pos h3, if_pos (by omega), if_pos (.inr h3), or128 (by omega) (by omega), e, go, List.append_assoc]
        rfl
      · rw [if_neg h2, if_neg h3, if_pos (by omega), if_neg (by omega), and127 (by omega) (by omega), e]
theorem leb_S_eq (k : Nat) (l : List Int) (v : Int) (hk : 10 ≤ k) (h0 : -9223372036854775808 ≤ v) (h1 : v < 9223372036854775808) (hl : l.length + 10 < 140737488355328) : leb_S.f k l v = some (l ++ sleb v) := by
  unfold leb_S.f bytes_Clone.f
  rw [if_pos (by omega), Option.bind_some]
  exact S_loop 9 k v l (by omega) (by omega) (by omega) (by omega)

/-! ### read -/
/-- The bytes of a number: up to the first below 128; at most so many. -/
def scan : Nat → List Int → Except Int (List Int)
  | 0, _ => .error 3
  | _ + 1, [] => .error 2
  | f + 1, c :: l => if c < 128 then .ok [c] else match scan f l with
    | .error e => .error e
    | .ok ds => .ok (c :: ds)
/-- What they tell. -/
def val : List Int → Int
  | [] => 0
  | c :: l => c % 128 + 128 * val l
def lastB : List Int → Int
  | [] => 0
  | [c] => c
  | _ :: c :: l => lastB (c :: l)
theorem val_nonneg (l : List Int) : 0 ≤ val l := by
  induction l with
  | nil => exact Int.le_refl _
  | cons c l ih => simp only [val]; omega
theorem val_lt (l : List Int) : val l < 128 ^ l.length := by
  induction l with
  | nil => decide
  | cons c l ih =>
    simp only [val, List.length_cons, Int.pow_succ]
    omega
theorem scan_ok {f : Nat} : ∀ {l ds : List Int}, scan f l = .ok ds → ds ≠ [] ∧ ds.length ≤ f ∧ ds = l.take ds.length ∧ ds.length ≤ l.length ∧ lastB ds < 128 := by
  induction f with
  | zero => intro l ds h; simp [scan] at h
  | succ f ih =>
    intro l ds h
    cases l with
    | nil => simp [scan] at h
    | cons c l =>
      simp only [scan] at h
      split at h
      · injection h with h
        subst h
        exact ⟨by simp, by simp, by simp, by simp, by simpa [lastB]⟩
      · split at h
        · cases h
        · rename_i d e
          injection h with h
          subst h
          obtain ⟨h1, h2, h3, h4, h5⟩ := ih e
          refine ⟨by simp, by simp; omega, ?_, by simp; omega, ?_⟩
          · rw [List.length_cons, List.take_succ_cons, ← h3]
          · cases d with
            | nil => exact absurd rfl h1
            | cons c2 d => exact h5
/-- Whatever stands behind. -/
theorem scan_append {f : Nat} : ∀ {l ds : List Int}, scan f l = .ok ds → ∀ m, scan f (l ++ m) = .ok ds := by
  induction f with
  | zero => intro l ds h; simp [scan] at h
  | succ f ih =>
    intro l ds h m
    cases l with
    | nil => simp [scan] at h
    | cons c l =>
      simp only [scan, List.cons_append] at h ⊢
      split at h
      · rename_i hc; rw [if_pos hc]; exact h
      · rename_i hc
        rw [if_neg hc]
        split at h
        · cases h
        · rename_i d e
          rw [ih e m]
          exact h
theorem or_join {q y : Int} {i : Nat} (hq0 : 0 ≤ q) (hq : q < 2 ^ i) (hi : i ≤ 64) (hy0 : 0 ≤ y) (hy : y < 18446744073709551616) (hm : y % 2 ^ i = 0) : bits .or .u64 q y = q + y := by
  have hw : ∀ n : Int, 0 ≤ n → n < 2 ^ 64 → IntKind.u64.wrap n = n := fun n h0 h1 => by rw [u64w]; omega
  have hi2 : (2 : Int) ^ i ≤ 2 ^ 64 := by exact_mod_cast Nat.pow_le_pow_right (by decide) hi
  have h1 := bits_join .u64 64 (by decide) hw i y q hy0 hm (by omega) hq0 hq (by omega)
  obtain ⟨a, rfl⟩ := Int.eq_ofNat_of_zero_le hq0
  obtain ⟨b, rfl⟩ := Int.eq_ofNat_of_zero_le hy0
  have ha : a < 2 ^ 64 := by omega
  have hb : b < 2 ^ 64 := by omega
  rw [(bits_nat .u64 64 (by decide) hw b a hb ha).2] at h1
  rw [(bits_nat .u64 64 (by decide) hw a b ha hb).2, Nat.or_comm, h1, Int.add_comm]
theorem pow7 (n : Nat) : (2 : Int) ^ (7 * (n + 1)) = 2 ^ (7 * n) * 128 := by
  rw [Nat.mul_add, Int.pow_add]
  rfl
theorem join_eq {q c : Int} {n : Nat} (hq0 : 0 ≤ q) (hq : q < 2 ^ (7 * n)) (hn : n ≤ 9) (h0 : 0 ≤ c) (h1 : c < 256) : leb_read.join q c n = (q + c % 128 * 2 ^ (7 * n)) % 18446744073709551616 := by
  unfold leb_read.join
  rw [and127 h0 h1, u64w, u64w]
  have e1 : c % 128 % 18446744073709551616 = c % 128 := by omega
  rw [e1]
  rcases (by omega : n = 0 ∨ n = 1 ∨ n = 2 ∨ n = 3 ∨ n = 4 ∨ n = 5 ∨ n = 6 ∨ n = 7 ∨ n = 8 ∨ n = 9) with rfl | rfl | rfl | rfl | rfl | rfl | rfl | rfl | rfl | rfl <;>
    simp only [Nat.reduceMul, Int.reducePow] at hq ⊢ <;> rw [or_join hq0 (i := _) (by first | exact hq | (show _ < (2 : Int) ^ 0; simpa using hq) | (show _ < (2 : Int) ^ 7; simpa using hq) | (show _ < (2 : Int) ^ 14; simpa using hq) | (show _ < (2 : Int) ^ 21; simpa using hq) | (show _ < (2 : Int) ^ 28; simpa using hq) | (show _ < (2 : Int) ^ 35; simpa using hq) | (show _ < (2 : Int) ^ 42; simpa using hq) | (show _ < (2 : Int) ^ 49; simpa using hq) | (show _ < (2 : Int) ^ 56; simpa using hq) | (show _ < (2 : Int) ^ 63; simpa using hq)) (by decide) (by omega) (by omega) (by simp only [Int.reducePow]; omega)] <;> omega
end Go.Proofs.YtklnkkejkeelaaaDoor.X
