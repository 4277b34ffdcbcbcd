/- PLAIN LAWS of leb, two: what is read is what the bytes tell; what is laid is read again. No condition; no program's step in it. -/
import Derived.Test.YtklnkkejkeelaaaDoorPLeb
set_option linter.unusedVariables false
set_option linter.unusedSimpArgs false
namespace Go.Proofs.YtklnkkejkeelaaaDoor.X
open Go.RowKit Go.Proofs.YtklnkkejkeelaaaDoorW.PrintWords Go.Proofs.YtklnkkejkeelaaaDoorW.PrintLast Go.Proofs.YtklnkkejkeelaaaDoorW.PrintMore

theorem pow_mono {m n : Nat} (h : m ≤ n) : (128 : Int) ^ m ≤ 128 ^ n := by exact_mod_cast Nat.pow_le_pow_right (by decide) h
theorem lastB_nonneg (ds : List Int) (hb : Bs ds) : 0 ≤ lastB ds := by
  induction ds with
  | nil => exact Int.le_refl _
  | cons c l ih =>
    cases l with
    | nil => exact (hb c (by simp)).1
    | cons d l => exact ih (fun z hz => hb z (List.mem_cons_of_mem _ hz))
theorem lastB_cons (c : Int) {ds : List Int} (h : ds ≠ []) : lastB (c :: ds) = lastB ds := by
  cases ds with
  | nil => exact absurd rfl h
  | cons d l => rfl
/-- The reading loop tells what 'scan' tells. -/
theorem go_scan (l : List Int) (hb : Bs l) (m : Nat) : ∀ (k n x : Nat) (q : Int), m + 1 ≤ k → n + m ≤ 9 → 0 ≤ q → q < 2 ^ (7 * n) → x ≤ l.length →
    leb_read.go l k (x : Int) n ((n + (m + 1) : Nat) : Int) q = match scan (m + 1) (l.drop x) with
      | .error e => some (0, 0, 0, 0, e)
      | .ok ds => some ((q + val ds * 2 ^ (7 * n)) % 18446744073709551616, 7 * ((n + ds.length : Nat) : Int), lastB ds, ((x + ds.length : Nat) : Int), 0) := by
  induction m with
  | zero =>
    intro k n x q hk hn hq0 hq hx
    obtain ⟨k, rfl⟩ : ∃ j, k = j + 1 := ⟨k - 1, by omega⟩
    simp only [leb_read.go]
    rcases Nat.lt_or_ge x l.length with h | h
    · rw [List.drop_eq_getElem_cons h, if_pos (by omega), rd_nat h]
      have hc := hb _ (List.getElem_mem h)
      simp only [scan]
      by_cases h1 : l[x] < 128
      · rw [if_pos h1, if_pos h1]
        simp only [val, lastB, List.length_singleton]
        rw [join_eq hq0 hq (by omega) hc.1 hc.2, Int.mul_zero, Int.add_zero]
        rfl
      · rw [if_neg h1, if_neg h1, if_pos (by omega)]
    · rw [List.drop_eq_nil_of_le h, if_neg (by omega)]
      simp [scan]
  | succ m ih =>
    intro k n x q hk hn hq0 hq hx
    obtain ⟨k, rfl⟩ : ∃ j, k = j + 1 := ⟨k - 1, by omega⟩
    simp only [leb_read.go]
    rcases Nat.lt_or_ge x l.length with h | h
    · rw [List.drop_eq_getElem_cons h, if_pos (by omega), rd_nat h]
      have hc := hb _ (List.getElem_mem h)
      rw [scan]
      by_cases h1 : l[x] < 128
      · rw [if_pos h1, if_pos h1]
        simp only [val, lastB, List.length_singleton]
        rw [join_eq hq0 hq (by omega) hc.1 hc.2, Int.mul_zero, Int.add_zero]
        rfl
      · rw [if_neg h1, if_neg h1, if_neg (by omega)]
        have hj : leb_read.join q l[x] n = q + l[x] % 128 * 2 ^ (7 * n) := by
          rw [join_eq hq0 hq (by omega) hc.1 hc.2]
          rcases (by omega : n = 0 ∨ n = 1 ∨ n = 2 ∨ n = 3 ∨ n = 4 ∨ n = 5 ∨ n = 6 ∨ n = 7 ∨ n = 8) with rfl | rfl | rfl | rfl | rfl | rfl | rfl | rfl | rfl <;>
            simp only [Nat.reduceMul, Int.reducePow] at hq ⊢ <;> omega
        have hp : (0 : Int) < 2 ^ (7 * n) := Int.pow_pos (by decide)
        have hj0 : 0 ≤ leb_read.join q l[x] n := by
          rw [hj]
          have := Int.mul_nonneg (show 0 ≤ l[x] % 128 by omega) (Int.le_of_lt hp)
          omega
        have hj1 : leb_read.join q l[x] n < 2 ^ (7 * (n + 1)) := by
          rw [hj, pow7]
          have : l[x] % 128 * 2 ^ (7 * n) ≤ 127 * 2 ^ (7 * n) := Int.mul_le_mul_of_nonneg_right (by omega) (Int.le_of_lt hp)
          omega
        have := ih k (n + 1) (x + 1) (leb_read.join q l[x] n) (by omega) (by omega) hj0 hj1 h
        rw [show ((n + (m + 1 + 1) : Nat) : Int) = ((n + 1 + (m + 1) : Nat) : Int) by omega]
        have hx1 : ((x : Int) + 1) = ((x + 1 : Nat) : Int) := by omega
        rw [hx1, this]
        cases hs : scan (m + 1) (l.drop (x + 1)) with
        | error e => rfl
        | ok ds =>
          have hne := (scan_ok hs).1
          simp only [val, List.length_cons]
          rw [lastB_cons _ hne, hj, pow7]
          have e1 : q + l[x] % 128 * 2 ^ (7 * n) + val ds * (2 ^ (7 * n) * 128) = q + (l[x] % 128 + 128 * val ds) * 2 ^ (7 * n) := by
            generalize (2 : Int) ^ (7 * n) = P
            grind
          rw [e1]
          simp only [Option.some.injEq, Prod.mk.injEq, true_and, and_true]
          omega
    · rw [List.drop_eq_nil_of_le h, if_neg (by omega)]
      simp [scan]
theorem read_eq (l : List Int) (hb : Bs l) (x m : Nat) (size : Int) (h0 : 1 ≤ size) (h1 : size ≤ 64) (hm : (size + 7 - 1) / 7 = ((m + 1 : Nat) : Int)) (hx : x ≤ l.length) :
    leb_read.f l (x : Int) size = match scan (m + 1) (l.drop x) with
      | .error e => some (0, 0, 0, 0, e)
      | .ok ds => some (val ds % 18446744073709551616, 7 * (ds.length : Int), lastB ds, ((x + ds.length : Nat) : Int), 0) := by
  unfold leb_read.f
  rw [if_neg (by omega), hm]
  have := go_scan l hb m 11 0 x 0 (by omega) (by omega) (by omega) (by decide) hx
  rw [Nat.zero_add] at this
  rw [this]
  cases scan (m + 1) (l.drop x) with
  | error e => rfl
  | ok ds => simp

/-- A number of 32 digits of two. -/
def rdU (l : List Int) : Except Int (List Int) :=
  match scan 5 l with
  | .error e => .error e
  | .ok ds => if ds.length = 5 ∧ 16 ≤ lastB ds then .error 3 else .ok ds
theorem ReadU_eq (l : List Int) (hb : Bs l) (x : Nat) (hx : x ≤ l.length) :
    leb_ReadU.f l (x : Int) 32 = match rdU (l.drop x) with
      | .error e => some (0, 0, e)
      | .ok ds => some (val ds, ((x + ds.length : Nat) : Int), 0) := by
  unfold leb_ReadU.f rdU
  rw [read_eq l hb x 4 32 (by omega) (by omega) (by omega) hx]
  cases hs : scan (4 + 1) (l.drop x) with
  | error e =>
    have he : e = 2 ∨ e = 3 := by
      have : ∀ (f : Nat) (l : List Int) (e : Int), scan f l = .error e → e = 2 ∨ e = 3 := by
        intro f
        induction f with
        | zero => intro l e h; simp [scan] at h; exact .inr h.symm
        | succ f ih =>
          intro l e h
          cases l with
          | nil => simp [scan] at h; exact .inl h.symm
          | cons c l =>
            simp only [scan] at h
            split at h
            · cases h
            · split at h
              · rename_i e' h'
                injection h with h
                subst h
                exact ih _ _ h'
              · cases h
      exact this _ _ _ hs
    simp only [Option.bind_some]
    rw [if_neg (by omega)]
  | ok ds =>
    obtain ⟨h1, h2, h3, h4, h5⟩ := scan_ok hs
    have hl : 0 < ds.length := List.length_pos_iff.2 h1
    have hv := val_lt ds
    have hv0 := val_nonneg ds
    have hv2 : val ds < 128 ^ 5 := Int.lt_of_lt_of_le hv (pow_mono (by omega))
    have hvm : val ds % 18446744073709551616 = val ds := Int.emod_eq_of_lt hv0 (by omega)
    have hlb : 0 ≤ lastB ds := lastB_nonneg ds (by rw [h3]; exact (hb.drop x).take _)
    simp only [Option.bind_some, hvm]
    by_cases h6 : ds.length = 5
    · rw [h6, if_pos trivial, if_pos (by omega), show wrap64 ((7 : Int) - wrap64 (7 * ((5 : Nat) : Int) - 32)) = 4 by unfold wrap64; omega, if_pos (by omega)]
      have : shr .u8 (lastB ds) 4 = lastB ds / 16 := rfl
      rw [this]
      by_cases h7 : 16 ≤ lastB ds
      · rw [if_neg (by omega), if_pos ⟨rfl, h7⟩]
      · rw [if_pos (by omega), if_neg (fun h => h7 h.2)]
        simp only [h6]
    · rw [if_pos trivial, if_neg (by omega), if_neg (fun h => h6 h.1)]
/-- What has been read is a number of 32 digits. -/
theorem rdU_lt {l ds : List Int} (hb : Bs l) (h : rdU l = .ok ds) : val ds < 4294967296 := by
  unfold rdU at h
  split at h
  · cases h
  · rename_i d hs
    split at h
    · cases h
    · rename_i hc
      injection h with h
      subst h
      obtain ⟨h1, h2, h3, _, h5⟩ := scan_ok hs
      have hl0 := lastB_nonneg d (by rw [h3]; exact hb.take _)
      by_cases h6 : d.length = 5
      · have h7 : ¬ 16 ≤ lastB d := fun h => hc ⟨h6, h⟩
        match d, h6 with
        | [a, b, c, d, e], _ =>
          simp only [lastB, val] at h7 hl0 ⊢
          omega
      · exact Int.lt_of_lt_of_le (val_lt d) (Int.le_trans (pow_mono (n := 4) (by omega)) (by decide))
theorem rdU_scan {l ds : List Int} (h : rdU l = .ok ds) : scan 5 l = .ok ds := by
  unfold rdU at h
  split at h
  · cases h
  · rename_i d hs
    split at h
    · cases h
    · injection h with h
      rw [hs, h]

/-! ### there and back -/
theorem scan_uleb (f : Nat) : ∀ (v : Int) (g : Nat), 0 ≤ v → v < 128 ^ (f + 1) → (ulebF (f + 1) v).length ≤ g → scan g (ulebF (f + 1) v) = .ok (ulebF (f + 1) v) ∧ val (ulebF (f + 1) v) = v := by
  induction f with
  | zero =>
    intro v g h0 h1 hg
    have h2 : v < 128 := by simpa using h1
    have e : ulebF (0 + 1) v = [v] := by simp only [ulebF]; rw [if_neg (by omega)]
    rw [e] at hg ⊢
    obtain ⟨g, rfl⟩ : ∃ j, g = j + 1 := ⟨g - 1, by simp at hg; omega⟩
    exact ⟨by simp only [scan]; rw [if_pos h2], by simp only [val]; omega⟩
  | succ f ih =>
    intro v g h0 h1 hg
    rw [ulebF] at hg ⊢
    by_cases h2 : v ≥ 128
    · rw [if_pos h2] at hg ⊢
      obtain ⟨g, rfl⟩ : ∃ j, g = j + 1 := ⟨g - 1, by simp at hg; omega⟩
      obtain ⟨i1, i2⟩ := ih (v / 128) g (by omega) (by rw [Int.pow_succ] at h1; exact Int.ediv_lt_of_lt_mul (by decide) h1) (by simpa using hg)
      exact ⟨by rw [scan, if_neg (by omega), i1], by rw [val, i2]; omega⟩
    · rw [if_neg h2] at hg ⊢
      obtain ⟨g, rfl⟩ : ∃ j, g = j + 1 := ⟨g - 1, by simp at hg; omega⟩
      exact ⟨by simp only [scan]; rw [if_pos (by omega)], by simp only [val]; omega⟩
theorem uleb_len32 {v : Int} (h0 : 0 ≤ v) (h1 : v < 4294967296) : (uleb v).length ≤ 5 := by
  have : ∀ (f g : Nat) (v : Int), 0 ≤ v → v < 128 ^ (f + 1) → f < g → (ulebF g v).length ≤ f + 1 := by
    intro f
    induction f with
    | zero =>
      intro g v h0 h1 hg
      obtain ⟨g, rfl⟩ : ∃ j, g = j + 1 := ⟨g - 1, by omega⟩
      have h2 : v < 128 := by simpa using h1
      simp only [ulebF]
      rw [if_neg (by omega)]
      simp
    | succ f ih =>
      intro g v h0 h1 hg
      obtain ⟨g, rfl⟩ : ∃ j, g = j + 1 := ⟨g - 1, by omega⟩
      simp only [ulebF]
      split
      · have := ih g (v / 128) (by omega) (by rw [Int.pow_succ] at h1; exact Int.ediv_lt_of_lt_mul (by decide) h1) (by omega)
        simp
        omega
      · simp
  exact this 4 10 v h0 (by omega) (by omega)
/-- The last byte of a number of 32 digits in five bytes. -/
theorem last_of_val {ds : List Int} (h5 : ds.length = 5) (hv : val ds < 4294967296) (hl : lastB ds < 128) : lastB ds < 16 := by
  match ds, h5 with
  | [a, b, c, d, e], _ =>
    simp only [lastB, val] at hv hl ⊢
    omega
theorem rdU_uleb {v : Int} (h0 : 0 ≤ v) (h1 : v < 4294967296) (m : List Int) : rdU (uleb v ++ m) = .ok (uleb v) ∧ val (uleb v) = v := by
  obtain ⟨h2, h3⟩ := scan_uleb 9 v 5 h0 (by omega) (uleb_len32 h0 h1)
  have h4 : scan 5 (uleb v ++ m) = .ok (uleb v) := scan_append h2 m
  refine ⟨?_, h3⟩
  unfold rdU
  rw [h4]
  dsimp only
  rw [if_neg (fun h => by
    have h5 := (scan_ok h2).2.2.2.2
    have := last_of_val (ds := uleb v) h.1 (by have : val (uleb v) = v := h3; omega) h5
    omega)]
/-- A number cut short is too short. -/
theorem scan_short (ds : List Int) : ∀ (g : Nat), scan g ds = .ok ds → ∀ n, n < ds.length → scan g (ds.take n) = .error 2 := by
  induction ds with
  | nil => intro g h; cases g <;> simp [scan] at h
  | cons c l ih =>
    intro g h n hn
    cases g with
    | zero => simp [scan] at h
    | succ g =>
      cases n with
      | zero => simp [scan]
      | succ n =>
        rw [List.take_succ_cons, scan]
        rw [scan] at h
        by_cases hc : c < 128
        · rw [if_pos hc] at h
          injection h with h
          injection h with _ h
          subst h
          simp at hn
        · rw [if_neg hc] at h ⊢
          split at h
          · cases h
          · rename_i d e
            injection h with h
            injection h with _ h
            subst h
            rw [ih g e n (by simpa using hn)]
theorem rdU_short {v : Int} (h0 : 0 ≤ v) (h1 : v < 4294967296) {n : Nat} (hn : n < (uleb v).length) : rdU ((uleb v).take n) = .error 2 := by
  obtain ⟨h2, _⟩ := scan_uleb 9 v 5 h0 (by omega) (uleb_len32 h0 h1)
  have h3 : scan 5 ((uleb v).take n) = .error 2 := scan_short _ _ h2 n hn
  unfold rdU
  rw [h3]
/-- No number stands in fewer bytes than it is laid in. -/
theorem uleb_least (ds : List Int) : ∀ (f : Nat), ds ≠ [] → ds.length ≤ f → (ulebF f (val ds)).length ≤ ds.length := by
  induction ds with
  | nil => intro f h; exact absurd rfl h
  | cons c l ih =>
    intro f _ hf
    obtain ⟨f, rfl⟩ : ∃ j, f = j + 1 := ⟨f - 1, by simp at hf; omega⟩
    have h0 := val_nonneg l
    rw [show val (c :: l) = c % 128 + 128 * val l from rfl, ulebF]
    by_cases h : c % 128 + 128 * val l ≥ 128
    · rw [if_pos h]
      have e : (c % 128 + 128 * val l) / 128 = val l := by omega
      rw [e]
      have hl : l ≠ [] := by
        rintro rfl
        simp only [val] at h
        omega
      have := ih f hl (by simpa using hf)
      simpa using this
    · rw [if_neg h]
      simp
end Go.Proofs.YtklnkkejkeelaaaDoor.X
