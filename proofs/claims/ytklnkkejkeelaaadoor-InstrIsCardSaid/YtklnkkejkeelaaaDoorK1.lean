/- Plain laws of numbers' bytes (leb), one. -/
import Derived.Test.YtklnkkejkeelaaaDoorEvM
import Derived.KernelRfl
set_option linter.unnecessarySimpa false
set_option linter.unusedSimpArgs false
set_option linter.unusedVariables false
set_option autoImplicit false
set_option linter.unusedSimpArgs false
set_option linter.unusedVariables false
namespace Go.Proofs.YtklnkkejkeelaaaDoor.E
open Go.Ev
/-- Bytes. -/
def Bs (l : List Int) : Prop := ∀ x ∈ l, 0 ≤ x ∧ x < 256
theorem Bs.nil : Bs [] := fun x h => absurd h (by simp)
theorem Bs.cons {c : Int} {l : List Int} (h : 0 ≤ c ∧ c < 256) (hl : Bs l) : Bs (c :: l) := fun x hx => by
  rcases List.mem_cons.1 hx with rfl | hx
  · exact h
  · exact hl x hx
theorem Bs.append {l m : List Int} (h : Bs l) (h2 : Bs m) : Bs (l ++ m) := fun x hx => by
  rcases List.mem_append.1 hx with hx | hx
  · exact h x hx
  · exact h2 x hx
theorem Bs.drop {l : List Int} (h : Bs l) (n : Nat) : Bs (l.drop n) := fun x hx => h x (List.mem_of_mem_drop hx)
theorem Bs.take {l : List Int} (h : Bs l) (n : Nat) : Bs (l.take n) := fun x hx => h x (List.mem_of_mem_take hx)
theorem all256 {p : Int → Bool} (h : (List.range 256).all (fun n => p (n : Int)) = true) {c : Int} (h0 : 0 ≤ c) (h1 : c < 256) : p c = true := by
  have := List.all_eq_true.1 h c.toNat (by simp; omega)
  rwa [Int.toNat_of_nonneg h0] at this
theorem or128 {c : Int} (h0 : 0 ≤ c) (h1 : c < 256) : bits2 .or .u8 c 128 = c % 128 + 128 := by
  have := all256 (p := fun c => bits2 .or .u8 c 128 == c % 128 + 128) (by kernel_rfl) h0 h1
  simpa using this
theorem and127 {c : Int} (h0 : 0 ≤ c) (h1 : c < 256) : bits2 .and .u8 c 127 = c % 128 := by
  have := all256 (p := fun c => bits2 .and .u8 c 127 == c % 128) (by kernel_rfl) h0 h1
  simpa using this
theorem and64 {c : Int} (h0 : 0 ≤ c) (h1 : c < 256) : (bits2 .and .u8 c 64 = 0) ↔ c % 128 < 64 := by
  have := all256 (p := fun c => decide (bits2 .and .u8 c 64 = 0) == decide (c % 128 < 64)) (by kernel_rfl) h0 h1
  simpa using this
/-- A number's bytes: seven digits of two each, the lowest first. -/
def ulebF : Nat → Int → List Int
  | 0, _ => []
  | f + 1, v => if v ≥ 128 then (v % 128 + 128) :: ulebF f (v / 128) else [v]
def uleb (v : Int) : List Int := ulebF 10 v
/-- A number's bytes that may be below 0. -/
def slebF : Nat → Int → List Int
  | 0, _ => []
  | f + 1, v => if v < -64 ∨ v ≥ 64 then (v % 128 + 128) :: slebF f (v / 128) else [v % 128]
def sleb (v : Int) : List Int := slebF 10 v
theorem ulebF_len (f : Nat) : ∀ v, (ulebF f v).length ≤ f := by
  induction f with
  | zero => intro v; simp [ulebF]
  | succ f ih =>
    intro v
    simp only [ulebF]
    split
    · have := ih (v / 128)
      simp
      omega
    · simp
theorem slebF_len (f : Nat) : ∀ v, (slebF f v).length ≤ f := by
  induction f with
  | zero => intro v; simp [slebF]
  | succ f ih =>
    intro v
    simp only [slebF]
    split
    · have := ih (v / 128)
      simp
      omega
    · simp
theorem ulebF_bs (f : Nat) : ∀ v, 0 ≤ v → Bs (ulebF f v) := by
  induction f with
  | zero => intro v _; exact Bs.nil
  | succ f ih =>
    intro v h0
    simp only [ulebF]
    split
    · exact Bs.cons (by omega) (ih _ (by omega))
    · exact Bs.cons (by omega) Bs.nil
theorem slebF_bs (f : Nat) : ∀ v, Bs (slebF f v) := by
  induction f with
  | zero => intro v; exact Bs.nil
  | succ f ih =>
    intro v
    simp only [slebF]
    split
    · exact Bs.cons (by omega) (ih _)
    · exact Bs.cons (by omega) Bs.nil
/-- The bytes of a number: up to the first below 128; at most so many. -/
def scan : Nat → List Int → Except Int (List Int)
  | 0, _ => .error 3
  | _ + 1, [] => .error 2
  | f + 1, c :: l => if c < 128 then .ok [c] else match scan f l with
    | .error e => .error e
    | .ok ds => .ok (c :: ds)
/-- What they tell. -/
def val : List Int → Int
  | [] => 0
  | c :: l => c % 128 + 128 * val l
def lastB : List Int → Int
  | [] => 0
  | [c] => c
  | _ :: c :: l => lastB (c :: l)
theorem val_nonneg (l : List Int) : 0 ≤ val l := by
  induction l with
  | nil => exact Int.le_refl _
  | cons c l ih => simp only [val]; omega
theorem val_lt (l : List Int) : val l < 128 ^ l.length := by
  induction l with
  | nil => decide
  | cons c l ih =>
    simp only [val, List.length_cons, Int.pow_succ]
    omega
theorem scan_ok {f : Nat} : ∀ {l ds : List Int}, scan f l = .ok ds → ds ≠ [] ∧ ds.length ≤ f ∧ ds = l.take ds.length ∧ ds.length ≤ l.length ∧ lastB ds < 128 := by
  induction f with
  | zero => intro l ds h; simp [scan] at h
  | succ f ih =>
    intro l ds h
    cases l with
    | nil => simp [scan] at h
    | cons c l =>
      simp only [scan] at h
      split at h
      · injection h with h
        subst h
        exact ⟨by simp, by simp, by simp, by simp, by simpa [lastB]⟩
      · split at h
        · cases h
        · rename_i d e
          injection h with h
          subst h
          obtain ⟨h1, h2, h3, h4, h5⟩ := ih e
          refine ⟨by simp, by simp; omega, ?_, by simp; omega, ?_⟩
          · rw [List.length_cons, List.take_succ_cons, ← h3]
          · cases d with
            | nil => exact absurd rfl h1
            | cons c2 d => exact h5
/-- Whatever stands behind. -/
theorem scan_append {f : Nat} : ∀ {l ds : List Int}, scan f l = .ok ds → ∀ m, scan f (l ++ m) = .ok ds := by
  induction f with
  | zero => intro l ds h; simp [scan] at h
  | succ f ih =>
    intro l ds h m
    cases l with
    | nil => simp [scan] at h
    | cons c l =>
      simp only [scan, List.cons_append] at h ⊢
      split at h
      · rename_i hc; rw [if_pos hc]; exact h
      · rename_i hc
        rw [if_neg hc]
        split at h
        · cases h
        · rename_i d e
          rw [ih e m]
          exact h
theorem pow7 (n : Nat) : (2 : Int) ^ (7 * (n + 1)) = 2 ^ (7 * n) * 128 := by
  rw [Nat.mul_add, Int.pow_add]
  rfl
theorem pow_mono {m n : Nat} (h : m ≤ n) : (128 : Int) ^ m ≤ 128 ^ n := by exact_mod_cast Nat.pow_le_pow_right (by decide) h
theorem lastB_nonneg (ds : List Int) (hb : Bs ds) : 0 ≤ lastB ds := by
  induction ds with
  | nil => exact Int.le_refl _
  | cons c l ih =>
    cases l with
    | nil => exact (hb c (by simp)).1
    | cons d l => exact ih (fun z hz => hb z (List.mem_cons_of_mem _ hz))
theorem lastB_cons (c : Int) {ds : List Int} (h : ds ≠ []) : lastB (c :: ds) = lastB ds := by
  cases ds with
  | nil => exact absurd rfl h
  | cons d l => rfl
/-- A number of 32 digits of two. -/
def rdU (l : List Int) : Except Int (List Int) :=
  match scan 5 l with
  | .error e => .error e
  | .ok ds => if ds.length = 5 ∧ 16 ≤ lastB ds then .error 3 else .ok ds
/-- What has been read is a number of 32 digits. -/
theorem rdU_lt {l ds : List Int} (hb : Bs l) (h : rdU l = .ok ds) : val ds < 4294967296 := by
  unfold rdU at h
  split at h
  · cases h
  · rename_i d hs
    split at h
    · cases h
    · rename_i hc
      injection h with h
      subst h
      obtain ⟨h1, h2, h3, _, h5⟩ := scan_ok hs
      have hl0 := lastB_nonneg d (by rw [h3]; exact hb.take _)
      by_cases h6 : d.length = 5
      · have h7 : ¬ 16 ≤ lastB d := fun h => hc ⟨h6, h⟩
        match d, h6 with
        | [a, b, c, d, e], _ =>
          simp only [lastB, val] at h7 hl0 ⊢
          omega
      · exact Int.lt_of_lt_of_le (val_lt d) (Int.le_trans (pow_mono (n := 4) (by omega)) (by decide))
theorem rdU_scan {l ds : List Int} (h : rdU l = .ok ds) : scan 5 l = .ok ds := by
  unfold rdU at h
  split at h
  · cases h
  · rename_i d hs
    split at h
    · cases h
    · injection h with h
      rw [hs, h]
theorem scan_uleb (f : Nat) : ∀ (v : Int) (g : Nat), 0 ≤ v → v < 128 ^ (f + 1) → (ulebF (f + 1) v).length ≤ g → scan g (ulebF (f + 1) v) = .ok (ulebF (f + 1) v) ∧ val (ulebF (f + 1) v) = v := by
  induction f with
  | zero =>
    intro v g h0 h1 hg
    have h2 : v < 128 := by simpa using h1
    have e : ulebF (0 + 1) v = [v] := by simp only [ulebF]; rw [if_neg (by omega)]
    rw [e] at hg ⊢
    obtain ⟨g, rfl⟩ : ∃ j, g = j + 1 := ⟨g - 1, by simp at hg; omega⟩
    exact ⟨by simp only [scan]; rw [if_pos h2], by simp only [val]; omega⟩
  | succ f ih =>
    intro v g h0 h1 hg
    rw [ulebF] at hg ⊢
    by_cases h2 : v ≥ 128
    · rw [if_pos h2] at hg ⊢
      obtain ⟨g, rfl⟩ : ∃ j, g = j + 1 := ⟨g - 1, by simp at hg; omega⟩
      obtain ⟨i1, i2⟩ := ih (v / 128) g (by omega) (by rw [Int.pow_succ] at h1; exact Int.ediv_lt_of_lt_mul (by decide) h1) (by simpa using hg)
      exact ⟨by rw [scan, if_neg (by omega), i1], by rw [val, i2]; omega⟩
    · rw [if_neg h2] at hg ⊢
      obtain ⟨g, rfl⟩ : ∃ j, g = j + 1 := ⟨g - 1, by simp at hg; omega⟩
      exact ⟨by simp only [scan]; rw [if_pos (by omega)], by simp only [val]; omega⟩
theorem uleb_len32 {v : Int} (h0 : 0 ≤ v) (h1 : v < 4294967296) : (uleb v).length ≤ 5 := by
  have : ∀ (f g : Nat) (v : Int), 0 ≤ v → v < 128 ^ (f + 1) → f < g → (ulebF g v).length ≤ f + 1 := by
    intro f
    induction f with
    | zero =>
      intro g v h0 h1 hg
      obtain ⟨g, rfl⟩ : ∃ j, g = j + 1 := ⟨g - 1, by omega⟩
      have h2 : v < 128 := by simpa using h1
      simp only [ulebF]
      rw [if_neg (by omega)]
      simp
    | succ f ih =>
      intro g v h0 h1 hg
      obtain ⟨g, rfl⟩ : ∃ j, g = j + 1 := ⟨g - 1, by omega⟩
      simp only [ulebF]
      split
      · have := ih g (v / 128) (by omega) (by rw [Int.pow_succ] at h1; exact Int.ediv_lt_of_lt_mul (by decide) h1) (by omega)
        simp
        omega
      · simp
  exact this 4 10 v h0 (by omega) (by omega)
/-- The last byte of a number of 32 digits in five bytes. -/
theorem last_of_val {ds : List Int} (h5 : ds.length = 5) (hv : val ds < 4294967296) (hl : lastB ds < 128) : lastB ds < 16 := by
  match ds, h5 with
  | [a, b, c, d, e], _ =>
    simp only [lastB, val] at hv hl ⊢
    omega
theorem rdU_uleb {v : Int} (h0 : 0 ≤ v) (h1 : v < 4294967296) (m : List Int) : rdU (uleb v ++ m) = .ok (uleb v) ∧ val (uleb v) = v := by
  obtain ⟨h2, h3⟩ := scan_uleb 9 v 5 h0 (by omega) (uleb_len32 h0 h1)
  have h4 : scan 5 (uleb v ++ m) = .ok (uleb v) := scan_append h2 m
  refine ⟨?_, h3⟩
  unfold rdU
  rw [h4]
  dsimp only
  rw [if_neg (fun h => by
    have h5 := (scan_ok h2).2.2.2.2
    have := last_of_val (ds := uleb v) h.1 (by have : val (uleb v) = v := h3; omega) h5
    omega)]
/-- A number cut short is too short. -/
theorem scan_short (ds : List Int) : ∀ (g : Nat), scan g ds = .ok ds → ∀ n, n < ds.length → scan g (ds.take n) = .error 2 := by
  induction ds with
  | nil => intro g h; cases g <;> simp [scan] at h
  | cons c l ih =>
    intro g h n hn
    cases g with
    | zero => simp [scan] at h
    | succ g =>
      cases n with
      | zero => simp [scan]
      | succ n =>
        rw [List.take_succ_cons, scan]
        rw [scan] at h
        by_cases hc : c < 128
        · rw [if_pos hc] at h
          injection h with h
          injection h with _ h
          subst h
          simp at hn
        · rw [if_neg hc] at h ⊢
          split at h
          · cases h
          · rename_i d e
            injection h with h
            injection h with _ h
            subst h
            rw [ih g e n (by simpa using hn)]
theorem rdU_short {v : Int} (h0 : 0 ≤ v) (h1 : v < 4294967296) {n : Nat} (hn : n < (uleb v).length) : rdU ((uleb v).take n) = .error 2 := by
  obtain ⟨h2, _⟩ := scan_uleb 9 v 5 h0 (by omega) (uleb_len32 h0 h1)
  have h3 : scan 5 ((uleb v).take n) = .error 2 := scan_short _ _ h2 n hn
  unfold rdU
  rw [h3]
/-- No number stands in fewer bytes than it is laid in. -/
theorem uleb_least (ds : List Int) : ∀ (f : Nat), ds ≠ [] → ds.length ≤ f → (ulebF f (val ds)).length ≤ ds.length := by
  induction ds with
  | nil => intro f h; exact absurd rfl h
  | cons c l ih =>
    intro f _ hf
    obtain ⟨f, rfl⟩ : ∃ j, f = j + 1 := ⟨f - 1, by simp at hf; omega⟩
    have h0 := val_nonneg l
    rw [show val (c :: l) = c % 128 + 128 * val l from rfl, ulebF]
    by_cases h : c % 128 + 128 * val l ≥ 128
    · rw [if_pos h]
      have e : (c % 128 + 128 * val l) / 128 = val l := by omega
      rw [e]
      have hl : l ≠ [] := by
        rintro rfl
        simp only [val] at h
        omega
      have := ih f hl (by simpa using hf)
      simpa using this
    · rw [if_neg h]
      simp
end Go.Proofs.YtklnkkejkeelaaaDoor.E
