/- Plain laws of instructions' bytes, one. -/
import Derived.Test.YtklnkkejkeelaaaDoorK2
import Derived.Test.YtklnkkejkeelaaaDoorF8
set_option linter.unnecessarySimpa false
set_option linter.unusedSimpArgs false
set_option linter.unusedVariables false
set_option autoImplicit false
set_option linter.unusedSimpArgs false
set_option linter.unusedVariables false
namespace Go.Proofs.YtklnkkejkeelaaaDoor.E
open Go.Ev
theorem kd_out (x : Int) (h : x < 0 ∨ 173 < x) : kindF x = 0 := by
  have : spanL.find? (inSpan x) = none := by
    rw [List.find?_eq_none]
    intro s hs
    have : 0 ≤ s.1 ∧ s.2.1 ≤ 173 := by
      have := List.all_eq_true.1 (show spanL.all (fun s => decide (0 ≤ s.1 ∧ s.2.1 ≤ 173)) = true by kernel_rfl) s hs
      simpa using this
    simp only [inSpan, Bool.and_eq_true, decide_eq_true_eq]
    omega
  unfold kindF
  rw [this]
theorem kd_in (x : Int) : kindF x = 0 ∨ kindF x = 1 ∨ kindF x = 2 ∨ kindF x = 3 ∨ kindF x = 4 ∨ kindF x = 5 ∨ kindF x = 6 ∨ kindF x = 7 ∨ kindF x = 8 ∨ kindF x = 9 := by
  by_cases h : x < 0 ∨ 173 < x
  · exact .inl (kd_out x h)
  · have hp : (List.range 256).all (fun n => (fun c => decide (kindF c = 0 ∨ kindF c = 1 ∨ kindF c = 2 ∨ kindF c = 3 ∨ kindF c = 4 ∨ kindF c = 5 ∨ kindF c = 6 ∨ kindF c = 7 ∨ kindF c = 8 ∨ kindF c = 9)) (n : Int)) = true := by kernel_rfl
    have := all256 (p := fun c => decide (kindF c = 0 ∨ kindF c = 1 ∨ kindF c = 2 ∨ kindF c = 3 ∨ kindF c = 4 ∨ kindF c = 5 ∨ kindF c = 6 ∨ kindF c = 7 ∨ kindF c = 8 ∨ kindF c = 9)) hp (c := x) (by omega) (by omega)
    simpa using this
theorem kd_byte {x : Int} (h : kindF x ≠ 0) : 0 ≤ x ∧ x < 256 := by
  by_cases h1 : x < 0 ∨ 173 < x
  · exact absurd (kd_out x h1) h
  · omega
/-- A number of 32 digits. -/
def Num (x : Int) : Prop := 0 ≤ x ∧ x ≤ 4294967295
instance (x : Int) : Decidable (Num x) := inferInstanceAs (Decidable (_ ∧ _))
instance (x : Int) : Decidable (Num x) := inferInstanceAs (Decidable (_ ∧ _))
/-- What an instruction may be. -/
def San (i : TInstr) : Prop := kindF i.op ≠ 0 ∧ Num i.a ∧ Num i.b ∧ (kindF i.op ≠ 4 → i.labels = []) ∧
  (kindF i.op = 1 ∨ kindF i.op = 7 → i.a = 0 ∧ i.b = 0 ∧ i.k = 0) ∧ (kindF i.op = 2 → i.b = 0 ∧ i.k = 0 ∧ (i.a = 0 ∨ i.a = 127 ∨ i.a = 126)) ∧ (kindF i.op = 3 ∨ kindF i.op = 5 → i.b = 0 ∧ i.k = 0) ∧
  (kindF i.op = 4 → i.b = 0 ∧ i.k = 0 ∧ i.labels.length ≤ 64 ∧ ∀ x ∈ i.labels, Num x) ∧ (kindF i.op = 6 → i.k = 0) ∧ (kindF i.op = 8 → i.a = 0 ∧ i.b = 0 ∧ i.k ≤ 4294967295) ∧ (kindF i.op = 9 → i.a = 0 ∧ i.b = 0)
theorem numB_iff (x : Int) : numB x = true ↔ Num x := by simp [numB, Num]
theorem saneF_iff (i : TInstr) : saneF i = true ↔ San i := by
  unfold saneF San
  have e := kd_in i.op
  have hall : i.labels.all numB = true ↔ ∀ x ∈ i.labels, Num x := by
    rw [List.all_eq_true]
    exact ⟨fun h x hx => (numB_iff x).1 (h x hx), fun h x hx => (numB_iff x).2 (h x hx)⟩
  rcases e with e | e | e | e | e | e | e | e | e | e <;> simp [e, numB_iff, hall] <;> grind
/-- A constant of 32, and of 64, digits as a number that may be below 0. -/
def s32 (c : Int) : Int := if c < 2147483648 then c else c - 4294967296
def s64 (c : Int) : Int := if c < 9223372036854775808 then c else c - 18446744073709551616
/-- What stands behind the operator. -/
def tl (i : TInstr) : List Int :=
  if kindF i.op = 2 then [if i.a = 0 then 64 else i.a]
  else if kindF i.op = 3 then uleb i.a
  else if kindF i.op = 4 then uleb (i.labels.length : Int) ++ (i.labels.flatMap uleb ++ uleb i.a)
  else if kindF i.op = 5 then uleb i.a ++ [0]
  else if kindF i.op = 6 then uleb i.a ++ uleb i.b
  else if kindF i.op = 7 then [0]
  else if kindF i.op = 8 then sleb (s32 i.k)
  else if kindF i.op = 9 then sleb (s64 i.k) else []
/-- An instruction's bytes. -/
def enc (i : TInstr) : List Int := i.op :: tl i
/-- A constant is one. -/
def Cok (i : TInstr) : Prop := 0 ≤ i.k ∧ i.k < 18446744073709551616
theorem flat_len (l : List Int) : (l.flatMap uleb).length ≤ 10 * l.length := by
  induction l with
  | nil => simp
  | cons c l ih =>
    rw [List.flatMap_cons, List.length_append, List.length_cons]
    have := ulebF_len 10 c
    unfold uleb at *
    omega
theorem enc_len (i : TInstr) (h : San i) : (enc i).length ≤ 1000 := by
  have hu : ∀ v, (uleb v).length ≤ 10 := ulebF_len 10
  have hs : ∀ v, (sleb v).length ≤ 10 := slebF_len 10
  have hf := flat_len i.labels
  have h1 := hu i.a
  have h2 := hu i.b
  have h3 := hu i.labels.length
  have h4 := hs (s32 i.k)
  have h5 := hs (s64 i.k)
  obtain ⟨_, _, _, _, _, _, _, h6, _⟩ := h
  unfold enc tl
  rw [List.length_cons]
  split
  · simp
  · split
    · omega
    · split
      · rename_i h7
        have := (h6 h7).2.2.1
        simp only [List.length_append]
        omega
      · split
        · simp; omega
        · split
          · simp; omega
          · split
            · simp
            · split
              · omega
              · split
                · omega
                · simp
/-- So many numbers in a row, and in how many bytes. -/
def rdL : Nat → List Int → Except Int (List Int × Nat)
  | 0, _ => .ok ([], 0)
  | n + 1, m => match rdU m with
    | .error e => .error e
    | .ok ds => match rdL n (m.drop ds.length) with
      | .error e => .error e
      | .ok (ls, c) => .ok (val ds :: ls, ds.length + c)
/-- What stands behind an operator, and in how many bytes. -/
def decT (op : Int) (m : List Int) : Except Int (TInstr × Nat) :=
  if kindF op = 0 then .error 3
  else if kindF op = 2 then match m with
    | [] => .error 2
    | c :: _ => if c = 64 then .ok (⟨op, 0, 0, 0, []⟩, 1) else if c = 127 ∨ c = 126 then .ok (⟨op, c, 0, 0, []⟩, 1) else .error 3
  else if kindF op = 3 then match rdU m with
    | .error e => .error e
    | .ok ds => .ok (⟨op, val ds, 0, 0, []⟩, ds.length)
  else if kindF op = 4 then match rdU m with
    | .error e => .error e
    | .ok ds => if val ds ≤ 64 then match rdL (val ds).toNat (m.drop ds.length) with
        | .error e => .error e
        | .ok (ls, n) => match rdU ((m.drop ds.length).drop n) with
          | .error e => .error e
          | .ok d2 => .ok (⟨op, val d2, 0, 0, ls⟩, ds.length + n + d2.length)
      else .error 4
  else if kindF op = 5 then match rdU m with
    | .error e => .error e
    | .ok ds => match m.drop ds.length with
      | [] => .error 2
      | c :: _ => if c = 0 then .ok (⟨op, val ds, 0, 0, []⟩, ds.length + 1) else .error 3
  else if kindF op = 6 then match rdU m with
    | .error e => .error e
    | .ok ds => match rdU (m.drop ds.length) with
      | .error e => .error e
      | .ok d2 => .ok (⟨op, val ds, val d2, 0, []⟩, ds.length + d2.length)
  else if kindF op = 7 then match m with
    | [] => .error 2
    | c :: _ => if c = 0 then .ok (⟨op, 0, 0, 0, []⟩, 1) else .error 3
  else if kindF op = 8 then match rdS false m with
    | .error e => .error e
    | .ok ds => .ok (⟨op, 0, 0, sval ds % 4294967296, []⟩, ds.length)
  else if kindF op = 9 then match rdS true m with
    | .error e => .error e
    | .ok ds => .ok (⟨op, 0, 0, sval ds % 18446744073709551616, []⟩, ds.length)
  else .ok (⟨op, 0, 0, 0, []⟩, 0)
def dec : List Int → Except Int (TInstr × Nat)
  | [] => .error 2
  | op :: m => match decT op m with
    | .error e => .error e
    | .ok (i, n) => .ok (i, n + 1)
theorem rdU_err {l : List Int} {e : Int} (h : rdU l = .error e) : e ≠ 0 := by
  unfold rdU at h
  split at h
  · rename_i e' h'
    injection h with h
    have := scan_err h'
    omega
  · split at h
    · injection h with h
      omega
    · cases h
theorem rdS_err {w : Bool} {l : List Int} {e : Int} (h : rdS w l = .error e) : e ≠ 0 := by
  unfold rdS at h
  cases hs : scan (if w then 10 else 5) l with
  | error e' =>
    rw [hs] at h
    injection h with h
    have := scan_err hs
    omega
  | ok d =>
    rw [hs] at h
    dsimp only at h
    by_cases hc : d.length = (if w then 10 else 5) ∧ (if w then 0 else 7) < lastB d ∧ lastB d < (if w then 127 else 120)
    · rw [if_pos hc] at h
      injection h with h
      omega
    · rw [if_neg hc] at h
      cases h
theorem rdU_len {l ds : List Int} (h : rdU l = .ok ds) : ds.length ≤ l.length := (scan_ok (rdU_scan h)).2.2.2.1
theorem rdL_err {n : Nat} : ∀ {m : List Int} {e : Int}, rdL n m = .error e → e ≠ 0 := by
  induction n with
  | zero => intro m e h; simp [rdL] at h
  | succ n ih =>
    intro m e h
    simp only [rdL] at h
    split at h
    · rename_i h'
      injection h with h
      subst h
      exact rdU_err h'
    · split at h
      · rename_i h'
        injection h with h
        subst h
        exact ih h'
      · cases h
end Go.Proofs.YtklnkkejkeelaaaDoor.E
