/- K3, K4. -/
import Derived.Test.YtklnkkejkeelaaaDoorK1
import Derived.Test.YtklnkkejkeelaaaDoorF8
set_option linter.unnecessarySimpa false
set_option linter.unusedSimpArgs false
set_option linter.unusedVariables false
/- Plain laws of instructions' bytes, one. -/
set_option autoImplicit false
set_option linter.unusedSimpArgs false
set_option linter.unusedVariables false
namespace Go.Proofs.YtklnkkejkeelaaaDoor.E
open Go.Ev
theorem kd_out (x : Int) (h : x < 0 ∨ 173 < x) : kindF x = 0 := by
  have : spanL.find? (inSpan x) = none := by
    rw [List.find?_eq_none]
    intro s hs
    have : 0 ≤ s.1 ∧ s.2.1 ≤ 173 := by
      have := List.all_eq_true.1 (show spanL.all (fun s => decide (0 ≤ s.1 ∧ s.2.1 ≤ 173)) = true by kernel_rfl) s hs
      simpa using this
    simp only [inSpan, Bool.and_eq_true, decide_eq_true_eq]
    omega
  unfold kindF
  rw [this]
theorem kd_in (x : Int) : kindF x = 0 ∨ kindF x = 1 ∨ kindF x = 2 ∨ kindF x = 3 ∨ kindF x = 4 ∨ kindF x = 5 ∨ kindF x = 6 ∨ kindF x = 7 ∨ kindF x = 8 ∨ kindF x = 9 := by
  by_cases h : x < 0 ∨ 173 < x
  · exact .inl (kd_out x h)
  · have hp : (List.range 256).all (fun n => (fun c => decide (kindF c = 0 ∨ kindF c = 1 ∨ kindF c = 2 ∨ kindF c = 3 ∨ kindF c = 4 ∨ kindF c = 5 ∨ kindF c = 6 ∨ kindF c = 7 ∨ kindF c = 8 ∨ kindF c = 9)) (n : Int)) = true := by kernel_rfl
    have := all256 (p := fun c => decide (kindF c = 0 ∨ kindF c = 1 ∨ kindF c = 2 ∨ kindF c = 3 ∨ kindF c = 4 ∨ kindF c = 5 ∨ kindF c = 6 ∨ kindF c = 7 ∨ kindF c = 8 ∨ kindF c = 9)) hp (c := x) (by omega) (by omega)
    simpa using this
theorem kd_byte {x : Int} (h : kindF x ≠ 0) : 0 ≤ x ∧ x < 256 := by
  by_cases h1 : x < 0 ∨ 173 < x
  · exact absurd (kd_out x h1) h
  · omega
/-- A number of 32 digits. -/
def Num (x : Int) : Prop := 0 ≤ x ∧ x ≤ 4294967295
instance (x : Int) : Decidable (Num x) := inferInstanceAs (Decidable (_ ∧ _))
instance (x : Int) : Decidable (Num x) := inferInstanceAs (Decidable (_ ∧ _))
/-- What an instruction may be. -/
def San (i : TInstr) : Prop := kindF i.op ≠ 0 ∧ Num i.a ∧ Num i.b ∧ (kindF i.op ≠ 4 → i.labels = []) ∧
  (kindF i.op = 1 ∨ kindF i.op = 7 → i.a = 0 ∧ i.b = 0 ∧ i.k = 0) ∧ (kindF i.op = 2 → i.b = 0 ∧ i.k = 0 ∧ (i.a = 0 ∨ i.a = 127 ∨ i.a = 126)) ∧ (kindF i.op = 3 ∨ kindF i.op = 5 → i.b = 0 ∧ i.k = 0) ∧
  (kindF i.op = 4 → i.b = 0 ∧ i.k = 0 ∧ i.labels.length ≤ 64 ∧ ∀ x ∈ i.labels, Num x) ∧ (kindF i.op = 6 → i.k = 0) ∧ (kindF i.op = 8 → i.a = 0 ∧ i.b = 0 ∧ i.k ≤ 4294967295) ∧ (kindF i.op = 9 → i.a = 0 ∧ i.b = 0)
theorem numB_iff (x : Int) : numB x = true ↔ Num x := by simp [numB, Num]
theorem saneF_iff (i : TInstr) : saneF i = true ↔ San i := by
  unfold saneF San
  have e := kd_in i.op
  have hall : i.labels.all numB = true ↔ ∀ x ∈ i.labels, Num x := by
    rw [List.all_eq_true]
    exact ⟨fun h x hx => (numB_iff x).1 (h x hx), fun h x hx => (numB_iff x).2 (h x hx)⟩
  rcases e with e | e | e | e | e | e | e | e | e | e <;> simp [e, numB_iff, hall] <;> grind
/-- A constant of 32, and of 64, digits as a number that may be below 0. -/
def s32 (c : Int) : Int := if c < 2147483648 then c else c - 4294967296
def s64 (c : Int) : Int := if c < 9223372036854775808 then c else c - 18446744073709551616
/-- What stands behind the operator. -/
def tl (i : TInstr) : List Int :=
  if kindF i.op = 2 then [if i.a = 0 then 64 else i.a]
  else if kindF i.op = 3 then uleb i.a
  else if kindF i.op = 4 then uleb (i.labels.length : Int) ++ (i.labels.flatMap uleb ++ uleb i.a)
  else if kindF i.op = 5 then uleb i.a ++ [0]
  else if kindF i.op = 6 then uleb i.a ++ uleb i.b
  else if kindF i.op = 7 then [0]
  else if kindF i.op = 8 then sleb (s32 i.k)
  else if kindF i.op = 9 then sleb (s64 i.k) else []
/-- An instruction's bytes. -/
def enc (i : TInstr) : List Int := i.op :: tl i
/-- A constant is one. -/
def Cok (i : TInstr) : Prop := 0 ≤ i.k ∧ i.k < 18446744073709551616
theorem flat_len (l : List Int) : (l.flatMap uleb).length ≤ 10 * l.length := by
  induction l with
  | nil => simp
  | cons c l ih =>
    rw [List.flatMap_cons, List.length_append, List.length_cons]
    have := ulebF_len 10 c
    unfold uleb at *
    omega
theorem enc_len (i : TInstr) (h : San i) : (enc i).length ≤ 1000 := by
  have hu : ∀ v, (uleb v).length ≤ 10 := ulebF_len 10
  have hs : ∀ v, (sleb v).length ≤ 10 := slebF_len 10
  have hf := flat_len i.labels
  have h1 := hu i.a
  have h2 := hu i.b
  have h3 := hu i.labels.length
  have h4 := hs (s32 i.k)
  have h5 := hs (s64 i.k)
  obtain ⟨_, _, _, _, _, _, _, h6, _⟩ := h
  unfold enc tl
  rw [List.length_cons]
  split
  · simp
  · split
    · omega
    · split
      · rename_i h7
        have := (h6 h7).2.2.1
        simp only [List.length_append]
        omega
      · split
        · simp; omega
        · split
          · simp; omega
          · split
            · simp
            · split
              · omega
              · split
                · omega
                · simp
/-- So many numbers in a row, and in how many bytes. -/
def rdL : Nat → List Int → Except Int (List Int × Nat)
  | 0, _ => .ok ([], 0)
  | n + 1, m => match rdU m with
    | .error e => .error e
    | .ok ds => match rdL n (m.drop ds.length) with
      | .error e => .error e
      | .ok (ls, c) => .ok (val ds :: ls, ds.length + c)
/-- What stands behind an operator, and in how many bytes. -/
def decT (op : Int) (m : List Int) : Except Int (TInstr × Nat) :=
  if kindF op = 0 then .error 3
  else if kindF op = 2 then match m with
    | [] => .error 2
    | c :: _ => if c = 64 then .ok (⟨op, 0, 0, 0, []⟩, 1) else if c = 127 ∨ c = 126 then .ok (⟨op, c, 0, 0, []⟩, 1) else .error 3
  else if kindF op = 3 then match rdU m with
    | .error e => .error e
    | .ok ds => .ok (⟨op, val ds, 0, 0, []⟩, ds.length)
  else if kindF op = 4 then match rdU m with
    | .error e => .error e
    | .ok ds => if val ds ≤ 64 then match rdL (val ds).toNat (m.drop ds.length) with
        | .error e => .error e
        | .ok (ls, n) => match rdU ((m.drop ds.length).drop n) with
          | .error e => .error e
          | .ok d2 => .ok (⟨op, val d2, 0, 0, ls⟩, ds.length + n + d2.length)
      else .error 4
  else if kindF op = 5 then match rdU m with
    | .error e => .error e
    | .ok ds => match m.drop ds.length with
      | [] => .error 2
      | c :: _ => if c = 0 then .ok (⟨op, val ds, 0, 0, []⟩, ds.length + 1) else .error 3
  else if kindF op = 6 then match rdU m with
    | .error e => .error e
    | .ok ds => match rdU (m.drop ds.length) with
      | .error e => .error e
      | .ok d2 => .ok (⟨op, val ds, val d2, 0, []⟩, ds.length + d2.length)
  else if kindF op = 7 then match m with
    | [] => .error 2
    | c :: _ => if c = 0 then .ok (⟨op, 0, 0, 0, []⟩, 1) else .error 3
  else if kindF op = 8 then match rdS false m with
    | .error e => .error e
    | .ok ds => .ok (⟨op, 0, 0, sval ds % 4294967296, []⟩, ds.length)
  else if kindF op = 9 then match rdS true m with
    | .error e => .error e
    | .ok ds => .ok (⟨op, 0, 0, sval ds % 18446744073709551616, []⟩, ds.length)
  else .ok (⟨op, 0, 0, 0, []⟩, 0)
def dec : List Int → Except Int (TInstr × Nat)
  | [] => .error 2
  | op :: m => match decT op m with
    | .error e => .error e
    | .ok (i, n) => .ok (i, n + 1)
theorem rdU_err {l : List Int} {e : Int} (h : rdU l = .error e) : e ≠ 0 := by
  unfold rdU at h
  split at h
  · rename_i e' h'
    injection h with h
    have := scan_err h'
    omega
  · split at h
    · injection h with h
      omega
    · cases h
theorem rdS_err {w : Bool} {l : List Int} {e : Int} (h : rdS w l = .error e) : e ≠ 0 := by
  unfold rdS at h
  cases hs : scan (if w then 10 else 5) l with
  | error e' =>
    rw [hs] at h
    injection h with h
    have := scan_err hs
    omega
  | ok d =>
    rw [hs] at h
    dsimp only at h
    by_cases hc : d.length = (if w then 10 else 5) ∧ (if w then 0 else 7) < lastB d ∧ lastB d < (if w then 127 else 120)
    · rw [if_pos hc] at h
      injection h with h
      omega
    · rw [if_neg hc] at h
      cases h
theorem rdU_len {l ds : List Int} (h : rdU l = .ok ds) : ds.length ≤ l.length := (scan_ok (rdU_scan h)).2.2.2.1
theorem rdL_err {n : Nat} : ∀ {m : List Int} {e : Int}, rdL n m = .error e → e ≠ 0 := by
  induction n with
  | zero => intro m e h; simp [rdL] at h
  | succ n ih =>
    intro m e h
    simp only [rdL] at h
    split at h
    · rename_i h'
      injection h with h
      subst h
      exact rdU_err h'
    · split at h
      · rename_i h'
        injection h with h
        subst h
        exact ih h'
      · cases h
end Go.Proofs.YtklnkkejkeelaaaDoor.E

/- Plain laws of instructions' bytes, two: there and back. -/
set_option autoImplicit false
set_option linter.unusedSimpArgs false
set_option linter.unusedVariables false
namespace Go.Proofs.YtklnkkejkeelaaaDoor.E
open Go.Ev
theorem uleb_num {v : Int} (h : Num v) (m : List Int) : rdU (uleb v ++ m) = .ok (uleb v) ∧ val (uleb v) = v := rdU_uleb h.1 (by have := h.2; omega) m
theorem uleb_cut {v : Int} (h : Num v) {n : Nat} (hn : n < (uleb v).length) : rdU ((uleb v).take n) = .error 2 := rdU_short h.1 (by have := h.2; omega) hn
theorem drop_left {α : Type} (a b : List α) : (a ++ b).drop a.length = b := by simp
theorem rdL_flat (ls : List Int) (h : ∀ x ∈ ls, Num x) (m : List Int) : rdL ls.length (ls.flatMap uleb ++ m) = .ok (ls, (ls.flatMap uleb).length) := by
  induction ls with
  | nil => rfl
  | cons c l ih =>
    have hc := uleb_num (h c (by simp)) (l.flatMap uleb ++ m)
    rw [List.flatMap_cons, List.append_assoc, List.length_cons, rdL, hc.1]
    dsimp only
    rw [drop_left, ih (fun x hx => h x (List.mem_cons_of_mem _ hx)), hc.2]
    simp
theorem rdL_cut (ls : List Int) (h : ∀ x ∈ ls, Num x) : ∀ (n : Nat), n < (ls.flatMap uleb).length → rdL ls.length ((ls.flatMap uleb).take n) = .error 2 := by
  induction ls with
  | nil => intro n hn; simp at hn
  | cons c l ih =>
    intro n hn
    have h1 := h c (by simp)
    rw [List.flatMap_cons] at hn ⊢
    rw [List.length_cons, rdL, List.take_append]
    by_cases h2 : n < (uleb c).length
    · rw [show n - (uleb c).length = 0 by omega, List.take_zero, List.append_nil, uleb_cut h1 h2]
    · rw [List.take_of_length_le (by omega), (uleb_num h1 _).1]
      dsimp only
      rw [drop_left, ih (fun x hx => h x (List.mem_cons_of_mem _ hx)) _ (by rw [List.length_append] at hn; omega)]
theorem Num_val {m ds : List Int} (hb : Bs m) (h : rdU m = .ok ds) : Num (val ds) := ⟨val_nonneg ds, by have := rdU_lt hb h; omega⟩
theorem uleb_le {m ds : List Int} (h : rdU m = .ok ds) : (uleb (val ds)).length ≤ ds.length := by
  obtain ⟨h1, h2, _, _, _⟩ := scan_ok (rdU_scan h)
  exact uleb_least ds 10 h1 (by omega)
theorem rdL_ok {n : Nat} : ∀ {m ls : List Int} {c : Nat}, Bs m → rdL n m = .ok (ls, c) → ls.length = n ∧ (∀ x ∈ ls, Num x) ∧ (ls.flatMap uleb).length ≤ c ∧ c ≤ m.length := by
  induction n with
  | zero =>
    intro m ls c _ h
    injection h with h
    injection h with h1 h2
    subst h1
    subst h2
    exact ⟨rfl, fun _ h => absurd h (by simp), Nat.le_refl _, Nat.zero_le _⟩
  | succ n ih =>
    intro m ls c hb h
    rw [rdL] at h
    split at h
    · cases h
    · rename_i ds h1
      split at h
      · cases h
      · rename_i l' c' h2
        injection h with h
        injection h with h3 h4
        subst h3
        subst h4
        obtain ⟨i1, i2, i3, i4⟩ := ih (hb.drop _) h2
        rw [List.length_drop] at i4
        have := rdU_len h1
        have := uleb_le h1
        refine ⟨by simp [i1], ?_, by rw [List.flatMap_cons, List.length_append]; omega, by omega⟩
        intro x hx
        rcases List.mem_cons.1 hx with rfl | hx
        · exact Num_val hb h1
        · exact i2 x hx
theorem s32_in {c : Int} (h0 : 0 ≤ c) (h1 : c ≤ 4294967295) : inS false (s32 c) ∧ s32 c % 4294967296 = c := by
  unfold inS s32
  simp only [Bool.false_eq_true, if_false]
  split <;> omega
theorem s64_in {c : Int} (h0 : 0 ≤ c) (h1 : c < 18446744073709551616) : inS true (s64 c) ∧ s64 c % 18446744073709551616 = c := by
  unfold inS s64
  simp only [if_true]
  split <;> omega
theorem s32_back {v : Int} (h : inS false v) : s32 (v % 4294967296) = v := by
  unfold inS at h
  simp only [Bool.false_eq_true, if_false] at h
  unfold s32
  split <;> omega
theorem s64_back {v : Int} (h : inS true v) : s64 (v % 18446744073709551616) = v := by
  unfold inS at h
  simp only [if_true] at h
  unfold s64
  split <;> omega
/-- What is laid is read again, whatever stands behind it. -/
theorem decT_tl {i : TInstr} (h : San i) (hc : Cok i) (m : List Int) : decT i.op (tl i ++ m) = .ok (i, (tl i).length) := by
  obtain ⟨op, a, b, c, ls⟩ := i
  obtain ⟨h0, h1, h2, h3, h4, h5, h6, h7, h8, h9, h10⟩ := h
  dsimp only [Cok] at *
  unfold decT tl
  rcases kd_in op with e | e | e | e | e | e | e | e | e | e <;> simp only [e, Int.reduceEq, if_true, if_false]
  · exact absurd e h0
  · obtain ⟨rfl, rfl, rfl⟩ := h4 (.inl e)
    obtain rfl := h3 (by omega)
    rfl
  · obtain ⟨rfl, rfl, h51⟩ := h5 e
    obtain rfl := h3 (by omega)
    rcases h51 with rfl | rfl | rfl <;> rfl
  · obtain ⟨rfl, rfl⟩ := h6 (.inl e)
    obtain rfl := h3 (by omega)
    rw [(uleb_num h1 m).1]
    dsimp only
    rw [(uleb_num h1 m).2]
  · obtain ⟨rfl, rfl, h71, h72⟩ := h7 e
    have hn : Num (ls.length : Int) := ⟨by omega, by omega⟩
    have h73 := uleb_num hn ((ls.flatMap uleb ++ uleb a) ++ m)
    rw [List.append_assoc, h73.1]
    dsimp only
    rw [h73.2, if_pos (by omega), drop_left, Int.toNat_natCast, List.append_assoc, rdL_flat ls h72]
    dsimp only
    rw [drop_left, (uleb_num h1 m).1]
    dsimp only
    rw [(uleb_num h1 m).2]
    simp [Nat.add_assoc]
  · obtain ⟨rfl, rfl⟩ := h6 (.inr e)
    obtain rfl := h3 (by omega)
    rw [List.append_assoc, (uleb_num h1 _).1]
    dsimp only
    rw [drop_left, (uleb_num h1 []).2]
    simp
  · obtain rfl := h8 e
    obtain rfl := h3 (by omega)
    rw [List.append_assoc, (uleb_num h1 _).1]
    dsimp only
    rw [drop_left, (uleb_num h2 _).1, (uleb_num h1 []).2]
    dsimp only
    rw [(uleb_num h2 []).2]
    simp
  · obtain ⟨rfl, rfl, rfl⟩ := h4 (.inr e)
    obtain rfl := h3 (by omega)
    rfl
  · obtain ⟨rfl, rfl, h91⟩ := h9 e
    obtain rfl := h3 (by omega)
    obtain ⟨i1, i2⟩ := s32_in hc.1 h91
    rw [(rdS_sleb i1 m).1]
    dsimp only
    rw [(rdS_sleb i1 m).2, i2]
  · obtain ⟨rfl, rfl⟩ := h10 e
    obtain rfl := h3 (by omega)
    obtain ⟨i1, i2⟩ := s64_in hc.1 hc.2
    rw [(rdS_sleb i1 m).1]
    dsimp only
    rw [(rdS_sleb i1 m).2, i2]
theorem dec_enc {i : TInstr} (h : San i) (hc : Cok i) (m : List Int) : dec (enc i ++ m) = .ok (i, (enc i).length) := by
  unfold enc
  rw [List.cons_append, dec, decT_tl h hc m]
  rfl
/-- What is cut short is too short. -/
theorem decT_cut {i : TInstr} (h : San i) (hc : Cok i) {n : Nat} (hn : n < (tl i).length) : decT i.op ((tl i).take n) = .error 2 := by
  obtain ⟨op, a, b, c, ls⟩ := i
  obtain ⟨h0, h1, h2, h3, h4, h5, h6, h7, h8, h9, h10⟩ := h
  dsimp only [Cok] at *
  unfold tl at hn ⊢
  unfold decT
  rcases kd_in op with e | e | e | e | e | e | e | e | e | e <;> simp only [e, Int.reduceEq, if_true, if_false] at hn ⊢
  · exact absurd e h0
  · simp at hn
  · obtain rfl : n = 0 := by simp at hn; omega
    rfl
  · rw [uleb_cut h1 hn]
  · obtain ⟨rfl, rfl, h71, h72⟩ := h7 e
    have hm : Num (ls.length : Int) := ⟨by omega, by omega⟩
    rw [List.take_append]
    by_cases h8 : n < (uleb (ls.length : Int)).length
    · rw [show n - (uleb (ls.length : Int)).length = 0 by omega, List.take_zero, List.append_nil, uleb_cut hm h8]
    · rw [List.take_of_length_le (by omega), (uleb_num hm _).1]
      dsimp only
      rw [(uleb_num hm []).2, if_pos (by omega), drop_left, Int.toNat_natCast, List.take_append]
      generalize hq : n - (uleb (ls.length : Int)).length = q
      by_cases h9 : q < (ls.flatMap uleb).length
      · rw [show q - (ls.flatMap uleb).length = 0 by omega, List.take_zero, List.append_nil, rdL_cut ls h72 q h9]
      · rw [List.take_of_length_le (by omega), rdL_flat ls h72]
        dsimp only
        rw [drop_left, uleb_cut h1 (by rw [List.length_append, List.length_append] at hn; omega)]
  · rw [List.take_append]
    by_cases h8 : n < (uleb a).length
    · rw [show n - (uleb a).length = 0 by omega, List.take_zero, List.append_nil, uleb_cut h1 h8]
    · rw [List.take_of_length_le (by omega), (uleb_num h1 _).1]
      dsimp only
      rw [drop_left, show n - (uleb a).length = 0 by rw [List.length_append] at hn; simp at hn; omega]
      rfl
  · rw [List.take_append]
    by_cases h8 : n < (uleb a).length
    · rw [show n - (uleb a).length = 0 by omega, List.take_zero, List.append_nil, uleb_cut h1 h8]
    · rw [List.take_of_length_le (by omega), (uleb_num h1 _).1]
      dsimp only
      rw [drop_left, uleb_cut h2 (by rw [List.length_append] at hn; omega)]
  · obtain rfl : n = 0 := by simp at hn; omega
    rfl
  · obtain ⟨i1, i2⟩ := s32_in hc.1 (h9 e).2.2
    rw [rdS_short i1 hn]
  · obtain ⟨i1, i2⟩ := s64_in hc.1 hc.2
    rw [rdS_short i1 hn]
theorem dec_cut {i : TInstr} (h : San i) (hc : Cok i) {n : Nat} (hn : n < (enc i).length) : dec ((enc i).take n) = .error 2 := by
  cases n with
  | zero => rfl
  | succ n =>
    unfold enc at hn ⊢
    rw [List.take_succ_cons, dec, decT_cut h hc (by simpa using hn)]
/-- What is read may be, and is laid in no more bytes. -/
theorem decT_ok {op : Int} {m : List Int} (hb : Bs m) {i : TInstr} {n : Nat} (h : decT op m = .ok (i, n)) : San i ∧ Cok i ∧ i.op = op ∧ (tl i).length ≤ n ∧ n ≤ m.length := by
  have z : Num 0 := by decide
  unfold decT at h
  rcases kd_in op with e | e | e | e | e | e | e | e | e | e <;> simp only [e, Int.reduceEq, if_true, if_false] at h
  · cases h
  · injection h with h
    injection h with h h'
    subst h
    subst h'
    exact ⟨by simp [San, e, z], by simp [Cok], rfl, by simp [tl, e], by omega⟩
  · split at h
    · cases h
    · split at h
      · injection h with h
        injection h with h h'
        subst h
        subst h'
        exact ⟨by simp [San, e, z], by simp [Cok], rfl, by simp [tl, e], by simp⟩
      · split at h
        · rename_i c _ _ h1
          injection h with h
          injection h with h h'
          subst h
          subst h'
          have : Num c := by unfold Num; omega
          exact ⟨by simp [San, e, z, this, h1], by simp [Cok], rfl, by simp [tl, e], by simp⟩
        · cases h
  · split at h
    · cases h
    · rename_i ds h1
      injection h with h
      injection h with h h'
      subst h
      subst h'
      exact ⟨by simp [San, e, z, Num_val hb h1], by simp [Cok], rfl, by simpa [tl, e] using uleb_le h1, rdU_len h1⟩
  · split at h
    · cases h
    · rename_i ds h1
      split at h
      · rename_i h2
        split at h
        · cases h
        · rename_i ls c h3
          split at h
          · cases h
          · rename_i d2 h4
            injection h with h
            injection h with h h'
            subst h
            subst h'
            have hv0 := val_nonneg ds
            obtain ⟨i1, i2, i3, i4⟩ := rdL_ok (hb.drop _) h3
            have h5 := Num_val ((hb.drop _).drop _) h4
            have h6 := uleb_le h1
            have h7 := uleb_le h4
            have h8 := rdU_len h1
            have h9 := rdU_len h4
            rw [List.length_drop] at i4
            rw [List.length_drop, List.length_drop] at h9
            refine ⟨by simp [San, e, z, h5]; exact ⟨by omega, i2⟩, by simp [Cok], rfl, ?_, by omega⟩
            simp only [tl, e, Int.reduceEq, if_true, if_false]
            rw [i1, Int.toNat_of_nonneg hv0, List.length_append, List.length_append]
            omega
      · cases h
  · split at h
    · cases h
    · rename_i ds h1
      split at h
      · cases h
      · rename_i c l h2
        split at h
        · injection h with h
          injection h with h h'
          subst h
          subst h'
          have h3 := congrArg List.length h2
          rw [List.length_drop] at h3
          simp only [List.length_cons] at h3
          exact ⟨by simp [San, e, z, Num_val hb h1], by simp [Cok], rfl, by simpa [tl, e] using uleb_le h1, by omega⟩
        · cases h
  · split at h
    · cases h
    · rename_i ds h1
      split at h
      · cases h
      · rename_i d2 h2
        injection h with h
        injection h with h h'
        subst h
        subst h'
        have h3 := uleb_le h1
        have h4 := uleb_le h2
        have h5 := rdU_len h1
        have h6 := rdU_len h2
        rw [List.length_drop] at h6
        exact ⟨by simp [San, e, z, Num_val hb h1, Num_val (hb.drop _) h2], by simp [Cok], rfl, by simp [tl, e]; omega, by omega⟩
  · split at h
    · cases h
    · split at h
      · injection h with h
        injection h with h h'
        subst h
        subst h'
        exact ⟨by simp [San, e, z], by simp [Cok], rfl, by simp [tl, e], by simp⟩
      · cases h
  · split at h
    · cases h
    · rename_i ds h1
      injection h with h
      injection h with h h'
      subst h
      subst h'
      obtain ⟨i1, i2, _, i3, i4, _⟩ := rdS_in hb h1
      refine ⟨by simp [San, e, z]; omega, by simp [Cok]; omega, rfl, ?_, i3⟩
      simp only [tl, e, Int.reduceEq, if_true, if_false]
      rw [s32_back i1]
      exact sleb_least ds 10 i2 i4
  · split at h
    · cases h
    · rename_i ds h1
      injection h with h
      injection h with h h'
      subst h
      subst h'
      obtain ⟨i1, i2, _, i3, i4, _⟩ := rdS_in hb h1
      refine ⟨by simp [San, e, z], by simp [Cok]; omega, rfl, ?_, i3⟩
      simp only [tl, e, Int.reduceEq, if_true, if_false]
      rw [s64_back i1]
      exact sleb_least ds 10 i2 i4
theorem dec_ok {m : List Int} (hb : Bs m) {i : TInstr} {n : Nat} (h : dec m = .ok (i, n)) : San i ∧ Cok i ∧ (enc i).length ≤ n ∧ n ≤ m.length ∧ 0 < n ∧ ∃ l, m = i.op :: l := by
  cases m with
  | nil => cases h
  | cons op l =>
    rw [dec] at h
    split at h
    · cases h
    · rename_i j c h1
      injection h with h
      injection h with h h'
      subst h
      subst h'
      obtain ⟨i1, i2, i3, i4, i5⟩ := decT_ok (fun x hx => hb x (List.mem_cons_of_mem _ hx)) h1
      exact ⟨i1, i2, by simp [enc]; omega, by simp; omega, by omega, l, by rw [i3]⟩
theorem enc_inj {i j : TInstr} (hi : San i) (hci : Cok i) (hj : San j) (hcj : Cok j) (h : enc i = enc j) : i = j := by
  have h1 := dec_enc hi hci []
  rw [h, dec_enc hj hcj []] at h1
  injection h1 with h1
  injection h1 with h1 _
  exact h1.symm
theorem enc_bs {i : TInstr} (h : San i) (hc : Cok i) : Bs (enc i) := by
  have ub : ∀ {v}, Num v → Bs (uleb v) := fun h => ulebF_bs 10 _ h.1
  have sb : ∀ {v}, Bs (sleb v) := slebF_bs 10 _
  have z : Bs [0] := Bs.cons (by omega) Bs.nil
  obtain ⟨op, a, b, c, ls⟩ := i
  obtain ⟨h0, h1, h2, h3, h4, h5, h6, h7, h8, h9, h10⟩ := h
  dsimp only at *
  refine Bs.cons (kd_byte h0) ?_
  unfold tl
  rcases kd_in op with e | e | e | e | e | e | e | e | e | e <;> simp only [e, Int.reduceEq, if_true, if_false]
  · exact absurd e h0
  · exact Bs.nil
  · refine Bs.cons ?_ Bs.nil
    have := (h5 e).2.2
    split <;> omega
  · exact ub h1
  · obtain ⟨_, _, h71, h72⟩ := h7 e
    refine (ub ⟨by omega, by omega⟩).append (Bs.append ?_ (ub h1))
    intro x hx
    obtain ⟨y, hy, hx⟩ := List.mem_flatMap.1 hx
    exact ub (h72 y hy) x hx
  · exact (ub h1).append z
  · exact (ub h1).append (ub h2)
  · exact z
  · exact sb
  · exact sb
theorem decT_err {op : Int} {m : List Int} {e : Int} (h : decT op m = .error e) : e ≠ 0 := by
  unfold decT at h
  rcases kd_in op with e | e | e | e | e | e | e | e | e | e <;> simp only [e, Int.reduceEq, if_true, if_false] at h
  · injection h with h
    omega
  · cases h
  · split at h
    · injection h with h
      omega
    · split at h
      · cases h
      · split at h
        · cases h
        · injection h with h
          omega
  · split at h
    · rename_i h1
      injection h with h
      subst h
      exact rdU_err h1
    · cases h
  · split at h
    · rename_i h1
      injection h with h
      subst h
      exact rdU_err h1
    · split at h
      · split at h
        · rename_i h1
          injection h with h
          subst h
          exact rdL_err h1
        · split at h
          · rename_i h1
            injection h with h
            subst h
            exact rdU_err h1
          · cases h
      · injection h with h
        omega
  · split at h
    · rename_i h1
      injection h with h
      subst h
      exact rdU_err h1
    · split at h
      · injection h with h
        omega
      · split at h
        · cases h
        · injection h with h
          omega
  · split at h
    · rename_i h1
      injection h with h
      subst h
      exact rdU_err h1
    · split at h
      · rename_i h1
        injection h with h
        subst h
        exact rdU_err h1
      · cases h
  · split at h
    · injection h with h
      omega
    · split at h
      · cases h
      · injection h with h
        omega
  · split at h
    · rename_i h1
      injection h with h
      subst h
      exact rdS_err h1
    · cases h
  · split at h
    · rename_i h1
      injection h with h
      subst h
      exact rdS_err h1
    · cases h
theorem dec_err {m : List Int} {e : Int} (h : dec m = .error e) : e ≠ 0 := by
  cases m with
  | nil =>
    injection h with h
    omega
  | cons op l =>
    rw [dec] at h
    split at h
    · rename_i h1
      injection h with h
      subst h
      exact decT_err h1
    · cases h
end Go.Proofs.YtklnkkejkeelaaaDoor.E
