/- PLAIN LAWS of instr, two: what is laid. No condition; no program's step in it. -/
import Derived.Test.YtklnkkejkeelaaaDoorPIns
set_option linter.unusedVariables false
set_option linter.unusedSimpArgs false
namespace Go.Proofs.YtklnkkejkeelaaaDoor.X
open Go.RowKit Go.Proofs.YtklnkkejkeelaaaDoorW.PrintWords Go.Proofs.YtklnkkejkeelaaaDoorW.PrintLast Go.Proofs.YtklnkkejkeelaaaDoorW.PrintMore

/-- A constant of 32, and of 64, digits as a number that may be below 0. -/
def s32 (c : Int) : Int := if c < 2147483648 then c else c - 4294967296
def s64 (c : Int) : Int := if c < 9223372036854775808 then c else c - 18446744073709551616
/-- What stands behind the operator. -/
def tl (i : Ins) : List Int :=
  if kd i.op = 2 then [if i.a = 0 then 64 else i.a]
  else if kd i.op = 3 then uleb i.a
  else if kd i.op = 4 then uleb (i.ls.length : Int) ++ (i.ls.flatMap uleb ++ uleb i.a)
  else if kd i.op = 5 then uleb i.a ++ [0]
  else if kd i.op = 6 then uleb i.a ++ uleb i.b
  else if kd i.op = 7 then [0]
  else if kd i.op = 8 then sleb (s32 i.c)
  else if kd i.op = 9 then sleb (s64 i.c) else []
/-- An instruction's bytes. -/
def enc (i : Ins) : List Int := i.op :: tl i
/-- A constant is one. -/
def Cok (i : Ins) : Prop := 0 ≤ i.c ∧ i.c < 18446744073709551616
theorem flat_len (l : List Int) : (l.flatMap uleb).length ≤ 10 * l.length := by
  induction l with
  | nil => simp
  | cons c l ih =>
    rw [List.flatMap_cons, List.length_append, List.length_cons]
    have := ulebF_len 10 c
    unfold uleb at *
    omega
theorem enc_len (i : Ins) (h : San i) : (enc i).length ≤ 1000 := by
  have hu : ∀ v, (uleb v).length ≤ 10 := ulebF_len 10
  have hs : ∀ v, (sleb v).length ≤ 10 := slebF_len 10
  have hf := flat_len i.ls
  have h1 := hu i.a
  have h2 := hu i.b
  have h3 := hu i.ls.length
  have h4 := hs (s32 i.c)
  have h5 := hs (s64 i.c)
  obtain ⟨_, _, _, _, _, _, _, h6, _⟩ := h
  unfold enc tl
  rw [List.length_cons]
  split
  · simp
  · split
    · omega
    · split
      · rename_i h7
        have := (h6 h7).2.2.1
        simp only [List.length_append]
        omega
      · split
        · simp; omega
        · split
          · simp; omega
          · split
            · simp
            · split
              · omega
              · split
                · omega
                · simp
theorem put_loop (ls : List Int) (hn : ∀ x ∈ ls, Num x) (hl : ls.length ≤ 64) (op a b c : Int) (ha : Num a) (d : Nat) : ∀ (k i : Nat) (m : List Int), i + d = ls.length → d + 20 ≤ k → m.length + 10 * d + 20 < 140737488355328 →
    instr_Put.l0 k m ls (ls.length : Int) (i : Int) op a b c ls = some (m ++ ((ls.drop i).flatMap uleb ++ uleb a), 0) := by
  induction d with
  | zero =>
    intro k i m hi hk hm
    obtain ⟨k, rfl⟩ : ∃ j, k = j + 1 := ⟨k - 1, by omega⟩
    rw [instr_Put.l0, if_neg (by omega), List.drop_eq_nil_of_le (by omega), u64w, Int.emod_eq_of_lt ha.1 (by have := ha.2; omega), leb_U_eq k m a (by omega) ha.1 (by have := ha.2; omega) (by omega)]
    rfl
  | succ d ih =>
    intro k i m hi hk hm
    obtain ⟨k, rfl⟩ : ∃ j, k = j + 1 := ⟨k - 1, by omega⟩
    have h1 : i < ls.length := by omega
    have h2 := hn _ (List.getElem_mem h1)
    have h3 : (uleb ls[i]).length ≤ 10 := ulebF_len 10 _
    rw [instr_Put.l0, if_pos (by omega), if_pos (by omega), if_pos (by omega), rd_nat h1, u64w, Int.emod_eq_of_lt h2.1 (by have := h2.2; omega), leb_U_eq k m _ (by omega) h2.1 (by have := h2.2; omega) (by omega), Option.bind_some, w64 (by omega) (by omega), show (i : Int) + 1 = ((i + 1 : Nat) : Int) by omega, ih k (i + 1) _ (by omega) (by omega) (by simp; omega), List.drop_eq_getElem_cons h1, List.flatMap_cons]
    simp only [List.append_assoc]
theorem put_yes {k : Nat} {i : Ins} {l : List Int} (hk : 110 ≤ k) (hk' : k ≤ 9223372036854775807) (h : San i) (hc : Cok i) (hl : l.length + 1000 < 140737488355328) : instr_Put.f k l i.op i.a i.b i.c i.ls = some (l ++ enc i, 0) := by
  obtain ⟨k, rfl⟩ : ∃ j, k = j + 2 := ⟨k - 2, by omega⟩
  unfold instr_Put.f
  rw [sane_yes (by omega) (by omega) h, Option.bind_some, instr_Put.j0]
  unfold bytes_Clone.f instr_Kind.f
  rw [if_neg (by decide), if_pos (by omega)]
  simp only [Option.bind_some, List.length_singleton]
  rw [if_pos (by omega), instr_Put.j1]
  obtain ⟨op, a, b, c, ls⟩ := i
  obtain ⟨h0, h1, h2, h3, h4, h5, h6, h7, h8, h9, h10⟩ := h
  dsimp only at *
  have hop := kd_byte h0
  have eo : op % 256 = op := Int.emod_eq_of_lt hop.1 hop.2
  have e2 : l ++ [op % 256] = l ++ [op] := by rw [eo]
  have ea : IntKind.u64.wrap a = a := by rw [u64w, Int.emod_eq_of_lt h1.1 (by have := h1.2; omega)]
  have eb : IntKind.u64.wrap b = b := by rw [u64w, Int.emod_eq_of_lt h2.1 (by have := h2.2; omega)]
  have hu := fun v => ulebF_len 10 v
  have ua : ∀ m : List Int, m.length + 20 < 140737488355328 → leb_U.f k m a = some (m ++ uleb a) := fun m hm => leb_U_eq k m a (by omega) h1.1 (by have := h1.2; omega) (by omega)
  have ub : ∀ m : List Int, m.length + 20 < 140737488355328 → leb_U.f k m b = some (m ++ uleb b) := fun m hm => leb_U_eq k m b (by omega) h2.1 (by have := h2.2; omega) (by omega)
  have eK : instr_Kind.from spansL op = kd op := rfl
  unfold enc tl
  rw [e2, eK, ea, eb]
  dsimp only [Cok] at hc ⊢
  rcases kd_in op with e | e | e | e | e | e | e | e | e | e <;> simp only [e, Int.reduceEq, if_true, if_false]
  · have := (h5 e).2.2
    have e3 : mx a 64 % 256 = if a = 0 then 64 else a := by
      unfold mx
      rcases this with rfl | rfl | rfl <;> decide
    rw [e3]
    simp
    omega
  · rw [ua _ (by simp; omega)]
    simp
  · obtain ⟨_, _, h71, h72⟩ := h7 e
    rw [u64w, Int.emod_eq_of_lt (by omega) (by omega), leb_U_eq k _ _ (by omega) (by omega) (by omega) (by simp; omega), Option.bind_some]
    have e4 := put_loop ls h72 h71 op a b c h1 ls.length k 0 (l ++ [op] ++ uleb (ls.length : Int)) (by omega) (by omega) (by have := hu (ls.length : Int); unfold uleb; simp; omega)
    rw [List.drop_zero] at e4
    exact e4.trans (by simp)
  · rw [ua _ (by simp; omega)]
    simp
    have := hu a
    unfold uleb
    omega
  · rw [ua _ (by simp; omega), Option.bind_some, ub _ (by have := hu a; unfold uleb; simp; omega)]
    simp
  · simp
    omega
  · have h81 := (h9 e).2.2
    have e5 : wrap64 (wrap32 c) = s32 c := by unfold wrap64 wrap32 s32; split <;> omega
    rw [e5, leb_S_eq k _ _ (by omega) (by unfold s32; split <;> omega) (by unfold s32; split <;> omega) (by simp; omega)]
    simp
  · have e5 : wrap64 c = s64 c := by unfold wrap64 s64; split <;> omega
    rw [e5, leb_S_eq k _ _ (by omega) (by unfold s64; split <;> omega) (by unfold s64; split <;> omega) (by simp; omega)]
    simp
theorem put_no {k : Nat} {i : Ins} {l : List Int} (hk : 110 ≤ k) (hk' : k ≤ 9223372036854775807) (h : ¬ San i) : instr_Put.f k l i.op i.a i.b i.c i.ls = some ([], 1) := by
  obtain ⟨k, rfl⟩ : ∃ j, k = j + 2 := ⟨k - 2, by omega⟩
  unfold instr_Put.f
  rw [sane_no (by omega) (by omega) h, Option.bind_some, instr_Put.j0]
  rfl
end Go.Proofs.YtklnkkejkeelaaaDoor.X
