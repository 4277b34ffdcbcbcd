/- PLAIN LAW: instructions in a row are read as they were laid. No condition; no program's step in it. -/
import Derived.Test.YtklnkkejkeelaaaDoorPInsOf
import Derived.Test.YtklnkkejkeelaaaDoorXx21
set_option linter.unusedVariables false
set_option linter.unusedSimpArgs false
namespace Go.Proofs.YtklnkkejkeelaaaDoor.X
open Go.RowKit Go.Proofs.YtklnkkejkeelaaaDoorW.PrintWords Go.Proofs.YtklnkkejkeelaaaDoorW.PrintLast Go.Proofs.YtklnkkejkeelaaaDoorW.PrintMore
/-- What came in, laid. -/
def encS (x : S33) : List Int := enc (insOf x)
/-- What came in, and may be. -/
def okS (x : S33) : Prop := San (insOf x) ∧ Cok (insOf x) ∧ x.f4.length ≤ 100
theorem rdS_nat {l : List S33} {x : Nat} (h : x < l.length) : rd_T33 l (x : Int) = l[x] := by
  simp [rd_T33, List.getD_eq_getElem?_getD, List.getElem?_eq_getElem h]
theorem flatS_bs (l : List S33) (h : ∀ x ∈ l, okS x) : Bs (l.flatMap encS) := by
  intro x hx
  obtain ⟨y, hy, hx⟩ := List.mem_flatMap.1 hx
  exact enc_bs (h y hy).1 (h y hy).2.1 x hx
theorem flatS_len (l : List S33) (h : ∀ x ∈ l, okS x) : (l.flatMap encS).length ≤ 1000 * l.length := by
  induction l with
  | nil => simp
  | cons c l ih =>
    rw [List.flatMap_cons, List.length_append, List.length_cons]
    have h1 := ih (fun x hx => h x (List.mem_cons_of_mem _ hx))
    have h2 : (encS c).length ≤ 1000 := enc_len _ (h c (by simp)).1
    omega
theorem row_back (xs : List S33) (hx : ∀ x ∈ xs, okS x) (hl : xs.length ≤ 40) (rest : List S33) : ∀ (k j : Nat) (A : List Int), xs.drop j = rest → j + rest.length = xs.length → Bs A → A ++ rest.flatMap encS = xs.flatMap encS → rest.length + 150 < k → k ≤ 1000 →
    avocetlaw05_InstrRow.l1 k true (xs.flatMap encS) xs (A.length : Int) (j : Int) = some true := by
  induction rest with
  | nil =>
    intro k j A hd hj hA he hk hk2
    obtain ⟨k, rfl⟩ : ∃ m, k = m + 1 := ⟨k - 1, by omega⟩
    rw [avocetlaw05_InstrRow.l1, if_neg (by simp at hj; omega), if_pos rfl, ← he]
    simp
  | cons c rest ih =>
    intro k j A hd hj hA he hk hk2
    obtain ⟨k, rfl⟩ : ∃ m, k = m + 1 := ⟨k - 1, by omega⟩
    simp only [List.length_cons] at hj hk
    have h1 : j < xs.length := by omega
    have hc : xs[j] = c := by
      rw [List.drop_eq_getElem_cons h1] at hd
      exact (List.cons.inj hd).1
    have hok := hx c (by rw [← hc]; exact List.getElem_mem h1)
    have hlen := flatS_len xs hx
    have hAl : A.length ≤ (xs.flatMap encS).length := by rw [← he]; simp
    have hbs := flatS_bs xs hx
    have hR := Read_eq k (xs.flatMap encS) hbs (by omega) A.length hAl (by omega)
    have hdr : (xs.flatMap encS).drop A.length = encS c ++ rest.flatMap encS := by rw [← he, List.drop_left, List.flatMap_cons]
    rw [hdr] at hR
    unfold encS at hR
    rw [dec_enc hok.1 hok.2.1] at hR
    have hln : 1 ≤ (enc (insOf c)).length := by simp [enc]
    have hl2 : (A ++ encS c).length ≤ (xs.flatMap encS).length := by rw [← he, List.flatMap_cons]; simp
    have hl3 : (A ++ encS c).length = A.length + (enc (insOf c)).length := by rw [List.length_append]; rfl
    rw [avocetlaw05_InstrRow.l1, if_pos (by omega)]
    change ((instr_Read.f k (xs.flatMap encS) (A.length : Int)).bind _) = _
    have hR' : instr_Read.f k (xs.flatMap encS) (A.length : Int) = some ((insOf c).op, (insOf c).a, (insOf c).b, (insOf c).c, (insOf c).ls, ((A.length + (enc (insOf c)).length : Nat) : Int), 0) := hR
    rw [hR', Option.bind_some]
    dsimp only
    rw [if_pos rfl, if_pos (by omega), rdS_nat h1, hc, same_eq k _ _ _ _ _ _ _ _ _ _ (by have := hok.2.2; show c.f4.length < k; omega) (by omega), Option.bind_some]
    have e1 : (insOf c).op = c.f0 := rfl
    have e2 : (insOf c).a = c.f1 := rfl
    have e3 : (insOf c).b = c.f2 := rfl
    have e4 : (insOf c).c = c.f3 := rfl
    have e5 : (insOf c).ls = c.f4 := rfl
    rw [e1, e2, e3, e4, e5, if_pos (by simp), if_neg (by omega), w64 (by omega) (by omega), show (j : Int) + 1 = ((j + 1 : Nat) : Int) by omega, ← hl3]
    refine ih k (j + 1) (A ++ encS c) ?_ (by omega) (hA.append (enc_bs hok.1 hok.2.1)) ?_ (by omega) (by omega)
    · rw [List.drop_eq_getElem_cons h1] at hd
      exact (List.cons.inj hd).2
    · rw [List.append_assoc, ← he, List.flatMap_cons]
theorem row_on (l0 : List S33) (h1 : ∀ x ∈ l0, good33 x) (hl : l0.length ≤ 40) (d : Nat) : ∀ (k i : Nat) (xs : List S33), i + d = l0.length → xs.length ≤ i → (∀ x ∈ xs, okS x) → d + 200 < k → k ≤ 1000 →
    avocetlaw05_InstrRow.l0 k l0 true (xs.flatMap encS) xs (i : Int) = some true := by
  induction d with
  | zero =>
    intro k i xs hi hx hok hk hk2
    obtain ⟨k, rfl⟩ : ∃ m, k = m + 1 := ⟨k - 1, by omega⟩
    rw [avocetlaw05_InstrRow.l0, if_neg (by omega)]
    exact row_back xs hok (by omega) xs k 0 [] rfl (by omega) Bs.nil rfl (by omega) (by omega)
  | succ d ih =>
    intro k i xs hi hx hok hk hk2
    obtain ⟨k, rfl⟩ : ∃ m, k = m + 1 := ⟨k - 1, by omega⟩
    have h2 : i < l0.length := by omega
    have hg := h1 _ (List.getElem_mem h2)
    have hlen := flatS_len xs hok
    rw [avocetlaw05_InstrRow.l0, if_pos (by omega), if_pos (by omega), rdS_nat h2]
    generalize l0[i] = c at hg
    have hc := cok_of hg
    have hsm := small_eq (insOf c)
    have hsm' : avocetlaw05_small.f c.f0 c.f1 c.f2 c.f3 c.f4 = some (decide ((c.f4.length : Int) ≤ 100)) := hsm
    rw [hsm', Option.bind_some]
    by_cases h3 : (c.f4.length : Int) ≤ 100
    case neg => rw [decide_eq_false h3, if_neg (by decide)]
    rw [decide_eq_true h3, if_pos rfl, w64 (by omega) (by omega), show (i : Int) + 1 = ((i + 1 : Nat) : Int) by omega]
    by_cases hs : San (insOf c)
    · have hp : instr_Put.f k (xs.flatMap encS) c.f0 c.f1 c.f2 c.f3 c.f4 = some (xs.flatMap encS ++ enc (insOf c), 0) := put_yes (i := insOf c) (by omega) (by omega) hs hc (by omega)
      rw [hp, Option.bind_some]
      dsimp only
      rw [if_pos rfl, if_pos (by omega)]
      have := ih k (i + 1) (xs ++ [c]) (by omega) (by simp; omega) (fun x hx => by
        rcases List.mem_append.1 hx with hx | hx
        · exact hok x hx
        · rw [List.mem_singleton.1 hx]
          exact ⟨hs, hc, by omega⟩) (by omega) (by omega)
      rw [List.flatMap_append, List.flatMap_cons, List.flatMap_nil, List.append_nil] at this
      exact this
    · have hp : instr_Put.f k (xs.flatMap encS) c.f0 c.f1 c.f2 c.f3 c.f4 = some ([], 1) := put_no (i := insOf c) (by omega) (by omega) hs
      rw [hp, Option.bind_some]
      dsimp only
      rw [if_neg (by decide)]
      exact ih k (i + 1) xs (by omega) (by omega) hok (by omega) (by omega)
theorem InstrRow.pure (l0 : List S33) (_ : l0.length ≤ maxLen) (h1 : ∀ x ∈ l0, good33 x) : ∃ k, avocetlaw05_InstrRow.f k l0 = some true := by
  refine ⟨900, ?_⟩
  unfold avocetlaw05_InstrRow.f
  rw [awake5 (by omega), Option.bind_some]
  by_cases hl : (l0.length : Int) > 40
  · rw [if_pos hl]
  · rw [if_neg hl]
    exact row_on l0 h1 (by omega) l0.length 900 0 [] (by omega) (by simp) (fun _ h => absurd h (by simp)) (by omega) (by omega)
end Go.Proofs.YtklnkkejkeelaaaDoor.X
