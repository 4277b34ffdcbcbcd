/- PLAIN LAW: what is laid is read again. No condition; no program's step in it. -/
import Derived.Test.YtklnkkejkeelaaaDoorPAwake05
import Derived.Test.YtklnkkejkeelaaaDoorPInsOf
import Derived.Test.YtklnkkejkeelaaaDoorXx18
set_option linter.unusedSimpArgs false
set_option linter.unusedVariables false
namespace Go.Proofs.YtklnkkejkeelaaaDoor.X
open Go.RowKit Go.Proofs.YtklnkkejkeelaaaDoorW.PrintWords Go.Proofs.YtklnkkejkeelaaaDoorW.PrintLast Go.Proofs.YtklnkkejkeelaaaDoorW.PrintMore
theorem InstrBack.pure (l0 : List Int) (x1 : S33) (l2 : List Int) (_ : l0.length ≤ maxLen) (h0 : ∀ z ∈ l0, (Lit.int .u8 z).wf = true) (h1 : good33 x1) (_ : l2.length ≤ maxLen) (h2 : ∀ z ∈ l2, (Lit.int .u8 z).wf = true) :
    ∃ k, avocetlaw05_InstrBack.f k l0 x1.f0 x1.f1 x1.f2 x1.f3 x1.f4 l2 = some true := by
  refine ⟨201, ?_⟩
  have hb0 := bytes_of h0
  have hb2 := bytes_of h2
  have hc := cok_of h1
  generalize hi : insOf x1 = i at hc
  have e0 : x1.f0 = i.op := by rw [← hi]; rfl
  have e1 : x1.f1 = i.a := by rw [← hi]; rfl
  have e2 : x1.f2 = i.b := by rw [← hi]; rfl
  have e3 : x1.f3 = i.c := by rw [← hi]; rfl
  have e4 : x1.f4 = i.ls := by rw [← hi]; rfl
  rw [e0, e1, e2, e3, e4]
  unfold avocetlaw05_InstrBack.f
  rw [awake5 (by omega), Option.bind_some]
  by_cases hl : (l0.length : Int) > 100
  · rw [if_pos hl, avocetlaw05_InstrBack.j0, if_pos rfl]
  rw [if_neg hl]
  by_cases hl2 : (l2.length : Int) > 100
  · rw [if_pos hl2, avocetlaw05_InstrBack.j0, if_pos rfl]
  rw [if_neg hl2, small_eq, Option.bind_some]
  by_cases h3 : (i.ls.length : Int) ≤ 100
  case neg => rw [decide_eq_false h3, avocetlaw05_InstrBack.j0, if_pos (by decide)]
  rw [decide_eq_true h3, avocetlaw05_InstrBack.j0, if_neg (by decide)]
  by_cases hs : San i
  · have hlen := enc_len i hs
    rw [put_yes (by omega) (by omega) hs hc (by omega), Option.bind_some]
    dsimp only
    have hln : 1 ≤ (enc i).length := by simp [enc]
    rw [if_pos rfl, Option.bind_some, List.nil_append, List.length_nil, if_pos (by rw [List.length_append]; omega), Option.bind_some, if_pos (by rw [List.length_append]; omega)]
    have hR := Read_eq 200 (l0 ++ enc i ++ l2) ((hb0.append (enc_bs hs hc)).append hb2) (by simp only [List.length_append]; omega) l0.length (by simp only [List.length_append]; omega) (by omega)
    rw [List.append_assoc, List.drop_left, dec_enc hs hc] at hR
    rw [List.append_assoc, hR]
    dsimp only
    have hm : mx 0 (wrap64 (((l0 ++ enc i).length : Int) - 1)) = ((l0.length + ((enc i).length - 1) : Nat) : Int) := by
      rw [w64 (by rw [List.length_append]; omega) (by rw [List.length_append]; omega), List.length_append]
      unfold mx
      split <;> omega
    rw [Option.bind_some, hm, if_pos (by omega), if_pos (by rw [List.length_append]; omega), Int.toNat_natCast]
    have ht : (l0 ++ enc i).take (l0.length + ((enc i).length - 1)) = l0 ++ (enc i).take ((enc i).length - 1) := by
      rw [List.take_append, List.take_of_length_le (by omega)]
      congr 2
      omega
    have hR2 := Read_eq 200 (l0 ++ (enc i).take ((enc i).length - 1)) (hb0.append ((enc_bs hs hc).take _)) (by simp only [List.length_append, List.length_take]; omega) l0.length (by simp only [List.length_append]; omega) (by omega)
    rw [List.drop_left, dec_cut hs hc (by omega)] at hR2
    rw [ht, hR2]
    dsimp only
    rw [Option.bind_some, if_pos rfl, sane_yes (by omega) (by omega) hs, Option.bind_some, if_pos rfl, if_pos rfl, if_pos (by rw [List.length_append]), same_eq _ _ _ _ _ _ _ _ _ _ _ (by omega) (by omega), Option.bind_some]
    simp
  · rw [put_no (by omega) (by omega) hs, Option.bind_some]
    dsimp only
    rw [if_neg (by decide), if_pos rfl, sane_no (by omega) (by omega) hs, Option.bind_some, if_neg (by decide)]
    rfl
end Go.Proofs.YtklnkkejkeelaaaDoor.X
