/- PLAIN LAW: what is read is of its kind. No condition; no program's step in it. -/
import Derived.Test.YtklnkkejkeelaaaDoorPAwake05
import Derived.Test.YtklnkkejkeelaaaDoorXx23
set_option linter.unusedSimpArgs false
set_option linter.unusedVariables false
namespace Go.Proofs.YtklnkkejkeelaaaDoor.X
open Go.RowKit Go.Proofs.YtklnkkejkeelaaaDoorW.PrintWords Go.Proofs.YtklnkkejkeelaaaDoorW.PrintLast Go.Proofs.YtklnkkejkeelaaaDoorW.PrintMore
theorem InstrTold.pure (l0 : List Int) (h1 : l0.length ≤ maxLen) (h2 : ∀ z ∈ l0, (Lit.int .u8 z).wf = true) : ∃ k, avocetlaw05_InstrTold.f k l0 = some true := by
  refine ⟨200, ?_⟩
  have hb := bytes_of h2
  unfold avocetlaw05_InstrTold.f
  rw [awake5 (by omega), Option.bind_some]
  by_cases hl : (l0.length : Int) > 500
  · rw [if_pos hl]
  · rw [if_neg hl]
    have hR := Read_eq 200 l0 hb (by omega) 0 (by omega) (by omega)
    rw [List.drop_zero] at hR
    have hR' : instr_Read.f 200 l0 0 = _ := hR
    rw [hR']
    cases hd : dec l0 with
    | error e =>
      have he := dec_err hd
      dsimp only
      rw [Option.bind_some]
      dsimp only
      rw [if_neg he, if_pos rfl, if_pos rfl, same_eq _ _ _ _ _ _ _ _ _ _ _ (by simp) (by omega)]
      rfl
    | ok q =>
      obtain ⟨i, n⟩ := q
      obtain ⟨i1, i2, i3, i4, i5, l, i6⟩ := dec_ok hb hd
      dsimp only
      rw [Option.bind_some]
      dsimp only
      rw [if_pos rfl, put_yes (by omega) (by omega) i1 i2 (by simp), Option.bind_some]
      dsimp only
      rw [if_pos rfl, if_pos rfl, List.nil_append, if_pos (by omega), if_pos (by omega), sane_yes (by omega) (by omega) i1, Option.bind_some, if_pos rfl]
      unfold instr_Kind.f
      rw [Option.bind_some, show instr_Kind.from spansL i.op = kd i.op from rfl, if_neg i1.1, if_pos (by rw [i6]; simp), if_pos (by rw [i6]; simp)]
      have hop := kd_byte i1.1
      have : rd l0 0 = i.op := by rw [i6]; rfl
      rw [this, w64 (by omega) (by omega)]
      simp
end Go.Proofs.YtklnkkejkeelaaaDoor.X
