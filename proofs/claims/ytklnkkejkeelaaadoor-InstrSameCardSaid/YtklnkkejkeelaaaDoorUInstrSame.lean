/- PLAIN LAW: an instruction is itself, and its bytes are its own. No condition; no program's step in it. -/
import Derived.Test.YtklnkkejkeelaaaDoorPInsOf
import Derived.Test.YtklnkkejkeelaaaDoorXx22
import Derived.Lib.Bytes
set_option linter.unusedVariables false
set_option linter.unusedSimpArgs false
namespace Go.Proofs.YtklnkkejkeelaaaDoor.X
open Go.RowKit Go.Proofs.YtklnkkejkeelaaaDoorW.PrintWords Go.Proofs.YtklnkkejkeelaaaDoorW.PrintLast Go.Proofs.YtklnkkejkeelaaaDoorW.PrintMore
theorem eq_iff (i j : Ins) : (i.op = j.op ∧ i.a = j.a ∧ i.b = j.b ∧ i.c = j.c ∧ i.ls = j.ls) ↔ i = j := by
  cases i
  cases j
  simp
instance : DecidableEq Ins := fun a b => decidable_of_iff _ (eq_iff a b)
theorem map_inj {a : List Int} : ∀ {b : List Int}, Bs a → Bs b → (a.map fun n => UInt8.ofNat n.toNat) = (b.map fun n => UInt8.ofNat n.toNat) → a = b := by
  induction a with
  | nil =>
    intro b _ _ h
    cases b with
    | nil => rfl
    | cons c l => simp at h
  | cons c l ih =>
    intro b ha hb h
    cases b with
    | nil => simp at h
    | cons d m =>
      simp only [List.map_cons, List.cons.injEq] at h
      have h1 := ha c (by simp)
      have h2 := hb d (by simp)
      have h3 := congrArg UInt8.toNat h.1
      rw [UInt8.toNat_ofNat', UInt8.toNat_ofNat'] at h3
      have h4 : c = d := by omega
      rw [h4, ih (fun x hx => ha x (List.mem_cons_of_mem _ hx)) (fun x hx => hb x (List.mem_cons_of_mem _ hx)) h.2]
theorem strOf_inj {a b : List Int} (ha : Bs a) (hb : Bs b) : ((strOfNums a).toList = (strOfNums b).toList) ↔ a = b := by
  rw [Go.Lib.strOfNums_toList, Go.Lib.strOfNums_toList]
  exact ⟨fun h => map_inj ha hb h, fun h => by rw [h]⟩
theorem InstrSame.pure (x0 x1 : S33) (h0 : good33 x0) (h1 : good33 x1) :
    ∃ k, avocetlaw05_InstrSame.f k x0.f0 x0.f1 x0.f2 x0.f3 x0.f4 x1.f0 x1.f1 x1.f2 x1.f3 x1.f4 = some true := by
  refine ⟨201, ?_⟩
  have hci := cok_of h0
  have hcj := cok_of h1
  generalize hi : insOf x0 = i at hci
  generalize hj : insOf x1 = j at hcj
  have e0 : x0.f0 = i.op := by rw [← hi]; rfl
  have e1 : x0.f1 = i.a := by rw [← hi]; rfl
  have e2 : x0.f2 = i.b := by rw [← hi]; rfl
  have e3 : x0.f3 = i.c := by rw [← hi]; rfl
  have e4 : x0.f4 = i.ls := by rw [← hi]; rfl
  have e5 : x1.f0 = j.op := by rw [← hj]; rfl
  have e6 : x1.f1 = j.a := by rw [← hj]; rfl
  have e7 : x1.f2 = j.b := by rw [← hj]; rfl
  have e8 : x1.f3 = j.c := by rw [← hj]; rfl
  have e9 : x1.f4 = j.ls := by rw [← hj]; rfl
  rw [e0, e1, e2, e3, e4, e5, e6, e7, e8, e9]
  unfold avocetlaw05_InstrSame.f
  rw [awake5 (by omega), Option.bind_some, small_eq, small_eq, Option.bind_some]
  by_cases h3 : (i.ls.length : Int) ≤ 100
  case neg => rw [decide_eq_false h3, if_neg (by decide), avocetlaw05_InstrSame.j0, if_pos rfl]
  rw [decide_eq_true h3, if_pos rfl, Option.bind_some]
  by_cases h4 : (j.ls.length : Int) ≤ 100
  case neg => rw [decide_eq_false h4, avocetlaw05_InstrSame.j0, if_pos (by decide)]
  rw [decide_eq_true h4, avocetlaw05_InstrSame.j0, if_neg (by decide)]
  have hsame : ∀ a b : Ins, a.ls.length < 200 → instr_Same.f 200 a.op a.a a.b a.c a.ls b.op b.a b.b b.c b.ls = some (decide (a = b)) := fun a b ha => by
    rw [same_eq _ _ _ _ _ _ _ _ _ _ _ ha (by omega)]
    exact congrArg some (decide_eq_decide.2 (eq_iff a b))
  have hsym : decide (j = i) = decide (i = j) := decide_eq_decide.2 eq_comm
  rw [hsame i i (by omega), hsame i j (by omega), hsame j i (by omega), hsym]
  have hput : ∀ a : Ins, Cok a → ∃ b e, instr_Put.f 200 [] a.op a.a a.b a.c a.ls = some (b, e) ∧ (e = 0 → San a ∧ b = enc a) := fun a ha => by
    by_cases hs : San a
    · exact ⟨enc a, 0, by rw [put_yes (by omega) (by omega) hs ha (by simp)]; rfl, fun _ => ⟨hs, rfl⟩⟩
    · exact ⟨[], 1, put_no (by omega) (by omega) hs, fun h => absurd h (by decide)⟩
  obtain ⟨b, e, hb, hb2⟩ := hput i hci
  obtain ⟨c, f, hc, hc2⟩ := hput j hcj
  rw [hb, hc, Option.bind_some, Option.bind_some, Option.bind_some, decide_eq_true rfl, if_pos rfl, Option.bind_some, Option.bind_some, if_neg (by simp), if_pos rfl]
  dsimp only
  by_cases he : e = 0
  · rw [if_pos he]
    by_cases hf : f = 0
    · rw [if_pos hf, Option.bind_some]
      obtain ⟨si, rfl⟩ := hb2 he
      obtain ⟨sj, rfl⟩ := hc2 hf
      congr 1
      have h7 := strOf_inj (enc_bs si hci) (enc_bs sj hcj)
      by_cases h8 : i = j
      · subst h8
        simp
      · have h9 : ¬ (strOfNums (enc i)).toList = (strOfNums (enc j)).toList := fun h => h8 (enc_inj si hci sj hcj (h7.1 h))
        rw [decide_eq_false h8]
        simpa using h9
    · rw [if_neg hf]
  · rw [if_neg he]
end Go.Proofs.YtklnkkejkeelaaaDoor.X
