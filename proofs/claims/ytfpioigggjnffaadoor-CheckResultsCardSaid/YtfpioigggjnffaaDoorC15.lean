/- C15, C16, C17, C18, C19, C20, C21, C22, C28, T08, C29. -/
import Derived.Test.YtfpioigggjnffaaDoorQ8
import Derived.Test.YtfpioigggjnffaaDoorN4
import Derived.Test.YtfpioigggjnffaaDoorQ17
set_option linter.unnecessarySimpa false
set_option linter.unusedSimpArgs false
set_option linter.unusedVariables false
/- Chapter 10, plain: what fits where it is not dead fits where it is, and upon anything (CheckMore: begun). -/
set_option autoImplicit false
namespace Go.Proofs.YtfpioigggjnffaaDoor.E
open Go.Ev

theorem popV_mono {h : Int} {d d' : Bool} (hd : d = true → d' = true) {v : List Int} {r : Int × List Int} (e : popV h d v = .ok r) : popV h d' v = .ok r := by
  unfold popV at e ⊢
  by_cases hlt : h < v.length
  · rw [if_pos hlt] at e ⊢; exact e
  · rw [if_neg hlt] at e ⊢
    cases d with
    | false => simp at e
    | true => rw [hd rfl]; exact e
theorem wantV_mono {h : Int} {d d' : Bool} (hd : d = true → d' = true) {l v v' : List Int} (e : wantV h d l v = .ok v') : wantV h d' l v = .ok v' := by
  induction l generalizing v with
  | nil => exact e
  | cons t l ih =>
    simp only [wantV] at e ⊢
    cases hp : popV h d v with
    | error x => rw [hp] at e; cases e
    | ok r =>
      rw [popV_mono hd hp]
      rw [hp] at e
      simp only at e ⊢
      split at e
      · cases e
      · rename_i hn; rw [if_neg hn]; exact ih e
/-- The same upon anything of height nought, the first one of other results, or dead. -/
def Rel (pre : List Ctl) (f : List Int) (s s' : Stk) : Prop :=
  ∃ d d' rest, s.ctrls = ⟨2, [], 0, d⟩ :: rest ∧ s'.ctrls = pre ++ ⟨2, f, 0, d'⟩ :: rest ∧ s'.vals = s.vals ∧ (d = true → d' = true)
variable {pre : List Ctl} {f : List Int}
theorem Rel.sane {s s' : Stk} (hp : risesB 0 pre = some 0) (hf : finB f = true) (h : Rel pre f s s') (hs : saneS s = true) : saneS s' = true := by
  obtain ⟨d, d', rest, h1, h2, h3, _⟩ := h
  obtain ⟨m, hr, hm, ht⟩ := (saneS_iff s).1 hs
  refine (saneS_iff s').2 ⟨m, ?_, by rw [h3]; exact hm, by rw [h3]; exact ht⟩
  rw [h1] at hr
  rw [h2, risesB_append, hp]
  simp only [risesB] at hr ⊢
  rw [hf]
  simpa [finB] using hr
theorem Rel.top {s s' : Stk} {c : Ctl} (hp : risesB 0 pre = some 0) (hf : finB f = true) (h : Rel pre f s s') (e : topC s = .ok c) :
    ∃ c', topC s' = .ok c' ∧ c'.ht = c.ht ∧ (c.dead = true → c'.dead = true) := by
  obtain ⟨hs, hc⟩ := topC_ok e
  have hs' := h.sane hp hf hs
  obtain ⟨d, d', rest, h1, h2, h3, h4⟩ := h
  rw [h1] at hc
  have h5 : s'.ctrls.getLast? = (⟨2, f, 0, d'⟩ :: rest : List Ctl).getLast? := by rw [h2, List.getLast?_append]; simp [List.getLast?_cons]
  unfold topC
  rw [hs', h5]
  cases rest with
  | nil =>
    have hcc : c = ⟨2, [], 0, d⟩ := by simpa using hc.symm
    subst hcc
    exact ⟨⟨2, f, 0, d'⟩, rfl, rfl, h4⟩
  | cons a r =>
    rw [List.getLast?_cons_cons] at hc ⊢
    rw [hc]
    exact ⟨c, rfl, rfl, id⟩
theorem Rel.want {s s' t : Stk} {l : List Int} (hp : risesB 0 pre = some 0) (hf : finB f = true) (h : Rel pre f s s') (e : wantS s l = .ok t) : ∃ t', wantS s' l = .ok t' ∧ Rel pre f t t' := by
  unfold wantS at e ⊢
  by_cases hl : l.isEmpty = true
  · cases hs : saneS s with
    | true =>
      rw [hs, hl] at e
      rw [h.sane hp hf hs, hl]
      cases e; exact ⟨s', rfl, h⟩
    | false =>
      rw [hs] at e
      have : topC s = .error 1 := by unfold topC; rw [hs]; rfl
      rw [this] at e; cases e
  · have hl' : l.isEmpty = false := by simpa using hl
    rw [hl', Bool.and_false] at e ⊢
    simp only [Bool.false_eq_true, if_false] at e ⊢
    cases ht : topC s with
    | error x => rw [ht] at e; cases e
    | ok c =>
      obtain ⟨c', h1, h2, h3⟩ := h.top hp hf ht
      rw [ht] at e
      rw [h1]
      simp only at e ⊢
      cases hw : wantV c.ht c.dead l.reverse s.vals with
      | error x => rw [hw] at e; cases e
      | ok v =>
        rw [hw] at e
        cases e
        obtain ⟨d, d', rest, g1, g2, g3, g4⟩ := h
        rw [h2, g3, wantV_mono h3 hw]
        exact ⟨_, rfl, d, d', rest, g1, g2, rfl, g4⟩
end Go.Proofs.YtfpioigggjnffaaDoor.E

/- Chapter 10, plain: CheckMore's relation under each thing done to a stack. -/
set_option autoImplicit false
namespace Go.Proofs.YtfpioigggjnffaaDoor.E
open Go.Ev
variable {pre : List Ctl} {f : List Int}

theorem Rel.push {s s' t : Stk} {l : List Int} (hp : risesB 0 pre = some 0) (hf : finB f = true) (h : Rel pre f s s') (e : pushS s l = .ok t) : ∃ t', pushS s' l = .ok t' ∧ Rel pre f t t' := by
  unfold pushS at e ⊢
  split at e
  · cases e
  · rename_i hn
    simp only [Bool.or_eq_true, Bool.not_eq_true', not_or, Bool.not_eq_false] at hn
    cases e
    rw [h.sane hp hf hn.1, hn.2]
    obtain ⟨d, d', rest, g1, g2, g3, g4⟩ := h
    exact ⟨_, rfl, d, d', rest, g1, g2, by simp only; rw [g3], g4⟩
theorem Rel.pop {s s' t : Stk} {x : Int} (hp : risesB 0 pre = some 0) (hf : finB f = true) (h : Rel pre f s s') (e : popS s = .ok (x, t)) : ∃ t', popS s' = .ok (x, t') ∧ Rel pre f t t' := by
  unfold popS at e ⊢
  cases ht : topC s with
  | error x => rw [ht] at e; cases e
  | ok c =>
    obtain ⟨c', h1, h2, h3⟩ := h.top hp hf ht
    rw [ht] at e
    rw [h1]
    simp only at e ⊢
    cases hw : popV c.ht c.dead s.vals with
    | error x => rw [hw] at e; cases e
    | ok r =>
      obtain ⟨y, v⟩ := r
      rw [hw] at e
      cases e
      obtain ⟨d, d', rest, g1, g2, g3, g4⟩ := h
      rw [h2, g3, popV_mono h3 hw]
      exact ⟨_, rfl, d, d', rest, g1, g2, rfl, g4⟩
theorem Rel.open {s s' t : Stk} {op : Int} {l : List Int} (hp : risesB 0 pre = some 0) (hf : finB f = true) (h : Rel pre f s s') (e : openS s op l = .ok t) : ∃ t', openS s' op l = .ok t' ∧ Rel pre f t t' := by
  unfold openS at e ⊢
  split at e
  · cases e
  · rename_i hn
    simp only [Bool.or_eq_true, Bool.not_eq_true', not_or, Bool.not_eq_false] at hn
    cases e
    rw [h.sane hp hf hn.1, hn.2]
    obtain ⟨d, d', rest, g1, g2, g3, g4⟩ := h
    refine ⟨_, rfl, d, d', rest ++ [⟨op, l, s.vals.length, false⟩], by simp only; rw [g1]; rfl, ?_, by simp only; rw [g3], g4⟩
    simp only [g2, g3, List.append_assoc, List.cons_append]
theorem Rel.kill {s s' t : Stk} (hp : risesB 0 pre = some 0) (hf : finB f = true) (h : Rel pre f s s') (e : killS s = .ok t) : ∃ t', killS s' = .ok t' ∧ Rel pre f t t' := by
  unfold killS at e ⊢
  cases ht : topC s with
  | error x => rw [ht] at e; cases e
  | ok c =>
    obtain ⟨c', h1, h2, h3⟩ := h.top hp hf ht
    have hl := (topC_ok ht).2
    have hl' := (topC_ok h1).2
    rw [ht] at e
    rw [h1]
    cases e
    obtain ⟨d, d', rest, g1, g2, g3, g4⟩ := h
    rw [g1] at hl
    rw [g2, List.getLast?_append] at hl'
    refine ⟨_, rfl, ?_⟩
    cases rest with
    | nil =>
      have e1 : c = ⟨2, [], 0, d⟩ := by simpa using hl.symm
      have e2 : c' = ⟨2, f, 0, d'⟩ := by simpa using hl'.symm
      subst e1; subst e2
      exact ⟨true, true, [], by simp only; rw [g1]; rfl, by simp only; rw [g2, List.dropLast_append_of_ne_nil (by simp)]; simp, by simp only; rw [g3], id⟩
    | cons a r =>
      have e1 : c' = c := by
        have h5 : (⟨2, f, 0, d'⟩ :: a :: r : List Ctl).getLast? = (⟨2, [], 0, d⟩ :: a :: r : List Ctl).getLast? := by rw [List.getLast?_cons_cons, List.getLast?_cons_cons]
        rw [h5, hl] at hl'
        simpa using hl'.symm
      subst e1
      refine ⟨d, d', (a :: r).dropLast ++ [{ c' with dead := true }], by simp only; rw [g1]; rfl, ?_, by simp only; rw [g3], g4⟩
      simp only
      rw [g2, List.dropLast_append_of_ne_nil (by simp)]
      simp
end Go.Proofs.YtfpioigggjnffaaDoor.E

/- Chapter 10, plain: CheckMore's relation where something is closed. -/
set_option autoImplicit false
namespace Go.Proofs.YtfpioigggjnffaaDoor.E
open Go.Ev
variable {pre : List Ctl} {f : List Int}

theorem Rel.close {s s' t : Stk} {c : Ctl} (hp : risesB 0 pre = some 0) (hf : finB f = true) (h : Rel pre f s s') (h1 : 1 < s.ctrls.length) (e : closeS s = .ok (c, t)) : ∃ t', closeS s' = .ok (c, t') ∧ Rel pre f t t' := by
  unfold closeS at e ⊢
  cases ht : topC s with
  | error x => rw [ht] at e; cases e
  | ok k =>
    obtain ⟨c', k1, k2, k3⟩ := h.top hp hf ht
    have hl := (topC_ok ht).2
    have hl' := (topC_ok k1).2
    rw [ht] at e
    rw [k1]
    obtain ⟨d, d', rest, g1, g2, g3, g4⟩ := h
    rw [g1] at hl h1
    rw [g2, List.getLast?_append] at hl'
    cases rest with
    | nil => simp at h1
    | cons a r =>
      have e1 : k = c' := by
        have h5 : (⟨2, f, 0, d'⟩ :: a :: r : List Ctl).getLast? = (⟨2, [], 0, d⟩ :: a :: r : List Ctl).getLast? := by rw [List.getLast?_cons_cons, List.getLast?_cons_cons]
        rw [h5, hl] at hl'
        simpa using hl'
      subst e1
      simp only at e ⊢
      rw [g3]
      cases hw : wantV k.ht k.dead k.fin.reverse s.vals with
      | error x => rw [hw] at e; cases e
      | ok v =>
        rw [hw] at e
        simp only at e ⊢
        split at e
        · cases e
        · rename_i hv
          rw [if_neg hv]
          cases e
          refine ⟨_, rfl, d, d', (a :: r).dropLast, by simp only; rw [g1]; rfl, ?_, rfl, g4⟩
          simp only
          rw [g2, List.dropLast_append_of_ne_nil (by simp)]
          rfl
/-- what is open at first alone is closed: where it is dead, whatever is wanted -/
theorem Rel.closeDead {v : List Int} (hv : typesB v = true) (hf : finB f = true) (hl : v = []) : closeS ⟨v, [⟨2, f, 0, true⟩]⟩ = .ok (⟨2, f, 0, true⟩, ⟨[], []⟩) := by
  subst hl
  match f, hf with
  | [], _ => rfl
  | [x], hf =>
    have : topC ⟨[], [⟨2, [x], 0, true⟩]⟩ = .ok ⟨2, [x], 0, true⟩ := by simp [topC, saneS, risesB, hf, typesB]
    simp [closeS, this, wantV, popV]
end Go.Proofs.YtfpioigggjnffaaDoor.E

/- Chapter 10, plain: CheckMore's relation, with the first error. -/
set_option autoImplicit false
namespace Go.Proofs.YtfpioigggjnffaaDoor.E
open Go.Ev
variable {pre : List Ctl} {f : List Int}

def RelW (pre : List Ctl) (f : List Int) (w w' : WkS) : Prop := w.e = 0 → w'.e = 0 ∧ Rel pre f w.s w'.s
theorem put_ok {w : WkS} {s : Stk} (h : w.e = 0) : w.put (.ok s) = ⟨s, 0⟩ := by unfold WkS.put; rw [if_neg (by omega)]
theorem RelW.put {w w' : WkS} {r r' : Except Int Stk} (h : RelW pre f w w') (hr : ∀ t, w.e = 0 → r = .ok t → Rel pre f w.s w'.s → ∃ t', r' = .ok t' ∧ Rel pre f t t') (he : ∀ e, r = .error e → e ≠ 0) : RelW pre f (w.put r) (w'.put r') := by
  intro h0
  obtain ⟨a, s, e1, e2⟩ := put_e0 he h0
  obtain ⟨b, hR⟩ := h a
  obtain ⟨t', e3, hR'⟩ := hr s a e1 hR
  rw [e3, put_ok b, e2]
  exact ⟨rfl, hR'⟩
theorem RelW.want {w w' : WkS} (hp : risesB 0 pre = some 0) (hf : finB f = true) (h : RelW pre f w w') {l l' : List Int} (hl : w.e = 0 → l = l') : RelW pre f (w.want l) (w'.want l') :=
  h.put (fun _ h0 e hR => by rw [← hl h0]; exact hR.want hp hf e) (fun _ x => by have := wantS_err x; omega)
theorem RelW.push {w w' : WkS} (hp : risesB 0 pre = some 0) (hf : finB f = true) (h : RelW pre f w w') {l l' : List Int} (hl : w.e = 0 → l = l') : RelW pre f (w.push l) (w'.push l') :=
  h.put (fun _ h0 e hR => by rw [← hl h0]; exact hR.push hp hf e) (fun _ x => by have := pushS_err x; omega)
theorem RelW.opens {w w' : WkS} (hp : risesB 0 pre = some 0) (hf : finB f = true) (h : RelW pre f w w') (op : Int) {l l' : List Int} (hl : w.e = 0 → l = l') : RelW pre f (w.opens op l) (w'.opens op l') :=
  h.put (fun _ h0 e hR => by rw [← hl h0]; exact hR.open hp hf e) (fun _ x => by have := openS_err x; omega)
theorem RelW.kill {w w' : WkS} (hp : risesB 0 pre = some 0) (hf : finB f = true) (h : RelW pre f w w') : RelW pre f w.kill w'.kill :=
  h.put (fun _ _ e hR => hR.kill hp hf e) (fun _ x => by have := killS_err x; omega)
theorem RelW.must {w w' : WkS} (h : RelW pre f w w') {b b' : Bool} (hb : w.e = 0 → b = true → b' = true) {e : Int} (he : e ≠ 0) : RelW pre f (w.must b e) (w'.must b' e) := by
  intro h0
  obtain ⟨h1, h2⟩ := must_e0 he h0
  have h3 := must_true he h0
  obtain ⟨h4, h5⟩ := h h1
  have : w'.must b' e = w' := by unfold WkS.must; rw [hb h1 h3]; rfl
  rw [this, h2]; exact ⟨h4, h5⟩
theorem RelW.pop {w w' : WkS} (hp : risesB 0 pre = some 0) (hf : finB f = true) (h : RelW pre f w w') : RelW pre f w.pop.2 w'.pop.2 ∧ (w.pop.2.e = 0 → w.pop.1 = w'.pop.1) := by
  have key : w.pop.2.e = 0 → w.e = 0 ∧ ∃ x t, popS w.s = .ok (x, t) := fun h0 => by
    unfold WkS.pop at h0
    cases hq : popS w.s with
    | ok r =>
      obtain ⟨x, t⟩ := r
      rw [hq] at h0
      exact ⟨(put_e0 (fun _ x => by cases x) h0).1, x, t, rfl⟩
    | error e =>
      rw [hq] at h0
      obtain ⟨_, s, e1, _⟩ := put_e0 (fun e' x => by cases x; have := popS_err hq; omega) h0
      cases e1
  have both : w.pop.2.e = 0 → (w'.pop.2.e = 0 ∧ Rel pre f w.pop.2.s w'.pop.2.s) ∧ w.pop.1 = w'.pop.1 := fun h0 => by
    obtain ⟨a, x, t, hq⟩ := key h0
    obtain ⟨b, hR⟩ := h a
    obtain ⟨t', hq', hR'⟩ := hR.pop hp hf hq
    unfold WkS.pop
    rw [hq, hq']
    simp only
    rw [put_ok a, put_ok b]
    exact ⟨⟨rfl, hR'⟩, trivial⟩
  exact ⟨fun h0 => (both h0).1, fun h0 => (both h0).2⟩
theorem RelW.closed {w w' : WkS} (hp : risesB 0 pre = some 0) (hf : finB f = true) (h : RelW pre f w w') (h1 : w.e = 0 → 1 < w.s.ctrls.length) : RelW pre f w.closed.2 w'.closed.2 ∧ (w.closed.2.e = 0 → w.closed.1 = w'.closed.1) := by
  have key : w.closed.2.e = 0 → w.e = 0 ∧ ∃ x t, closeS w.s = .ok (x, t) := fun h0 => by
    unfold WkS.closed at h0
    cases hq : closeS w.s with
    | ok r =>
      obtain ⟨x, t⟩ := r
      rw [hq] at h0
      exact ⟨(put_e0 (fun _ x => by cases x) h0).1, x, t, rfl⟩
    | error e =>
      rw [hq] at h0
      obtain ⟨_, s, e1, _⟩ := put_e0 (fun e' x => by cases x; have := closeS_err hq; omega) h0
      cases e1
  have both : w.closed.2.e = 0 → (w'.closed.2.e = 0 ∧ Rel pre f w.closed.2.s w'.closed.2.s) ∧ w.closed.1 = w'.closed.1 := fun h0 => by
    obtain ⟨a, x, t, hq⟩ := key h0
    obtain ⟨b, hR⟩ := h a
    obtain ⟨t', hq', hR'⟩ := hR.close hp hf (h1 a) hq
    unfold WkS.closed
    rw [hq, hq']
    simp only
    rw [put_ok a, put_ok b]
    exact ⟨⟨rfl, hR'⟩, trivial⟩
  exact ⟨fun h0 => (both h0).1, fun h0 => (both h0).2⟩
end Go.Proofs.YtfpioigggjnffaaDoor.E

/- Chapter 10, plain: CheckMore's relation under an instruction that is no branch. -/
set_option autoImplicit false
namespace Go.Proofs.YtfpioigggjnffaaDoor.E
open Go.Ev
variable {pre : List Ctl} {f : List Int} {acc : Int → Int × Int × Bool} {shape : Int → Option (List Int × Int)} {env env' : TEnv}

/-- The same to name, other results. -/
structure SameEnv (a b : TEnv) : Prop where
  types : b.types = a.types
  funcs : b.funcs = a.funcs
  tables : b.tables = a.tables
  mems : b.mems = a.mems
  globals : b.globals = a.globals
  locs : b.locs = a.locs
theorem Rel.topIf {s s' : Stk} (h : Rel pre f s s') (e : topIf s = true) : topIf s' = true ∧ 1 < s.ctrls.length := by
  obtain ⟨d, d', rest, g1, g2, _, _⟩ := h
  unfold Go.Proofs.YtfpioigggjnffaaDoor.E.topIf at e ⊢
  rw [g1] at e ⊢
  cases rest with
  | nil => simp at e
  | cons a r =>
    rw [List.getLast?_cons_cons] at e
    refine ⟨?_, by simp⟩
    have : s'.ctrls.getLast? = (a :: r).getLast? := by
      rw [g2, List.getLast?_append, List.getLast?_cons_cons]
      cases hh : (a :: r).getLast? with
      | none => simp at hh
      | some x => rfl
    rw [this]; exact e
theorem RelW.nested {w w' : WkS} (hp : risesB 0 pre = some 0) (hf : finB f = true) (h : RelW pre f w w') (i : TInstr) : RelW pre f (nestedS w i) (nestedS w' i) := by
  unfold nestedS
  by_cases h4 : i.op = 4
  · rw [if_pos h4, if_pos h4]; exact (h.want hp hf fun _ => rfl).opens hp hf _ fun _ => rfl
  · rw [if_neg h4, if_neg h4]
    by_cases h5 : i.op = 5
    · rw [if_pos h5, if_pos h5]
      have hm : RelW pre f (w.must (topIf w.s) 5) (w'.must (topIf w'.s) 5) := h.must (fun h0 hb => ((h h0).2.topIf hb).1) (by decide)
      have hc := hm.closed hp hf (fun h0 => by
        obtain ⟨h1, h2⟩ := must_e0 (by decide) h0
        rw [h2]; exact ((h h1).2.topIf (must_true (by decide) h0)).2)
      exact hc.1.opens hp hf _ fun h0 => by rw [hc.2 h0]
    · rw [if_neg h5, if_neg h5]
      by_cases h11 : i.op = 11
      · rw [if_pos h11, if_pos h11]
        have hm : RelW pre f (w.must (decide (1 < w.s.ctrls.length)) 5) (w'.must (decide (1 < w'.s.ctrls.length)) 5) := h.must (fun h0 hb => by
          obtain ⟨d, d', rest, g1, g2, _, _⟩ := (h h0).2
          rw [g1] at hb; rw [g2]
          simp only [decide_eq_true_eq, List.length_append, List.length_cons] at hb ⊢
          omega) (by decide)
        have hc := hm.closed hp hf (fun h0 => by
          obtain ⟨h1, h2⟩ := must_e0 (by decide) h0
          rw [h2]; simpa using must_true (by decide) h0)
        refine RelW.push hp hf (hc.1.must (fun h0 hb => by rw [← hc.2 h0]; exact hb) (by decide)) fun h0 => ?_
        rw [hc.2 (must_e0 (by decide) h0).1]
      · rw [if_neg h11, if_neg h11]; exact h.opens hp hf _ fun _ => rfl
theorem RelW.call {w w' : WkS} (hp : risesB 0 pre = some 0) (hf : finB f = true) (he : SameEnv env env') (h : RelW pre f w w') (i : TInstr) : RelW pre f (callS env w i) (callS env' w' i) := by
  have ht : typeS env' i.a = typeS env i.a := by unfold typeS; rw [he.funcs, he.types]
  unfold callS
  simp only
  rw [he.tables, he.types, ht]
  refine RelW.push hp hf (RelW.want hp hf ?_ fun _ => rfl) fun _ => rfl
  by_cases h17 : i.op = 17
  · rw [if_pos h17, if_pos h17, if_pos h17]; exact (h.must (fun _ x => x) (by decide)).want hp hf fun _ => rfl
  · rw [if_neg h17, if_neg h17, if_neg h17]; exact h.must (fun _ x => x) (by decide)
theorem RelW.chosen {w w' : WkS} (hp : risesB 0 pre = some 0) (hf : finB f = true) (h : RelW pre f w w') (i : TInstr) : RelW pre f (chosenS w i) (chosenS w' i) := by
  unfold chosenS
  by_cases h26 : i.op = 26
  · rw [if_pos h26, if_pos h26]; exact (h.pop hp hf).1
  · rw [if_neg h26, if_neg h26]
    simp only
    have h1 := (h.want hp hf (l := [127]) (l' := [127]) fun _ => rfl).pop hp hf
    have h2 := h1.1.pop hp hf
    have hb : ∀ h0 : ((w.want [127]).pop.2.pop.2).e = 0, (w.want [127]).pop.1 = (w'.want [127]).pop.1 ∧ (w.want [127]).pop.2.pop.1 = (w'.want [127]).pop.2.pop.1 := fun h0 => by
      refine ⟨h1.2 ?_, h2.2 h0⟩
      unfold WkS.pop at h0
      cases hq : popS (w.want [127]).pop.2.s with
      | ok r =>
        obtain ⟨x, t⟩ := r
        unfold WkS.pop at hq ⊢
        rw [hq] at h0
        exact (put_e0 (fun _ x => by cases x) h0).1
      | error e =>
        unfold WkS.pop at hq
        rw [hq] at h0
        obtain ⟨_, s, e1, _⟩ := put_e0 (fun e' x => by cases x; have := popS_err hq; omega) h0
        cases e1
    refine RelW.push hp hf (h2.1.must (fun h0 x => by rw [← (hb h0).1, ← (hb h0).2]; exact x) (by decide)) fun h0 => ?_
    have h3 := (must_e0 (by decide) h0).1
    rw [(hb h3).1, (hb h3).2]
end Go.Proofs.YtfpioigggjnffaaDoor.E

/- Chapter 10, plain: CheckMore's relation along a body without a branch. -/
set_option autoImplicit false
namespace Go.Proofs.YtfpioigggjnffaaDoor.E
open Go.Ev
variable {pre : List Ctl} {f : List Int} {acc : Int → Int × Int × Bool} {shape : Int → Option (List Int × Int)} {env env' : TEnv} {sane : TInstr → Bool}

theorem RelW.vars {w w' : WkS} (hp : risesB 0 pre = some 0) (hf : finB f = true) (he : SameEnv env env') (h : RelW pre f w w') (i : TInstr) : RelW pre f (variableS env w i) (variableS env' w' i) := by
  have key : ∀ r r' : Int × WkS, RelW pre f r.2 r'.2 ∧ r.1 = r'.1 → RelW pre f
      (if i.op = 32 ∨ i.op = 34 ∨ i.op = 35 then (if i.op ≠ 32 ∧ i.op ≠ 35 then r.2.want [r.1] else r.2).push [r.1] else (if i.op ≠ 32 ∧ i.op ≠ 35 then r.2.want [r.1] else r.2))
      (if i.op = 32 ∨ i.op = 34 ∨ i.op = 35 then (if i.op ≠ 32 ∧ i.op ≠ 35 then r'.2.want [r'.1] else r'.2).push [r'.1] else (if i.op ≠ 32 ∧ i.op ≠ 35 then r'.2.want [r'.1] else r'.2)) := fun r r' ⟨hr, hx⟩ => by
    rw [hx]
    have h1 : RelW pre f (if i.op ≠ 32 ∧ i.op ≠ 35 then r.2.want [r'.1] else r.2) (if i.op ≠ 32 ∧ i.op ≠ 35 then r'.2.want [r'.1] else r'.2) := by
      by_cases hc : i.op ≠ 32 ∧ i.op ≠ 35
      · rw [if_pos hc, if_pos hc]; exact hr.want hp hf fun _ => rfl
      · rw [if_neg hc, if_neg hc]; exact hr
    by_cases hc : i.op = 32 ∨ i.op = 34 ∨ i.op = 35
    · rw [if_pos hc, if_pos hc]; exact h1.push hp hf fun _ => rfl
    · rw [if_neg hc, if_neg hc]; exact h1
  unfold variableS
  simp only
  refine key _ _ ?_
  rw [he.locs, he.globals]
  by_cases hc : i.op ≤ 34
  · rw [if_pos hc, if_pos hc]
    cases env.locs[i.a.toNat]? with
    | some t => exact ⟨h, rfl⟩
    | none => exact ⟨h.must (fun _ x => x) (by decide), rfl⟩
  · rw [if_neg hc, if_neg hc]
    cases env.globals[i.a.toNat]? with
    | some t => exact ⟨h.must (fun _ x => x) (by decide), rfl⟩
    | none => exact ⟨h.must (fun _ x => x) (by decide), rfl⟩
theorem RelW.mem {w w' : WkS} (hp : risesB 0 pre = some 0) (hf : finB f = true) (he : SameEnv env env') (h : RelW pre f w w') (i : TInstr) : RelW pre f (memoryS acc env w i) (memoryS acc env' w' i) := by
  unfold memoryS
  simp only
  rw [he.mems]
  have hm : RelW pre f (w.must (decide (0 < env.mems)) 6) (w'.must (decide (0 < env.mems)) 6) := h.must (fun _ x => x) (by decide)
  by_cases h63 : i.op = 63
  · rw [if_pos h63, if_pos h63]; exact hm.push hp hf fun _ => rfl
  · rw [if_neg h63, if_neg h63]
    by_cases h64 : i.op = 64
    · rw [if_pos h64, if_pos h64]; exact (hm.want hp hf fun _ => rfl).push hp hf fun _ => rfl
    · rw [if_neg h64, if_neg h64]
      have hn := hm.must (b := decide (i.a ≤ 3) && decide ((2 : Int) ^ i.a.toNat ≤ (acc i.op).2.1)) (fun _ x => x) (e := 5) (by decide)
      cases (acc i.op).2.2 with
      | true => exact hn.want hp hf fun _ => rfl
      | false => exact (hn.want hp hf fun _ => rfl).push hp hf fun _ => rfl
theorem goS_rel {s s' : Stk} {i : TInstr} (hp : risesB 0 pre = some 0) (hf : finB f = true) (he : SameEnv env env') (hR : Rel pre f s s') (hi : i.op ≤ 5 ∨ i.op = 11 ∨ 15 < i.op) : RelW pre f (goS acc shape env s i) (goS acc shape env' s' i) := by
  have h : RelW pre f ⟨s, 0⟩ ⟨s', 0⟩ := fun _ => ⟨rfl, hR⟩
  unfold goS
  simp only
  by_cases c0 : i.op = 0
  · rw [if_pos c0, if_pos c0]; exact h.kill hp hf
  rw [if_neg c0, if_neg c0]
  by_cases c1 : i.op = 1
  · rw [if_pos c1, if_pos c1]; exact h
  rw [if_neg c1, if_neg c1]
  by_cases c5 : i.op ≤ 5 ∨ i.op = 11
  · rw [if_pos c5, if_pos c5]; exact h.nested hp hf i
  rw [if_neg c5, if_neg c5]
  by_cases c15 : i.op ≤ 15
  · omega
  rw [if_neg c15, if_neg c15]
  by_cases c17 : i.op ≤ 17
  · rw [if_pos c17, if_pos c17]; exact h.call hp hf he i
  rw [if_neg c17, if_neg c17]
  by_cases c27 : i.op ≤ 27
  · rw [if_pos c27, if_pos c27]; exact h.chosen hp hf i
  rw [if_neg c27, if_neg c27]
  by_cases c36 : i.op ≤ 36
  · rw [if_pos c36, if_pos c36]; exact h.vars hp hf he i
  rw [if_neg c36, if_neg c36]
  by_cases c64 : i.op ≤ 64
  · rw [if_pos c64, if_pos c64]; exact h.mem hp hf he i
  rw [if_neg c64, if_neg c64]
  by_cases c65 : i.op = 65
  · rw [if_pos c65, if_pos c65]; exact h.push hp hf fun _ => rfl
  rw [if_neg c65, if_neg c65]
  by_cases c66 : i.op = 66
  · rw [if_pos c66, if_pos c66]; exact h.push hp hf fun _ => rfl
  rw [if_neg c66, if_neg c66]
  cases shape i.op with
  | none => exact h
  | some r => exact (h.want hp hf fun _ => rfl).push hp hf fun _ => rfl
end Go.Proofs.YtfpioigggjnffaaDoor.E

/- Chapter 10, plain: CheckMore's relation along a path. -/
set_option autoImplicit false
namespace Go.Proofs.YtfpioigggjnffaaDoor.E
open Go.Ev
variable {pre : List Ctl} {f : List Int} {acc : Int → Int × Int × Bool} {shape : Int → Option (List Int × Int)} {env env' : TEnv} {sane : TInstr → Bool}

theorem stepS_rel {s s' t : Stk} {i : TInstr} (hp : risesB 0 pre = some 0) (hf : finB f = true) (he : SameEnv env env') (hR : Rel pre f s s') (hi : i.op ≤ 5 ∨ i.op = 11 ∨ 15 < i.op) (e : stepS sane acc shape env s i = .ok t) :
    ∃ t', stepS sane acc shape env' s' i = .ok t' ∧ Rel pre f t t' := by
  obtain ⟨h1, h2, h3, h4⟩ := stepS_parts e
  obtain ⟨h5, h6⟩ := goS_rel (acc := acc) (shape := shape) hp hf he hR hi h3
  refine ⟨(goS acc shape env' s' i).s, ?_, by rw [← h4]; exact h6⟩
  unfold stepS
  rw [hR.sane hp hf h1, h2]
  simp only [Bool.not_true, Bool.or_self, Bool.false_eq_true, if_false]
  rw [if_neg (by omega)]
theorem pathS_rel {l : List TInstr} {s s' : Stk} {p : List Stk} (hp : risesB 0 pre = some 0) (hf : finB f = true) (he : SameEnv env env') (hi : ∀ i ∈ l, i.op ≤ 5 ∨ i.op = 11 ∨ 15 < i.op) (hR : Rel pre f s s') (e : pathS sane acc shape env s l = .ok p) :
    ∃ p', pathS sane acc shape env' s' l = .ok p' ∧ ∃ t t', p.getLast? = some t ∧ p'.getLast? = some t' ∧ Rel pre f t t' := by
  induction l generalizing s s' p with
  | nil => cases e; exact ⟨_, rfl, s, s', rfl, rfl, hR⟩
  | cons i l ih =>
    obtain ⟨t, q, hs, hq, rfl⟩ := pathS_cons e
    obtain ⟨t', hs', hR'⟩ := stepS_rel hp hf he hR (hi i (List.mem_cons_self ..)) hs
    obtain ⟨q', hq', x, x', e1, e2, e3⟩ := ih (fun j hj => hi j (List.mem_cons_of_mem _ hj)) hR' hq
    refine ⟨s' :: q', by simp only [pathS, hs', hq'], x, x', ?_, ?_, e3⟩
    · rw [List.getLast?_cons, e1]; rfl
    · rw [List.getLast?_cons, e2]; rfl
end Go.Proofs.YtfpioigggjnffaaDoor.E

/- Chapter 10, plain: CheckMore's relation where nothing is put below: branches too. -/
set_option autoImplicit false
namespace Go.Proofs.YtfpioigggjnffaaDoor.E
open Go.Ev
variable {acc : Int → Int × Int × Bool} {shape : Int → Option (List Int × Int)} {env : TEnv} {sane : TInstr → Bool}

theorem labelS_err {s : Stk} {n e : Int} (x : labelS s n = .error e) : e ≠ 0 := by
  unfold labelS at x
  split at x
  · cases x; decide
  · split at x
    · cases x; decide
    · split at x
      · cases x; decide
      · cases x
theorem label_e0 {w : WkS} {n : Int} (h : (w.label n).2.e = 0) : w.e = 0 ∧ ∃ l, labelS w.s n = .ok l ∧ w.label n = (l, w) := by
  unfold WkS.label at h ⊢
  cases hl : labelS w.s n with
  | ok l => rw [hl] at h; exact ⟨h, l, rfl, rfl⟩
  | error e =>
    rw [hl] at h
    exact absurd (must_true (labelS_err hl) h) (by decide)
theorem labels_e0 {w : WkS} {t l : List Int} (h : (labelsS w t l).e = 0) : w.e = 0 := by
  induction l generalizing w with
  | nil => exact h
  | cons n l ih => exact (label_e0 (must_e0 (by decide) (ih h)).1).1
theorem Rel.label {s s' : Stk} {n : Int} {l : List Int} (h : Rel [] [] s s') (e : labelS s n = .ok l) : labelS s' n = .ok l := by
  have hs : saneS s = true := by
    unfold labelS at e
    cases hh : saneS s with
    | true => rfl
    | false => rw [hh] at e; cases e
  have hs' := h.sane (pre := []) (f := []) rfl rfl hs
  obtain ⟨d, d', rest, g1, g2, _, _⟩ := h
  unfold labelS at e ⊢
  rw [hs] at e
  rw [hs']
  simp only [Bool.not_true, Bool.false_eq_true, if_false] at e ⊢
  rw [g1] at e
  rw [g2]
  simp only [List.nil_append, List.length_cons] at e ⊢
  split at e
  · cases e
  · rename_i hn
    rw [if_neg hn]
    generalize rest.length + 1 - 1 - n.toNat = k at e ⊢
    cases k with
    | zero => simpa using e
    | succ k => simpa using e
theorem RelW.label {w w' : WkS} (h : RelW [] [] w w') (n : Int) : RelW [] [] (w.label n).2 (w'.label n).2 ∧ ((w.label n).2.e = 0 → (w.label n).1 = (w'.label n).1) := by
  have both : (w.label n).2.e = 0 → ((w'.label n).2.e = 0 ∧ Rel [] [] (w.label n).2.s (w'.label n).2.s) ∧ (w.label n).1 = (w'.label n).1 := fun h0 => by
    obtain ⟨a, l, hl, e1⟩ := label_e0 h0
    obtain ⟨b, hR⟩ := h a
    have e2 : w'.label n = (l, w') := by unfold WkS.label; rw [hR.label hl]
    rw [e1, e2]
    exact ⟨⟨b, hR⟩, rfl⟩
  exact ⟨fun h0 => (both h0).1, fun h0 => (both h0).2⟩
theorem RelW.labels {w w' : WkS} {t t' l : List Int} (h : RelW [] [] w w') (ht : w.e = 0 → t = t') : RelW [] [] (labelsS w t l) (labelsS w' t' l) := by
  induction l generalizing w w' with
  | nil => exact h
  | cons n l ih =>
    simp only [labelsS]
    obtain ⟨h1, h2⟩ := h.label n
    refine ih (h1.must (fun h0 hb => ?_) (by decide)) fun h0 => ht (label_e0 (must_e0 (by decide) h0).1).1
    rw [← h2 h0, ← ht (label_e0 h0).1]; exact hb
theorem RelW.branch {w w' : WkS} (h : RelW [] [] w w') (i : TInstr) : RelW [] [] (branchS env w i) (branchS env w' i) := by
  unfold branchS
  by_cases h15 : i.op = 15
  · rw [if_pos h15, if_pos h15]; exact (h.want rfl rfl fun _ => rfl).kill rfl rfl
  · rw [if_neg h15, if_neg h15]
    simp only
    obtain ⟨h1, h2⟩ := h.label i.a
    have h3 := h1.labels (l := i.labels) h2
    have h4 : RelW [] [] (if i.op = 12 then labelsS (w.label i.a).2 (w.label i.a).1 i.labels else (labelsS (w.label i.a).2 (w.label i.a).1 i.labels).want [127])
        (if i.op = 12 then labelsS (w'.label i.a).2 (w'.label i.a).1 i.labels else (labelsS (w'.label i.a).2 (w'.label i.a).1 i.labels).want [127]) ∧
        ((if i.op = 12 then labelsS (w.label i.a).2 (w.label i.a).1 i.labels else (labelsS (w.label i.a).2 (w.label i.a).1 i.labels).want [127]).e = 0 → (w.label i.a).1 = (w'.label i.a).1) := by
      by_cases h12 : i.op = 12
      · rw [if_pos h12, if_pos h12]; exact ⟨h3, fun h0 => h2 (labels_e0 h0)⟩
      · rw [if_neg h12, if_neg h12]; exact ⟨h3.want rfl rfl fun _ => rfl, fun h0 => h2 (labels_e0 (want_e0 h0))⟩
    obtain ⟨h5, h6⟩ := h4
    generalize (if i.op = 12 then labelsS (w.label i.a).2 (w.label i.a).1 i.labels else (labelsS (w.label i.a).2 (w.label i.a).1 i.labels).want [127]) = x at *
    generalize (if i.op = 12 then labelsS (w'.label i.a).2 (w'.label i.a).1 i.labels else (labelsS (w'.label i.a).2 (w'.label i.a).1 i.labels).want [127]) = y at *
    by_cases h13 : i.op = 13
    · rw [if_pos h13, if_pos h13]; exact (h5.want rfl rfl h6).push rfl rfl fun h0 => h6 (want_e0 h0)
    · rw [if_neg h13, if_neg h13]; exact (h5.want rfl rfl h6).kill rfl rfl
theorem goS_rel0 {s s' : Stk} {i : TInstr} (hR : Rel [] [] s s') : RelW [] [] (goS acc shape env s i) (goS acc shape env s' i) := by
  by_cases hi : i.op ≤ 5 ∨ i.op = 11 ∨ 15 < i.op
  · exact goS_rel rfl rfl ⟨rfl, rfl, rfl, rfl, rfl, rfl⟩ hR hi
  · have h : RelW [] [] ⟨s, 0⟩ ⟨s', 0⟩ := fun _ => ⟨rfl, hR⟩
    unfold goS
    simp only
    have c0 : ¬ i.op = 0 := by omega
    have c1 : ¬ i.op = 1 := by omega
    have c5 : ¬ (i.op ≤ 5 ∨ i.op = 11) := by omega
    have c15 : i.op ≤ 15 := by omega
    rw [if_neg c0, if_neg c0, if_neg c1, if_neg c1, if_neg c5, if_neg c5, if_pos c15, if_pos c15]; exact h.branch i
theorem stepS_rel0 {s s' t : Stk} {i : TInstr} (hR : Rel [] [] s s') (e : stepS sane acc shape env s i = .ok t) : ∃ t', stepS sane acc shape env s' i = .ok t' ∧ Rel [] [] t t' := by
  obtain ⟨h1, h2, h3, h4⟩ := stepS_parts e
  obtain ⟨h5, h6⟩ := goS_rel0 (acc := acc) (shape := shape) (env := env) (i := i) hR h3
  refine ⟨(goS acc shape env s' i).s, ?_, by rw [← h4]; exact h6⟩
  unfold stepS
  rw [hR.sane (pre := []) (f := []) rfl rfl h1, h2]
  simp only [Bool.not_true, Bool.or_self, Bool.false_eq_true, if_false]
  rw [if_neg (by omega)]
theorem pathS_rel0 {l : List TInstr} {s s' : Stk} {p : List Stk} (hR : Rel [] [] s s') (e : pathS sane acc shape env s l = .ok p) :
    ∃ p', pathS sane acc shape env s' l = .ok p' ∧ ∃ t t', p.getLast? = some t ∧ p'.getLast? = some t' ∧ Rel [] [] t t' := by
  induction l generalizing s s' p with
  | nil => cases e; exact ⟨_, rfl, s, s', rfl, rfl, hR⟩
  | cons i l ih =>
    obtain ⟨t, q, hs, hq, rfl⟩ := pathS_cons e
    obtain ⟨t', hs', hR'⟩ := stepS_rel0 hR hs
    obtain ⟨q', hq', x, x', e1, e2, e3⟩ := ih hR' hq
    refine ⟨s' :: q', by simp only [pathS, hs', hq'], x, x', ?_, ?_, e3⟩
    · rw [List.getLast?_cons, e1]; rfl
    · rw [List.getLast?_cons, e2]; rfl
end Go.Proofs.YtfpioigggjnffaaDoor.E

/- Chapter 10, plain: what is open at first stays dead, once it is. -/
set_option autoImplicit false
namespace Go.Proofs.YtfpioigggjnffaaDoor.E
open Go.Ev

variable {sane : TInstr → Bool} {acc : Int → Int × Int × Bool} {shape : Int → Option (List Int × Int)} {env : TEnv}

def BaseD (res : List Int) (s : Stk) : Prop := ∃ (d : Unit) (rest : List Ctl), s.ctrls = ⟨2, res, 0, true⟩ :: rest
variable {res : List Int}
def WD (res : List Int) (w : WkS) : Prop := w.e = 0 → BaseD res w.s
theorem WD.put {w : WkS} {r : Except Int Stk} (hr : ∀ s, r = .ok s → w.e = 0 → BaseD res s) (he : ∀ e, r = .error e → e ≠ 0) : WD res (w.put r) := by
  intro h
  obtain ⟨h0, s, e1, e2⟩ := put_e0 he h
  rw [e2]; exact hr s e1 h0
theorem BaseD.same {s s' : Stk} (h : BaseD res s) (hc : s'.ctrls = s.ctrls) : BaseD res s' := by
  obtain ⟨d, rest, e⟩ := h; exact ⟨d, rest, hc.trans e⟩
theorem WD.want {w : WkS} (h : WD res w) (l : List Int) : WD res (w.want l) :=
  WD.put (fun _ e h0 => (h h0).same (wantS_ok e).2.1) (fun _ x => by have := wantS_err x; omega)
theorem WD.push {w : WkS} (h : WD res w) (l : List Int) : WD res (w.push l) :=
  WD.put (fun _ e h0 => (h h0).same (pushS_ok e).2.1) (fun _ x => by have := pushS_err x; omega)
theorem WD.kill {w : WkS} (h : WD res w) : WD res w.kill :=
  WD.put (fun s' e h0 => by
    obtain ⟨d, rest, hb⟩ := h h0
    obtain ⟨_, _, _, c, hlast, hc, _⟩ := killS_ok e
    rw [hb] at hlast hc
    cases rest with
    | nil =>
      have hdc : (⟨2, res, 0, true⟩ : Ctl) = c := by simpa using hlast
      subst hdc
      exact ⟨(), [], hc⟩
    | cons a rest =>
      exact ⟨d, (a :: rest).dropLast ++ [{ c with dead := true }], by rw [hc]; rfl⟩) (fun _ x => by have := killS_err x; omega)
theorem WD.opens {w : WkS} (h : WD res w) (op : Int) (l : List Int) : WD res (w.opens op l) :=
  WD.put (fun s' e h0 => by
    obtain ⟨d, rest, hb⟩ := h h0
    exact ⟨d, rest ++ [⟨op, l, w.s.vals.length, false⟩], by rw [(openS_ok e).2.1, hb]; rfl⟩) (fun _ x => by have := openS_err x; omega)
theorem WD.pop {w : WkS} (h : WD res w) : WD res w.pop.2 := by
  unfold WkS.pop
  cases hp : popS w.s with
  | ok r => obtain ⟨t, s'⟩ := r; exact WD.put (fun s e h0 => by cases e; exact (h h0).same (popS_ok hp).2.1) (fun _ x => by cases x)
  | error e => exact WD.put (fun s x => by cases x) (fun e' x => by cases x; have := popS_err hp; omega)
theorem WD.closed {w : WkS} (h : WD res w) (h1 : w.e = 0 → 1 < w.s.ctrls.length) : WD res w.closed.2 := by
  unfold WkS.closed
  cases hp : closeS w.s with
  | ok r =>
    obtain ⟨t, s'⟩ := r
    refine WD.put (fun s e h0 => ?_) (fun _ x => by cases x)
    cases e
    obtain ⟨d, rest, hb⟩ := h h0
    have hl := h1 h0
    have hc := (closeS_ok hp).2.2.1
    rw [hb] at hc hl
    cases rest with
    | nil => simp at hl
    | cons a rest => exact ⟨d, (a :: rest).dropLast, hc⟩
  | error e => exact WD.put (fun s x => by cases x) (fun e' x => by cases x; have := closeS_err hp; omega)
theorem WD.must {w : WkS} (h : WD res w) (b : Bool) (e : Int) : WD res (w.must b e) := by
  unfold WkS.must
  split
  · rename_i hh
    simp only [Bool.and_eq_true, beq_iff_eq] at hh
    intro _; exact h hh.2
  · exact h
theorem WD.label {w : WkS} (h : WD res w) (k : Int) : WD res (w.label k).2 := by
  unfold WkS.label
  cases labelS w.s k with
  | ok l => exact h
  | error e => exact h.must _ _
theorem WD.labels {w : WkS} (h : WD res w) (t l : List Int) : WD res (labelsS w t l) := by
  induction l generalizing w with
  | nil => exact h
  | cons a l ih => exact ih ((h.label a).must _ _)
theorem WD.branch {w : WkS} (h : WD res w) (i : TInstr) : WD res (branchS env w i) := by
  unfold branchS
  by_cases h15 : i.op = 15
  · rw [if_pos h15]; exact (h.want _).kill
  · rw [if_neg h15]
    have h1 := (h.label i.a).labels (w.label i.a).1 i.labels
    have h2 : WD res (if i.op = 12 then labelsS (w.label i.a).2 (w.label i.a).1 i.labels else (labelsS (w.label i.a).2 (w.label i.a).1 i.labels).want [127]) := by
      split
      · exact h1
      · exact h1.want _
    simp only
    by_cases h13 : i.op = 13
    · rw [if_pos h13]; exact (h2.want _).push _
    · rw [if_neg h13]; exact (h2.want _).kill
theorem WD.call {w : WkS} (h : WD res w) (i : TInstr) : WD res (callS env w i) := by
  unfold callS
  simp only
  refine WD.push (WD.want ?_ _) _
  by_cases h17 : i.op = 17
  · rw [if_pos h17]; exact (h.must _ _).want _
  · rw [if_neg h17]; exact h.must _ _
theorem WD.chosen {w : WkS} (h : WD res w) (i : TInstr) : WD res (chosenS w i) := by
  unfold chosenS
  by_cases h26 : i.op = 26
  · rw [if_pos h26]; exact h.pop
  · rw [if_neg h26]; exact (((h.want _).pop.pop).must _ _).push _
theorem WD.vars {w : WkS} (h : WD res w) (i : TInstr) : WD res (variableS env w i) := by
  unfold variableS
  simp only
  have key : ∀ r : Int × WkS, WD res r.2 → WD res (if i.op = 32 ∨ i.op = 34 ∨ i.op = 35 then (if i.op ≠ 32 ∧ i.op ≠ 35 then r.2.want [r.1] else r.2).push [r.1] else (if i.op ≠ 32 ∧ i.op ≠ 35 then r.2.want [r.1] else r.2)) := fun r hr => by
    have h1 : WD res (if i.op ≠ 32 ∧ i.op ≠ 35 then r.2.want [r.1] else r.2) := by
      split
      · exact hr.want _
      · exact hr
    split
    · exact h1.push _
    · exact h1
  refine key _ ?_
  split
  · cases env.locs[i.a.toNat]? with
    | some t => exact h
    | none => exact h.must _ _
  · cases env.globals[i.a.toNat]? with
    | some t => exact h.must _ _
    | none => exact h.must _ _
theorem WD.mem {w : WkS} (h : WD res w) (i : TInstr) : WD res (memoryS acc env w i) := by
  unfold memoryS
  simp only
  by_cases h63 : i.op = 63
  · rw [if_pos h63]; exact (h.must _ _).push _
  · rw [if_neg h63]
    by_cases h64 : i.op = 64
    · rw [if_pos h64]; exact ((h.must _ _).want _).push _
    · rw [if_neg h64]
      split
      · exact ((h.must _ _).must _ _).want _
      · exact (((h.must _ _).must _ _).want _).push _
theorem WD.nested {w : WkS} (h : WD res w) (i : TInstr) : WD res (nestedS w i) := by
  unfold nestedS
  by_cases h4 : i.op = 4
  · rw [if_pos h4]; exact (h.want _).opens _ _
  · rw [if_neg h4]
    by_cases h5 : i.op = 5
    · rw [if_pos h5]
      refine WD.opens (WD.closed (h.must _ _) fun h0 => ?_) _ _
      obtain ⟨h1, h2⟩ := must_e0 (by decide) h0
      have h3 := must_true (by decide) h0
      rw [h2]
      obtain ⟨d, rest, hb⟩ := h h1
      rw [hb]
      cases rest with
      | nil => unfold topIf at h3; rw [hb] at h3; simp at h3
      | cons a rest => simp
    · rw [if_neg h5]
      by_cases h11 : i.op = 11
      · rw [if_pos h11]
        refine ((WD.closed (h.must _ _) fun h0 => ?_).must _ _).push _
        obtain ⟨h1, h2⟩ := must_e0 (by decide) h0
        have h3 := must_true (by decide) h0
        rw [h2]; simpa using h3
      · rw [if_neg h11]; exact h.opens _ _
theorem goS_dead {s : Stk} {i : TInstr} (hb : BaseD res s) : WD res (goS acc shape env s i) := by
  have h : WD res ⟨s, 0⟩ := fun _ => hb
  unfold goS
  simp only
  split
  · exact h.kill
  · split
    · exact h
    · split
      · exact h.nested i
      · split
        · exact h.branch i
        · split
          · exact h.call i
          · split
            · exact h.chosen i
            · split
              · exact h.vars i
              · split
                · exact h.mem i
                · split
                  · exact h.push _
                  · split
                    · exact h.push _
                    · cases shape i.op with
                      | none => exact h
                      | some r => exact (h.want _).push _
theorem stepS_dead {s s' : Stk} {i : TInstr} (hb : BaseD res s) (e : stepS sane acc shape env s i = .ok s') : BaseD res s' := by
  obtain ⟨_, _, h3, h4⟩ := stepS_parts e
  rw [← h4]; exact goS_dead hb h3
theorem pathS_dead {l : List TInstr} {s : Stk} {p : List Stk} (hb : BaseD res s) (e : pathS sane acc shape env s l = .ok p) : ∃ t, p.getLast? = some t ∧ BaseD res t := by
  induction l generalizing s p with
  | nil => cases e; exact ⟨s, rfl, hb⟩
  | cons i l ih =>
    obtain ⟨t, q, hs, hq, rfl⟩ := pathS_cons e
    obtain ⟨x, e1, e2⟩ := ih (stepS_dead hb hs) hq
    exact ⟨x, by rw [List.getLast?_cons, e1]; rfl, e2⟩
end Go.Proofs.YtfpioigggjnffaaDoor.E

/- A body in a block. Plain Lean. -/
set_option autoImplicit false
set_option linter.unusedSimpArgs false
set_option linter.unusedVariables false
namespace Go.Proofs.YtfpioigggjnffaaDoor.E
open Go.Ev
def blk : TInstr := ⟨2, 0, 0, 0, []⟩
def fin_ : TInstr := ⟨11, 0, 0, 0, []⟩
def inn (l : List TInstr) : List TInstr := [blk] ++ l ++ [fin_]
theorem inn_len (l : List TInstr) : (inn l).length = l.length + 2 := by simp [inn]
theorem inn_op0 (l : List TInstr) : opAt (inn l) 0 = 2 := rfl
theorem inn_op (l : List TInstr) {k : Nat} (hk : k < l.length) : opAt (inn l) (k + 1) = opAt l k := by
  unfold opAt inn
  have := getD_mid (p := [blk]) (m := l) (q := [fin_]) hk
  rw [show [blk].length + k = k + 1 by simp; omega] at this
  rw [this]
theorem inn_opN (l : List TInstr) : opAt (inn l) (l.length + 1) = 11 := by
  simp [opAt, inn, List.getD_eq_getElem?_getD, fin_]
section
variable {σ : Type} {f : Int → σ → σ} {s0 : σ} {l : List TInstr}
theorem inn_walk {k : Nat} (hk : k ≤ l.length) {st : List Nest} {s : σ} (h : walkG (fun _ d _ s => f (d + 1) s) (f 0 s0) l k = some (st, s)) :
    walkG (fun _ d _ s => f d s) s0 (inn l) (k + 1) = some (st.map (sh 1) ++ [(0, -1)], s) := by
  have h1 : walkG (fun _ d _ s => f d s) s0 ([blk] ++ l ++ [fin_]) [blk].length = some ([(0, -1)], f 0 s0) := rfl
  have := walk_mid (p := [blk]) (m := l) (q := [fin_]) (base := [(0, -1)]) (f := f) h1 k hk st s h
  rw [show [blk].length + k = k + 1 by simp; omega] at this
  exact this
theorem inn_all {s : σ} (h : walkG (fun _ d _ s => f (d + 1) s) (f 0 s0) l l.length = some ([], s)) : walkG (fun _ d _ s => f d s) s0 (inn l) (inn l).length = some ([], f 0 s) := by
  have h1 := inn_walk (Nat.le_refl _) h
  rw [inn_len]
  show walkG (fun _ d _ s => f d s) s0 (inn l) ((l.length + 1) + 1) = _
  have : ((inn l).getD (l.length + 1) in0).op = 11 := inn_opN l
  rw [walkG, h1]
  simp only [this]
  rfl
end
theorem inn_depths {l : List TInstr} (h : walkOk l = true) : walkOk (inn l) = true ∧ depthsF (inn l) = [0] ++ (depthsF l).map (· + 1) ++ [0] := by
  obtain ⟨s, hs⟩ := walk_some tellD [] h
  have h1 : walkG (fun _ d _ s => (fun (d : Int) s => s ++ [d]) (d + 1) s) [0] l l.length = some ([], [0] ++ s.map (· + 1)) := by
    have := walkD_pre (m := l) (n := 1) (s1 := [0]) l.length
    rw [hs] at this
    exact this
  have h2 := inn_all (f := fun (d : Int) s => s ++ [d]) (s0 := []) h1
  exact ⟨walkOk_some h2, by rw [depthsF_of h2, depthsF_of hs]⟩
theorem inn_st {l : List TInstr} {k : Nat} (hk : k ≤ l.length) {st : List Nest} (h : walkSt l k = some st) : walkSt (inn l) (k + 1) = some (st.map (sh 1) ++ [(0, -1)]) := by
  have h1 := walkG_st (fun _ d _ s => (fun (_ : Int) (s : Unit) => s) (d + 1) s) () l k
  rw [h] at h1
  obtain ⟨⟨a, b⟩, h2, h3⟩ := Option.map_eq_some_iff.1 h1
  simp only at h3
  subst h3
  exact walkSt_of (inn_walk (f := fun (_ : Int) (s : Unit) => s) (s0 := ()) hk h2)
theorem inn_end0 {l : List TInstr} (h : walkOk l = true) : ((matchesF (inn l)).getD 0 n0).2 = (l.length : Int) + 1 := by
  obtain ⟨hi, _⟩ := inn_depths h
  obtain ⟨e, o, he1, he2, he3, he4, he5, he6, he7⟩ := (all_shut hi (j := 0) (by rw [inn_len]; omega) rfl (base := []) rfl).ex
  rw [he5]
  rw [inn_len] at he2
  show (e : Int) = _
  rcases Nat.lt_or_ge e (l.length + 1) with hlt | hge
  · exfalso
    obtain ⟨m, rfl⟩ : ∃ m, e = m + 1 := ⟨e - 1, by omega⟩
    have h1 : walkSt (inn l) (m + 1 + 1) = some [] := by rw [walkSt_succ he4, he3]; rfl
    obtain ⟨st, hst⟩ := walkSt_ok h (k := m + 1) (by omega)
    have h2 := inn_st (k := m + 1) (by omega) hst
    rw [h1] at h2
    have := congrArg List.length (Option.some.inj h2)
    simp at this
  · omega
theorem inn_end {l : List TInstr} (h : walkOk l = true) {j : Nat} (hj : j < l.length) (ho : opensB (opAt l j) = true) : ((matchesF (inn l)).getD (j + 1) n0).2 = ((matchesF l).getD j n0).2 + 1 := by
  obtain ⟨hi, _⟩ := inn_depths h
  obtain ⟨base, hb⟩ := walkSt_ok h (k := j) (by omega)
  have hb' := inn_st (by omega) hb
  obtain ⟨e, o, he1, he2, he3, he4, he5, he6, he7⟩ := (all_shut h hj ho hb).ex
  obtain ⟨e', o', fe1, fe2, fe3, fe4, fe5, fe6, fe7⟩ := (all_shut hi (j := j + 1) (by rw [inn_len]; omega) (by rw [inn_op l hj]; exact ho) hb').ex
  rw [he5, fe5]
  show (e' : Int) = (e : Int) + 1
  rw [inn_len] at fe2
  have a1 : walkSt l (e + 1) = some base := by rw [walkSt_succ he4, he3]; rfl
  have a2 := inn_st (k := e + 1) (by omega) a1
  have b1 : walkSt (inn l) (e' + 1) = some (base.map (sh 1) ++ [(0, -1)]) := by rw [walkSt_succ fe4, fe3]; rfl
  have hle : e' ≤ e + 1 := by
    rcases Nat.lt_or_ge (e + 1) e' with q | q
    · exfalso
      obtain ⟨inner, o2, q2⟩ := fe7 (e + 1 + 1) (by omega) (by omega)
      rw [a2] at q2
      have := congrArg List.length (Option.some.inj q2)
      simp at this
      omega
    · exact q
  have hge : e + 1 ≤ e' := by
    rcases Nat.lt_or_ge e' (e + 1) with q | q
    · exfalso
      obtain ⟨m, rfl⟩ : ∃ m, e' = m + 1 := ⟨e' - 1, by omega⟩
      obtain ⟨inner, o2, q2⟩ := he7 (m + 1) (by omega) (by omega)
      have q3 := inn_st (k := m + 1) (by omega) q2
      rw [b1] at q3
      have := congrArg List.length (Option.some.inj q3)
      simp at this
      omega
    · exact q
  omega
theorem inn_encl {l : List TInstr} (h : walkOk l = true) {k : Nat} (hk : k < l.length) {st : List Nest} (hst : walkSt l k = some st) : encl (inn l) (k + 1) (st.map (sh 1) ++ [(0, -1)]) = (encl l k st).map (sh 1) ++ [(0, -1)] := by
  unfold encl
  rw [inn_op l hk]
  split
  · rename_i hop
    cases st with
    | nil =>
      exfalso
      obtain ⟨st1, h1⟩ := walkSt_ok h (k := k + 1) (by omega)
      obtain ⟨d, e, hs⟩ := walkSt_step hst h1
      rcases stepF_cases hs with ⟨q, _⟩ | ⟨_, q5, q11, _⟩ | ⟨t, _, q, _⟩ | ⟨t, r, _, q, _⟩
      · rcases hop with q' | q' <;> rw [q'] at q <;> cases q
      · exact hop.elim q5 q11
      · cases q
      · cases q
    | cons p r => rfl
  · rfl
/-- In a block: a branch out of nothing but what it stands in goes on where it went, one farther; and out of all it goes to the end. -/
theorem inn_targets {l : List TInstr} (h : walkOk l = true) {k : Nat} (hk : k < l.length) : (targetF l k 0).2 = true ∧ (targetF (inn l) ((k + 1 : Nat) : Int) 0) = ((targetF l k 0).1 + 1, true) ∧ targetF (inn l) ((k + 1 : Nat) : Int) ((depthsF l).getD k 0 + 1) = (((inn l).length : Int), true) := by
  obtain ⟨hi, _⟩ := inn_depths h
  obtain ⟨st, hst⟩ := walkSt_ok h (k := k) (by omega)
  have hst' := inn_st (by omega) hst
  have hk' : k + 1 < (inn l).length := by rw [inn_len]; omega
  rw [depthsF_get h hk hst, tgt_encl h hk hst (Int.le_refl _), tgt_encl hi hk' hst' (Int.le_refl _), tgt_encl hi hk' hst' (by omega), inn_encl h hk hst]
  obtain ⟨p1, p2, p3, p4⟩ := pick_ok (l := inn l) (M := matchesF (inn l)) (L := (encl l k st).map (sh 1) ++ [(0, -1)]) (left := ((encl l k st).length : Int) + 1) (by omega)
  have hz : pick (inn l) (matchesF (inn l)) ((encl l k st).map (sh 1) ++ [(0, -1)]) (((encl l k st).length : Int) + 1) = (((inn l).length : Int), true) := by
    apply Prod.ext
    · exact p3 (by simp)
    · rw [p1]; simp
  refine ⟨?_, ?_, hz⟩
  · rw [(pick_ok (l := l) (M := matchesF l) (L := encl l k st) (left := 0) (Int.le_refl _)).1]; simp
  · cases he : encl l k st with
    | nil =>
      simp only [List.map_nil, List.nil_append, pick, Int.lt_irrefl, if_false]
      have h0 : opAt (inn l) (0 : Int).toNat = 2 := inn_op0 l
      rw [h0, if_neg (by decide), show (0 : Int).toNat = 0 from rfl, inn_end0 h]
    | cons p r =>
      have hpm : p ∈ encl l k st := by rw [he]; simp
      have hin := walkSt_in hst p (encl_sub hpm)
      unfold nestIn at hin
      have hpo := walkSt_opens h (by omega) hst p (encl_sub hpm)
      simp only [List.map_cons, List.cons_append, pick, Int.lt_irrefl, if_false, sh]
      have h1 : (p.1 + ((1 : Nat) : Int)).toNat = p.1.toNat + 1 := by omega
      rw [h1, inn_op l (by omega), inn_end h (by omega) hpo]
      split <;> rfl
theorem depth_range {l : List TInstr} (h : walkOk l = true) {k : Nat} (hk : k < l.length) : 0 ≤ (depthsF l).getD k 0 ∧ (depthsF l).getD k 0 ≤ k := by
  obtain ⟨st, hst⟩ := walkSt_ok h (k := k) (by omega)
  rw [depthsF_get h hk hst]
  have h1 : (encl l k st).length ≤ st.length := by unfold encl; split <;> simp
  have := walkG_st (fun _ _ _ _ => ()) () l k
  rw [hst] at this
  obtain ⟨⟨a, b⟩, h1', h2⟩ := Option.map_eq_some_iff.1 this
  simp only at h2
  subst h2
  have := (walkG_in h1').2
  omega
end Go.Proofs.YtfpioigggjnffaaDoor.E

/- Chapter 10, plain: CheckMore. -/
set_option autoImplicit false
set_option maxRecDepth 100000
set_option linter.unusedSimpArgs false
set_option linter.unusedVariables false
namespace Go.Proofs.YtfpioigggjnffaaDoor.E
open Go.Ev
theorem getLastD_of {p : List Stk} {t d : Stk} (h : p.getLast? = some t) : p.getLastD d = t := by rw [List.getLastD_eq_getLast?, h]; rfl
theorem body_of {e : TEnv} {l : List TInstr} {p : List Stk} {t : Stk} {r : Ctl × Stk} (hw : walkOk l = true) (hs : envSane e = true) (hp : pathS saneF accE shapeF e (start e) l = .ok p) (ht : p.getLast? = some t) (hc : closeS t = .ok r) : bodyF e l = 0 := by
  have h : pathF e l = .ok p := by unfold pathF; rw [hw, hs]; exact hp
  unfold bodyF
  rw [h]
  simp only
  rw [getLastD_of ht, hc]
theorem body_end {e : TEnv} {l : List TInstr} (h : bodyF e l = 0) (hr : e.results = []) : walkOk l = true ∧ envSane e = true ∧ ∃ p d, pathS saneF accE shapeF e (start e) l = .ok p ∧ p.getLast? = some ⟨[], [⟨2, [], 0, d⟩]⟩ := by
  obtain ⟨p, r, hp, hc⟩ := body_fits h
  obtain ⟨hw, hs, hps⟩ := pathF_ok hp
  obtain ⟨hEnv, hfin⟩ := envOk_of hs
  have hl := pathS_len hps
  have hi := start_inv hfin
  have hk : l.length < p.length := by omega
  have hx := List.getElem?_eq_getElem hk
  have hg : p.getLast? = some p[l.length] := by rw [List.getLast?_eq_getElem?, show p.length - 1 = l.length by omega, hx]
  rw [getLastD_of hg] at hc
  have h1 : (p[l.length]).ctrls.length = 1 := by
    rw [path_open tabOk hEnv hi hps _ _ hx]
    exact open_last hw
  obtain ⟨d, a, b, _⟩ := last_leaves (path_inv tabOk hEnv hi hps _ _ hx) h1 hc
  refine ⟨hw, hs, p, d, hps, ?_⟩
  rw [hg]
  rw [hr] at a b
  generalize p[l.length] = t at *
  obtain ⟨v, c⟩ := t
  simp only at a b
  simp only [List.length_nil, Nat.le_zero, List.length_eq_zero_iff] at b
  rw [a, b]
theorem close_nil (d : Bool) : closeS ⟨[], [⟨2, [], 0, d⟩]⟩ = .ok (⟨2, [], 0, d⟩, ⟨[], []⟩) := by cases d <;> rfl
theorem rel_end {pre : List Ctl} {f : List Int} {d : Bool} {t' : Stk} (h : Rel pre f ⟨[], [⟨2, [], 0, d⟩]⟩ t') : ∃ d', t' = ⟨[], pre ++ [⟨2, f, 0, d'⟩]⟩ := by
  obtain ⟨a, a', rest, h1, h2, h3, _⟩ := h
  simp only [List.cons.injEq] at h1
  obtain ⟨_, rfl⟩ := h1
  obtain ⟨v, c⟩ := t'
  simp only at h2 h3
  exact ⟨a', by rw [h2, h3]⟩
/-- one body behind the other -/
theorem more_all {e : TEnv} {l m : List TInstr} (hr : e.results = []) (h1 : bodyF e l = 0) (h2 : bodyF e m = 0) : bodyF e (l ++ m) = 0 := by
  obtain ⟨a1, a2, p, d, a3, a4⟩ := body_end h1 hr
  obtain ⟨b1, b2, q, d2, b3, b4⟩ := body_end h2 hr
  have hR : Rel [] [] (start e) ⟨[], [⟨2, [], 0, d⟩]⟩ := ⟨false, d, [], by simp [start, hr], rfl, rfl, by simp⟩
  obtain ⟨q', c1, t, t', c2, c3, c4⟩ := pathS_rel0 hR b3
  rw [b4] at c2
  cases c2
  obtain ⟨d', rfl⟩ := rel_end c4
  have hq' : q' ≠ [] := by intro hh; rw [hh] at c3; cases c3
  refine body_of (rows_depths a1 b1).1 a2 (p := p.dropLast ++ q') ?_ (t := ⟨[], [⟨2, [], 0, d'⟩]⟩) ?_ (close_nil d')
  · rw [pathS_append, a3]
    simp only
    rw [getLastD_of a4, c1]
  · rw [List.getLast?_append, c3]; rfl
theorem op_in {l : List TInstr} (h : ∀ i ∈ l, ¬ (12 ≤ i.op ∧ i.op ≤ 15)) (hn : ∀ i ∈ l, i.op ≤ 5 ∨ 11 ≤ i.op) : ∀ i ∈ l, i.op ≤ 5 ∨ i.op = 11 ∨ 15 < i.op := fun i hi => by have := h i hi; have := hn i hi; omega
/-- what a path is of may be -/
theorem path_sane {e : TEnv} {l : List TInstr} : ∀ {s : Stk} {p : List Stk}, pathS saneF accE shapeF e s l = .ok p → ∀ i ∈ l, saneF i = true := by
  induction l with
  | nil => intro s p h i hi; cases hi
  | cons a l ih =>
    intro s p h i hi
    obtain ⟨s', q, h1, h2, rfl⟩ := pathS_cons h
    rcases List.mem_cons.1 hi with rfl | hi
    · exact (stepS_parts h1).2.1
    · exact ih h2 i hi
theorem sane_gap {i : TInstr} (h : saneF i = true) : i.op ≤ 5 ∨ 11 ≤ i.op := by
  obtain ⟨_, _, _, hk⟩ := sane_parts h
  obtain ⟨s, hs, h1, h2, h3⟩ := kind_span rfl hk
  simp only [spanL, List.mem_cons, List.not_mem_nil, or_false] at hs
  rcases hs with rfl | rfl | rfl | rfl | rfl | rfl | rfl | rfl | rfl | rfl | rfl | rfl | rfl | rfl | rfl | rfl | rfl | rfl | rfl | rfl | rfl <;> (simp only at h1 h2; omega)
theorem path_gap {e : TEnv} {l : List TInstr} {s : Stk} {p : List Stk} (h : pathS saneF accE shapeF e s l = .ok p) : ∀ i ∈ l, i.op ≤ 5 ∨ 11 ≤ i.op := fun i hi => sane_gap (path_sane h i hi)
theorem same_refl (e : TEnv) : SameEnv e e := ⟨rfl, rfl, rfl, rfl, rfl, rfl⟩
theorem step_blk (e : TEnv) (hr : e.results = []) : stepS saneF accE shapeF e (start e) blk = .ok ⟨[], [⟨2, [], 0, false⟩] ++ [⟨2, [], 0, false⟩]⟩ := by
  unfold start
  rw [hr]
  rfl
theorem step_fin (e : TEnv) (d : Bool) : stepS saneF accE shapeF e ⟨[], [⟨2, [], 0, false⟩] ++ [⟨2, [], 0, d⟩]⟩ fin_ = .ok ⟨[], [⟨2, [], 0, false⟩]⟩ := by
  cases d <;> rfl
/-- in a block -/
theorem more_in {e : TEnv} {l : List TInstr} (hr : e.results = []) (h1 : bodyF e l = 0) (h : ∀ i ∈ l, ¬ (12 ≤ i.op ∧ i.op ≤ 15)) : bodyF e (inn l) = 0 := by
  obtain ⟨a1, a2, p, d, a3, a4⟩ := body_end h1 hr
  have hi := op_in h (path_gap a3)
  have hR : Rel [⟨2, [], 0, false⟩] [] (start e) ⟨[], [⟨2, [], 0, false⟩] ++ [⟨2, [], 0, false⟩]⟩ := ⟨false, false, [], by simp [start, hr], rfl, rfl, by simp⟩
  obtain ⟨q', c1, t, t', c2, c3, c4⟩ := pathS_rel rfl rfl (same_refl e) hi hR a3
  rw [a4] at c2
  cases c2
  obtain ⟨d', rfl⟩ := rel_end c4
  refine body_of (inn_depths a1).1 a2 (p := start e :: (q'.dropLast ++ [⟨[], [⟨2, [], 0, false⟩] ++ [⟨2, [], 0, d'⟩]⟩, ⟨[], [⟨2, [], 0, false⟩]⟩])) ?_ (t := ⟨[], [⟨2, [], 0, false⟩]⟩) ?_ (close_nil false)
  · show pathS saneF accE shapeF e (start e) (blk :: (l ++ [fin_])) = _
    simp only [pathS, step_blk e hr, pathS_append, c1, getLastD_of c3, step_fin]
  · rw [List.getLast?_cons, List.getLast?_append]; rfl
theorem step_dead (e : TEnv) (hr : e.results = [126]) : stepS saneF accE shapeF e (start e) ⟨0, 0, 0, 0, []⟩ = .ok ⟨[], [⟨2, [126], 0, true⟩]⟩ := by
  unfold start
  rw [hr]
  rfl
/-- behind what is never come to -/
theorem more_dead {e e' : TEnv} {l : List TInstr} (hr : e.results = []) (hr' : e'.results = [126]) (he : SameEnv e e') (h1 : bodyF e l = 0) (h : ∀ i ∈ l, ¬ (12 ≤ i.op ∧ i.op ≤ 15)) : bodyF e' ([⟨0, 0, 0, 0, []⟩] ++ l) = 0 := by
  obtain ⟨a1, a2, p, d, a3, a4⟩ := body_end h1 hr
  have hi := op_in h (path_gap a3)
  have hR : Rel [] [126] (start e) ⟨[], [⟨2, [126], 0, true⟩]⟩ := ⟨false, true, [], by simp [start, hr], rfl, rfl, by simp⟩
  obtain ⟨q', c1, t, t', c2, c3, c4⟩ := pathS_rel rfl rfl he hi hR a3
  rw [a4] at c2
  cases c2
  obtain ⟨d', rfl⟩ := rel_end c4
  obtain ⟨t, g1, _, rest, g2⟩ := pathS_dead (res := [126]) ⟨(), [], rfl⟩ c1
  rw [c3] at g1
  cases g1
  have hd : d' = true := by
    simp only [List.nil_append, List.cons.injEq, Ctl.mk.injEq, true_and] at g2
    exact g2.1
  subst hd
  have s2 : envSane e' = true := by
    unfold envSane at a2 ⊢
    rw [he.types, he.locs, he.globals, hr']
    rw [hr] at a2
    simp only [Bool.and_eq_true, List.all_append, decide_eq_true_eq] at a2 ⊢
    obtain ⟨⟨x1, ⟨x2, _⟩, x4⟩, _⟩ := a2
    exact ⟨⟨x1, ⟨x2, rfl⟩, x4⟩, by decide⟩
  have w0 : walkOk [⟨0, 0, 0, 0, []⟩] = true := rfl
  refine body_of (rows_depths w0 a1).1 s2 (p := start e' :: q') ?_ (t := ⟨[], [⟨2, [126], 0, true⟩]⟩) ?_ (Rel.closeDead rfl rfl rfl)
  · show pathS saneF accE shapeF e' (start e') (⟨0, 0, 0, 0, []⟩ :: l) = _
    simp only [pathS, step_dead e' hr', c1]
  · rw [List.getLast?_cons, c3]; rfl
end Go.Proofs.YtfpioigggjnffaaDoor.E
