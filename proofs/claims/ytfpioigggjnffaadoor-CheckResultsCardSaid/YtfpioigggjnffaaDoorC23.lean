/- C23, C24, C25, C26, C27. -/
import Derived.Test.YtfpioigggjnffaaDoorQ8
import Derived.Test.YtfpioigggjnffaaDoorC15
set_option linter.unnecessarySimpa false
set_option linter.unusedSimpArgs false
set_option linter.unusedVariables false
/- Chapter 10, plain: two runs that differ in results alone (CheckResults): what they have in common. -/
set_option autoImplicit false
namespace Go.Proofs.YtfpioigggjnffaaDoor.E
open Go.Ev

def Live (s : Stk) : Prop := ∀ (k : Nat) c, s.ctrls[k]? = some c → c.dead = false
/-- Up to the first that is dead the same is open (but for what the first one leaves), and lies below it. -/
def Same2 (s t : Stk) : Prop := s.ctrls.length = t.ctrls.length ∧ ∀ (k : Nat) (c d : Ctl), s.ctrls[k]? = some c → t.ctrls[k]? = some d → (∀ (j : Nat) (c' : Ctl), j < k → s.ctrls[j]? = some c' → c'.dead = false) →
  c.op = d.op ∧ c.ht = d.ht ∧ c.dead = d.dead ∧ (k ≠ 0 → c.fin = d.fin) ∧ (c.dead = true → s.vals.take c.ht.toNat = t.vals.take c.ht.toNat)
structure Agree (s t : Stk) : Prop where
  ss : saneS s = true
  st : saneS t = true
  same : Same2 s t
  live : Live s → s.vals = t.vals
structure Weak (s t : Stk) : Prop where
  ss : saneS s = true
  st : saneS t = true
  same : Same2 s t
  live : Live s → ∀ m, risesB 0 s.ctrls = some m → s.vals.take m.toNat = t.vals.take m.toNat
theorem Agree.weak {s t : Stk} (h : Agree s t) : Weak s t := ⟨h.ss, h.st, h.same, fun hl m _ => by rw [h.live hl]⟩

theorem prefix_take {α : Type} {a b : List α} {n : Nat} (h : a <+: b) (hn : n ≤ a.length) : a.take n = b.take n := by
  obtain ⟨x, rfl⟩ := h
  rw [List.take_append_of_le_length hn]
/-- What turns values above the last height alone. -/
structure Tk (s s' : Stk) : Prop where
  sane : saneS s' = true
  ctrls : s'.ctrls = s.ctrls
  take : ∀ m h, risesB 0 s.ctrls = some m → h ≤ m → s'.vals.take h.toNat = s.vals.take h.toNat
theorem Tk.of {s s' : Stk} (h1 : saneS s' = true) (h2 : s'.ctrls = s.ctrls) (h3 : s'.vals <+: s.vals) : Tk s s' :=
  ⟨h1, h2, fun m h hm hh => prefix_take h3 (by
    obtain ⟨m', r1, r2, _⟩ := (saneS_iff s').1 h1
    rw [h2, hm] at r1
    cases r1; omega)⟩
theorem Tk.want {s s' : Stk} {l : List Int} (e : wantS s l = .ok s') : Tk s s' := .of (wantS_ok e).1 (wantS_ok e).2.1 (wantS_ok e).2.2
theorem Tk.pop {s s' : Stk} {x : Int} (e : popS s = .ok (x, s')) : Tk s s' := .of (popS_ok e).1 (popS_ok e).2.1 (popS_ok e).2.2
theorem Tk.push {s s' : Stk} {l : List Int} (hs : saneS s = true) (e : pushS s l = .ok s') : Tk s s' := by
  obtain ⟨h1, h2, h3⟩ := pushS_ok e
  refine ⟨h1, h2, fun m h hm hh => ?_⟩
  obtain ⟨m', r1, r2, _⟩ := (saneS_iff s).1 hs
  rw [hm] at r1
  cases r1
  rw [h3, List.take_append_of_le_length (by omega)]

theorem Same2.tk {s t s' t' : Stk} (h : Same2 s t) (hs : saneS s = true) (ht : saneS t = true) (a : Tk s s') (b : Tk t t') : Same2 s' t' := by
  refine ⟨by rw [a.ctrls, b.ctrls]; exact h.1, fun k c d hc hd hj => ?_⟩
  rw [a.ctrls] at hc
  rw [b.ctrls] at hd
  obtain ⟨h1, h2, h3, h4, h5⟩ := h.2 k c d hc hd (fun j c' hjk hc' => hj j c' hjk (by rw [a.ctrls]; exact hc'))
  refine ⟨h1, h2, h3, h4, fun hdead => ?_⟩
  obtain ⟨m, r1, _⟩ := (saneS_iff s).1 hs
  obtain ⟨m', r1', _⟩ := (saneS_iff t).1 ht
  rw [a.take m c.ht r1 (rises_get r1 hc).1, h5 hdead, b.take m' c.ht r1' (by rw [h2]; exact (rises_get r1' hd).1)]
theorem Live.ctrls {s s' : Stk} (h : Live s) (e : s.ctrls = s'.ctrls) : Live s' := fun k c hk => h k c (by rw [e]; exact hk)
theorem Agree.tk {s t s' t' : Stk} (h : Agree s t) (a : Tk s s') (b : Tk t t') (hl : Live s → s'.vals = t'.vals) : Agree s' t' :=
  ⟨a.sane, b.sane, h.same.tk h.ss h.st a b, fun hL => hl (hL.ctrls a.ctrls)⟩
theorem Weak.tk {s t s' t' : Stk} (h : Weak s t) (a : Tk s s') (b : Tk t t') : Weak s' t' := by
  refine ⟨a.sane, b.sane, h.same.tk h.ss h.st a b, fun hL m hm => ?_⟩
  have hL' := hL.ctrls a.ctrls
  rw [a.ctrls] at hm
  obtain ⟨m', r1', _⟩ := (saneS_iff t).1 h.st
  have hmm : m ≤ m' := by
    cases hlast : s.ctrls.getLast? with
    | none =>
      rw [List.getLast?_eq_none_iff] at hlast
      rw [hlast] at hm
      cases hm
      exact risesB_ge r1'
    | some c =>
      obtain ⟨rfl, _⟩ := risesB_last hm hlast
      rw [List.getLast?_eq_getElem?] at hlast
      have hlt := (List.getElem?_eq_some_iff.1 hlast).1
      have hd := List.getElem?_eq_getElem (l := t.ctrls) (i := s.ctrls.length - 1) (by rw [← h.same.1]; exact hlt)
      have := (h.same.2 _ c _ hlast hd (fun j c' _ hc' => hL' j c' hc')).2.1
      rw [this]
      exact (rises_get r1' hd).1
  rw [a.take m m hm (Int.le_refl _), h.live hL' m hm, b.take m' m r1' hmm]
/-- What is open at last. -/
theorem Same2.top {s t : Stk} {c d : Ctl} (h : Same2 s t) (hc : s.ctrls.getLast? = some c) (hd : t.ctrls.getLast? = some d) (hj : ∀ (j : Nat) (c' : Ctl), j < s.ctrls.length - 1 → s.ctrls[j]? = some c' → c'.dead = false) :
    c.op = d.op ∧ c.ht = d.ht ∧ c.dead = d.dead ∧ (1 < s.ctrls.length → c.fin = d.fin) ∧ (c.dead = true → s.vals.take c.ht.toNat = t.vals.take c.ht.toNat) := by
  rw [List.getLast?_eq_getElem?] at hc hd
  rw [← h.1] at hd
  obtain ⟨h1, h2, h3, h4, h5⟩ := h.2 _ c d hc hd hj
  exact ⟨h1, h2, h3, fun hn => h4 (by omega), h5⟩
theorem Agree.topC {s t : Stk} {c d : Ctl} (h : Agree s t) (hL : Live s) (e1 : topC s = .ok c) (e2 : Go.Proofs.YtfpioigggjnffaaDoor.E.topC t = .ok d) : c.op = d.op ∧ c.ht = d.ht ∧ c.dead = d.dead ∧ (1 < s.ctrls.length → c.fin = d.fin) := by
  obtain ⟨h1, h2, h3, h4, _⟩ := h.same.top (topC_ok e1).2 (topC_ok e2).2 (fun j c' _ hc' => hL j c' hc')
  exact ⟨h1, h2, h3, h4⟩
theorem Agree.want {s t s' t' : Stk} {l l' : List Int} (h : Agree s t) (hl : Live s → l = l') (e1 : wantS s l = .ok s') (e2 : wantS t l' = .ok t') : Agree s' t' := by
  refine h.tk (Tk.want e1) (Tk.want e2) fun hL => ?_
  have := hl hL
  subst this
  unfold wantS at e1 e2
  rw [h.ss] at e1
  rw [h.st] at e2
  cases hle : l.isEmpty with
  | true =>
    rw [hle] at e1 e2
    cases e1; cases e2
    exact h.live hL
  | false =>
    rw [hle] at e1 e2
    simp only [Bool.and_false, Bool.false_eq_true, if_false] at e1 e2
    cases ht : Go.Proofs.YtfpioigggjnffaaDoor.E.topC s with
    | error x => rw [ht] at e1; cases e1
    | ok c =>
      cases ht2 : Go.Proofs.YtfpioigggjnffaaDoor.E.topC t with
      | error x => rw [ht2] at e2; cases e2
      | ok d =>
        rw [ht] at e1
        rw [ht2] at e2
        obtain ⟨_, q2, q3, _⟩ := h.topC hL ht ht2
        simp only at e1 e2
        rw [← q2, ← q3, ← h.live hL] at e2
        cases hw : wantV c.ht c.dead l.reverse s.vals with
        | error x => rw [hw] at e1; cases e1
        | ok v => rw [hw] at e1 e2; cases e1; cases e2; rfl
theorem Agree.push {s t s' t' : Stk} {l l' : List Int} (h : Agree s t) (hl : Live s → l = l') (e1 : pushS s l = .ok s') (e2 : pushS t l' = .ok t') : Agree s' t' :=
  h.tk (Tk.push h.ss e1) (Tk.push h.st e2) fun hL => by rw [(pushS_ok e1).2.2, (pushS_ok e2).2.2, h.live hL, hl hL]
theorem Agree.pop {s t s' t' : Stk} {x y : Int} (h : Agree s t) (e1 : popS s = .ok (x, s')) (e2 : popS t = .ok (y, t')) : Agree s' t' ∧ (Live s → x = y) := by
  have key : Live s → x = y ∧ s'.vals = t'.vals := fun hL => by
    unfold popS at e1 e2
    cases ht : Go.Proofs.YtfpioigggjnffaaDoor.E.topC s with
    | error x => rw [ht] at e1; cases e1
    | ok c =>
      cases ht2 : Go.Proofs.YtfpioigggjnffaaDoor.E.topC t with
      | error x => rw [ht2] at e2; cases e2
      | ok d =>
        rw [ht] at e1
        rw [ht2] at e2
        obtain ⟨_, q2, q3, _⟩ := h.topC hL ht ht2
        simp only at e1 e2
        rw [← q2, ← q3, ← h.live hL] at e2
        cases hw : popV c.ht c.dead s.vals with
        | error x => rw [hw] at e1; cases e1
        | ok v => rw [hw] at e1 e2; cases e1; cases e2; exact ⟨rfl, rfl⟩
  exact ⟨h.tk (Tk.pop e1) (Tk.pop e2) fun hL => (key hL).2, fun hL => (key hL).1⟩
end Go.Proofs.YtfpioigggjnffaaDoor.E

/- Chapter 10, plain: what two runs have in common, where something is opened, closed, killed. -/
set_option autoImplicit false
namespace Go.Proofs.YtfpioigggjnffaaDoor.E
open Go.Ev

theorem Agree.open {s t s' t' : Stk} {op : Int} {l l' : List Int} (h : Agree s t) (hl : Live s → l = l') (e1 : openS s op l = .ok s') (e2 : openS t op l' = .ok t') : Agree s' t' := by
  obtain ⟨a1, a2, a3⟩ := openS_ok e1
  obtain ⟨b1, b2, b3⟩ := openS_ok e2
  refine ⟨a1, b1, ⟨by rw [a2, b2]; simp [h.same.1], fun k c d hc hd hj => ?_⟩, fun hL => ?_⟩
  · rw [a2] at hc
    rw [b2] at hd
    by_cases hk : k < s.ctrls.length
    · rw [List.getElem?_append_left hk] at hc
      rw [List.getElem?_append_left (by rw [← h.same.1]; exact hk)] at hd
      have := h.same.2 k c d hc hd (fun j c' hjk hc' => hj j c' hjk (by rw [a2, List.getElem?_append_left (by omega)]; exact hc'))
      rw [a3, b3]; exact this
    · have hk2 : k = s.ctrls.length := by
        have := (List.getElem?_eq_some_iff.1 hc).1
        simp only [List.length_append, List.length_cons, List.length_nil] at this
        omega
      subst hk2
      rw [List.getElem?_append_right (Nat.le_refl _), Nat.sub_self] at hc
      rw [h.same.1, List.getElem?_append_right (Nat.le_refl _), Nat.sub_self] at hd
      simp only [List.getElem?_cons_zero, Option.some.injEq] at hc hd
      have hL : Live s := fun j c' hc' => by
        have hlt := (List.getElem?_eq_some_iff.1 hc').1
        exact hj j c' hlt (by rw [a2, List.getElem?_append_left hlt]; exact hc')
      subst hc; subst hd
      exact ⟨rfl, by simp only; rw [h.live hL], rfl, fun _ => hl hL, fun hd => by cases hd⟩
  · rw [a3, b3]
    exact h.live fun j c' hc' => hL j c' (by rw [a2, List.getElem?_append_left (List.getElem?_eq_some_iff.1 hc').1]; exact hc')
theorem dropLast_get {α : Type} {l : List α} {k : Nat} {x : α} (h : l.dropLast[k]? = some x) : l[k]? = some x ∧ k < l.length - 1 := by
  have hlt := (List.getElem?_eq_some_iff.1 h).1
  rw [List.length_dropLast] at hlt
  rw [List.getElem?_dropLast, if_pos hlt] at h
  exact ⟨h, hlt⟩
theorem dropLast_of {α : Type} {l : List α} {k : Nat} {x : α} (h : l[k]? = some x) (hk : k < l.length - 1) : l.dropLast[k]? = some x := by
  rw [List.getElem?_dropLast, if_pos hk]; exact h
theorem Agree.close {s t s' t' : Stk} {c d : Ctl} (h : Agree s t) (hn : 1 < s.ctrls.length) (e1 : closeS s = .ok (c, s')) (e2 : closeS t = .ok (d, t')) : Agree s' t' ∧ (Live s' → c.fin = d.fin) := by
  obtain ⟨a1, a2, a3, a4, a5, _⟩ := closeS_ok e1
  obtain ⟨b1, b2, b3, b4, b5, _⟩ := closeS_ok e2
  have top : Live s' → c.op = d.op ∧ c.ht = d.ht ∧ c.dead = d.dead ∧ (1 < s.ctrls.length → c.fin = d.fin) ∧ (c.dead = true → s.vals.take c.ht.toNat = t.vals.take c.ht.toNat) := fun hL =>
    h.same.top a2 b2 fun j c' hj hc' => hL j c' (by rw [a3]; exact dropLast_of hc' hj)
  obtain ⟨m, r1, _⟩ := (saneS_iff s).1 h.ss
  obtain ⟨m', r1', _⟩ := (saneS_iff t).1 h.st
  obtain ⟨rfl, _⟩ := risesB_last r1 a2
  obtain ⟨rfl, _⟩ := risesB_last r1' b2
  have ta : ∀ x, x ≤ c.ht → s'.vals.take x.toNat = s.vals.take x.toNat := fun x hx => prefix_take a4 (by omega)
  have tb : ∀ x, x ≤ d.ht → t'.vals.take x.toNat = t.vals.take x.toNat := fun x hx => prefix_take b4 (by omega)
  have fa : s'.vals = s.vals.take c.ht.toNat := by rw [← ta c.ht (Int.le_refl _), List.take_of_length_le (by omega)]
  have fb : t'.vals = t.vals.take d.ht.toNat := by rw [← tb d.ht (Int.le_refl _), List.take_of_length_le (by omega)]
  refine ⟨⟨a1, b1, ⟨by rw [a3, b3, List.length_dropLast, List.length_dropLast, h.same.1], fun k x y hx hy hj => ?_⟩, fun hL => ?_⟩, fun hL => (top hL).2.2.2.1 hn⟩
  · rw [a3] at hx
    rw [b3] at hy
    obtain ⟨hx1, hx2⟩ := dropLast_get hx
    obtain ⟨hy1, hy2⟩ := dropLast_get hy
    obtain ⟨q1, q2, q3, q4, q5⟩ := h.same.2 k x y hx1 hy1 fun j c' hjk hc' => hj j c' hjk (by rw [a3]; exact dropLast_of hc' (by omega))
    refine ⟨q1, q2, q3, q4, fun hd => ?_⟩
    rw [ta x.ht (rises_get r1 hx1).1, q5 hd, tb x.ht (by rw [q2]; exact (rises_get r1' hy1).1)]
  · obtain ⟨q1, q2, q3, q4, q5⟩ := top hL
    rw [fa, fb, ← q2]
    cases hd : c.dead with
    | true => exact q5 hd
    | false =>
      rw [h.live fun j c' hc' => ?_]
      by_cases hj : j < s.ctrls.length - 1
      · exact hL j c' (by rw [a3]; exact dropLast_of hc' hj)
      · have : j = s.ctrls.length - 1 := by have := (List.getElem?_eq_some_iff.1 hc').1; omega
        rw [List.getLast?_eq_getElem?, ← this, hc'] at a2
        cases a2; exact hd
theorem Weak.kill {s t s' t' : Stk} (h : Weak s t) (e1 : killS s = .ok s') (e2 : killS t = .ok t') : Agree s' t' := by
  obtain ⟨a1, a2, a3, c, a4, a5, a6⟩ := killS_ok e1
  obtain ⟨b1, b2, b3, d, b4, b5, b6⟩ := killS_ok e2
  obtain ⟨m, r1, _⟩ := (saneS_iff s).1 h.ss
  obtain ⟨m', r1', _⟩ := (saneS_iff t).1 h.st
  obtain ⟨rfl, _⟩ := risesB_last r1 a4
  obtain ⟨rfl, _⟩ := risesB_last r1' b4
  have hne : 0 < s.ctrls.length := by
    cases hh : s.ctrls with
    | nil => rw [hh] at a4; cases a4
    | cons _ _ => simp
  have ta : ∀ x, x ≤ c.ht → s'.vals.take x.toNat = s.vals.take x.toNat := fun x hx => prefix_take a3 (by omega)
  have tb : ∀ x, x ≤ d.ht → t'.vals.take x.toNat = t.vals.take x.toNat := fun x hx => prefix_take b3 (by omega)
  have early : ∀ {s s' : Stk} {c : Ctl} {k : Nat} {x : Ctl}, s'.ctrls = s.ctrls.dropLast ++ [{ c with dead := true }] → k < s.ctrls.length - 1 → (s'.ctrls[k]? = some x ↔ s.ctrls[k]? = some x) := fun {s s' c k x} he hk => by
    rw [he, List.getElem?_append_left (by rw [List.length_dropLast]; exact hk), List.getElem?_dropLast, if_pos hk]
  refine ⟨a1, b1, ⟨by rw [a2, b2]; exact h.same.1, fun k x y hx hy hj => ?_⟩, fun hL => ?_⟩
  · by_cases hk : k < s.ctrls.length - 1
    · have hx1 := (early a5 hk).1 hx
      have hy1 := (early b5 (by rw [← h.same.1]; exact hk)).1 hy
      obtain ⟨q1, q2, q3, q4, q5⟩ := h.same.2 k x y hx1 hy1 fun j c' hjk hc' => hj j c' hjk ((early a5 (by omega)).2 hc')
      refine ⟨q1, q2, q3, q4, fun hd => ?_⟩
      rw [ta x.ht (rises_get r1 hx1).1, q5 hd, tb x.ht (by rw [q2]; exact (rises_get r1' hy1).1)]
    · have hk2 : k = s.ctrls.length - 1 := by
        have := (List.getElem?_eq_some_iff.1 hx).1
        rw [a2] at this; omega
      subst hk2
      obtain ⟨q1, q2, q3, q4, q5⟩ := h.same.top a4 b4 fun j c' hjk hc' => hj j c' hjk ((early a5 hjk).2 hc')
      rw [a5, List.getElem?_append_right (by rw [List.length_dropLast]; exact Nat.le_refl _), List.length_dropLast, Nat.sub_self] at hx
      rw [b5, h.same.1, List.getElem?_append_right (by rw [List.length_dropLast]; exact Nat.le_refl _), List.length_dropLast, Nat.sub_self] at hy
      simp only [List.getElem?_cons_zero, Option.some.injEq] at hx hy
      subst hx; subst hy
      refine ⟨q1, q2, rfl, fun hk => q4 (by omega), fun _ => ?_⟩
      simp only
      rw [ta c.ht (Int.le_refl _)]
      conv => rhs; rw [q2]
      rw [tb d.ht (Int.le_refl _)]
      cases hd : c.dead with
      | true => rw [q5 hd, q2]
      | false =>
        have hL : Live s := fun j c' hc' => by
          by_cases hj2 : j < s.ctrls.length - 1
          · exact hj j c' hj2 ((early a5 hj2).2 hc')
          · have : j = s.ctrls.length - 1 := by have := (List.getElem?_eq_some_iff.1 hc').1; omega
            rw [List.getLast?_eq_getElem?, ← this, hc'] at a4
            cases a4; exact hd
        rw [h.live hL c.ht r1, q2]
  · have := hL (s.ctrls.length - 1) { c with dead := true } (by
      rw [a5, List.getElem?_append_right (by rw [List.length_dropLast]; exact Nat.le_refl _), List.length_dropLast, Nat.sub_self]; rfl)
    cases this
end Go.Proofs.YtfpioigggjnffaaDoor.E

/- Chapter 10, plain: what two runs have in common, with the first error; branches. -/
set_option autoImplicit false
namespace Go.Proofs.YtfpioigggjnffaaDoor.E
open Go.Ev
variable {env env' : TEnv}

def AgreeW (w v : WkS) : Prop := w.e = 0 → v.e = 0 → Agree w.s v.s
def WeakW (w v : WkS) : Prop := w.e = 0 → v.e = 0 → Weak w.s v.s
theorem AgreeW.weak {w v : WkS} (h : AgreeW w v) : WeakW w v := fun a b => (h a b).weak
theorem wants_ne {s : Stk} {l : List Int} : ∀ e, wantS s l = .error e → e ≠ 0 := fun _ x => by have := wantS_err x; omega
theorem pushs_ne {s : Stk} {l : List Int} : ∀ e, pushS s l = .error e → e ≠ 0 := fun _ x => by have := pushS_err x; omega
theorem opens_ne {s : Stk} {op : Int} {l : List Int} : ∀ e, openS s op l = .error e → e ≠ 0 := fun _ x => by have := openS_err x; omega
theorem kills_ne {s : Stk} : ∀ e, killS s = .error e → e ≠ 0 := fun _ x => by have := killS_err x; omega
theorem AgreeW.want {w v : WkS} (h : AgreeW w v) {l l' : List Int} (hl : w.e = 0 → v.e = 0 → Live w.s → l = l') : AgreeW (w.want l) (v.want l') := fun h0 h1 => by
  obtain ⟨a, s, e1, e2⟩ := put_e0 wants_ne h0
  obtain ⟨b, t, f1, f2⟩ := put_e0 wants_ne h1
  show Agree (w.put (wantS w.s l)).s (v.put (wantS v.s l')).s
  rw [e2, f2]; exact (h a b).want (hl a b) e1 f1
theorem AgreeW.push {w v : WkS} (h : AgreeW w v) {l l' : List Int} (hl : w.e = 0 → v.e = 0 → Live w.s → l = l') : AgreeW (w.push l) (v.push l') := fun h0 h1 => by
  obtain ⟨a, s, e1, e2⟩ := put_e0 pushs_ne h0
  obtain ⟨b, t, f1, f2⟩ := put_e0 pushs_ne h1
  show Agree (w.put (pushS w.s l)).s (v.put (pushS v.s l')).s
  rw [e2, f2]; exact (h a b).push (hl a b) e1 f1
theorem AgreeW.opens {w v : WkS} (h : AgreeW w v) (op : Int) {l l' : List Int} (hl : w.e = 0 → v.e = 0 → Live w.s → l = l') : AgreeW (w.opens op l) (v.opens op l') := fun h0 h1 => by
  obtain ⟨a, s, e1, e2⟩ := put_e0 opens_ne h0
  obtain ⟨b, t, f1, f2⟩ := put_e0 opens_ne h1
  show Agree (w.put (openS w.s op l)).s (v.put (openS v.s op l')).s
  rw [e2, f2]; exact (h a b).open (hl a b) e1 f1
theorem WeakW.want {w v : WkS} (h : WeakW w v) (l l' : List Int) : WeakW (w.want l) (v.want l') := fun h0 h1 => by
  obtain ⟨a, s, e1, e2⟩ := put_e0 wants_ne h0
  obtain ⟨b, t, f1, f2⟩ := put_e0 wants_ne h1
  show Weak (w.put (wantS w.s l)).s (v.put (wantS v.s l')).s
  rw [e2, f2]; exact (h a b).tk (Tk.want e1) (Tk.want f1)
theorem WeakW.kill {w v : WkS} (h : WeakW w v) : AgreeW w.kill v.kill := fun h0 h1 => by
  obtain ⟨a, s, e1, e2⟩ := put_e0 kills_ne h0
  obtain ⟨b, t, f1, f2⟩ := put_e0 kills_ne h1
  show Agree (w.put (killS w.s)).s (v.put (killS v.s)).s
  rw [e2, f2]; exact (h a b).kill e1 f1
theorem AgreeW.must {w v : WkS} (h : AgreeW w v) {b b' : Bool} {e : Int} (he : e ≠ 0) : AgreeW (w.must b e) (v.must b' e) := fun h0 h1 => by
  obtain ⟨a, e1⟩ := must_e0 he h0
  obtain ⟨b, e2⟩ := must_e0 he h1
  rw [e1, e2]; exact h a b
theorem pop_e0 {w : WkS} (h : w.pop.2.e = 0) : w.e = 0 ∧ ∃ x t, popS w.s = .ok (x, t) ∧ w.pop = (x, ⟨t, 0⟩) := by
  unfold WkS.pop at h ⊢
  cases hq : popS w.s with
  | ok r =>
    obtain ⟨x, t⟩ := r
    rw [hq] at h
    have a := (put_e0 (fun _ x => by cases x) h).1
    exact ⟨a, x, t, rfl, by simp only; rw [put_ok a]⟩
  | error e =>
    rw [hq] at h
    obtain ⟨_, s, e1, _⟩ := put_e0 (fun e' x => by cases x; have := popS_err hq; omega) h
    cases e1
theorem closed_e0 {w : WkS} (h : w.closed.2.e = 0) : w.e = 0 ∧ ∃ x t, closeS w.s = .ok (x, t) ∧ w.closed = (x, ⟨t, 0⟩) := by
  unfold WkS.closed at h ⊢
  cases hq : closeS w.s with
  | ok r =>
    obtain ⟨x, t⟩ := r
    rw [hq] at h
    have a := (put_e0 (fun _ x => by cases x) h).1
    exact ⟨a, x, t, rfl, by simp only; rw [put_ok a]⟩
  | error e =>
    rw [hq] at h
    obtain ⟨_, s, e1, _⟩ := put_e0 (fun e' x => by cases x; have := closeS_err hq; omega) h
    cases e1
theorem AgreeW.pop {w v : WkS} (h : AgreeW w v) : AgreeW w.pop.2 v.pop.2 ∧ (w.pop.2.e = 0 → v.pop.2.e = 0 → Live w.pop.2.s → w.pop.1 = v.pop.1) := by
  have both : w.pop.2.e = 0 → v.pop.2.e = 0 → Agree w.pop.2.s v.pop.2.s ∧ (Live w.pop.2.s → w.pop.1 = v.pop.1) := fun h0 h1 => by
    obtain ⟨a, x, s, e1, e2⟩ := pop_e0 h0
    obtain ⟨b, y, t, f1, f2⟩ := pop_e0 h1
    rw [e2, f2]
    obtain ⟨q1, q2⟩ := (h a b).pop e1 f1
    exact ⟨q1, fun hL => q2 (hL.ctrls (popS_ok e1).2.1)⟩
  exact ⟨fun a b => (both a b).1, fun a b => (both a b).2⟩
theorem AgreeW.closed {w v : WkS} (h : AgreeW w v) (hn : w.e = 0 → 1 < w.s.ctrls.length) : AgreeW w.closed.2 v.closed.2 ∧ (w.closed.2.e = 0 → v.closed.2.e = 0 → Live w.closed.2.s → w.closed.1.fin = v.closed.1.fin) := by
  have both : w.closed.2.e = 0 → v.closed.2.e = 0 → Agree w.closed.2.s v.closed.2.s ∧ (Live w.closed.2.s → w.closed.1.fin = v.closed.1.fin) := fun h0 h1 => by
    obtain ⟨a, x, s, e1, e2⟩ := closed_e0 h0
    obtain ⟨b, y, t, f1, f2⟩ := closed_e0 h1
    rw [e2, f2]
    exact (h a b).close (hn a) e1 f1
  exact ⟨fun a b => (both a b).1, fun a b => (both a b).2⟩
theorem labels_is {w : WkS} {t l : List Int} (h : (labelsS w t l).e = 0) : labelsS w t l = w := by
  induction l generalizing w with
  | nil => rfl
  | cons n l ih =>
    simp only [labelsS] at h ⊢
    have h1 := ih h
    rw [h1] at h ⊢
    obtain ⟨h2, h3⟩ := must_e0 (by decide) h
    rw [h3]
    obtain ⟨_, l', _, e⟩ := label_e0 h2
    rw [e]
/-- All types are wanted of what is come to: they stood there. -/
theorem wantV_live {h : Int} {l v v' : List Int} (hz : 0 ≤ h) (e : wantV h false l v = .ok v') (hv : ∀ (j : Nat) x, h ≤ (j : Int) → v[j]? = some x → x ≠ 0) (hl : NZ l) : v = v' ++ l.reverse := by
  induction l generalizing v with
  | nil => cases e; simp
  | cons t l ih =>
    simp only [wantV] at e
    cases hp : popV h false v with
    | error x => rw [hp] at e; cases e
    | ok r =>
      obtain ⟨c, w⟩ := r
      rw [hp] at e
      simp only at e
      split at e
      · cases e
      · rename_i hct
        unfold popV at hp
        split at hp
        · rename_i hlt
          have hlt' : h < (v.length : Int) := hlt
          cases hp
          have hne : v ≠ [] := fun hh => by rw [hh] at hlt'; simp only [List.length_nil] at hlt'; omega
          have hlast : v = v.dropLast ++ [v.getLastD 0] := by
            have h1 := List.dropLast_concat_getLast hne
            rw [List.getLastD_eq_getLast?, List.getLast?_eq_some_getLast hne]
            exact h1.symm
          have := ih e (fun j x hj hx => hv j x hj (dropLast_get hx).1) (fun x hx => hl x (List.mem_cons_of_mem _ hx))
          have hlen : 0 < v.length := by cases v with | nil => exact absurd rfl hne | cons _ _ => simp
          have hc : v.getLastD 0 ≠ 0 := hv (v.length - 1) _ (by omega) (by
            rw [List.getLastD_eq_getLast?, List.getLast?_eq_some_getLast hne, ← List.getLast?_eq_getElem?, List.getLast?_eq_some_getLast hne]; rfl)
          have ht : t ≠ 0 := hl t (List.mem_cons_self ..)
          have heq : v.getLastD 0 = t := Decidable.byContradiction fun hne2 => hct ⟨hc, ht, hne2⟩
          rw [List.reverse_cons, ← List.append_assoc, ← this, ← heq]; exact hlast
        · simp at hp
end Go.Proofs.YtfpioigggjnffaaDoor.E

/- Chapter 10, plain: what two runs have in common, under an instruction. -/
set_option autoImplicit false
namespace Go.Proofs.YtfpioigggjnffaaDoor.E
open Go.Ev
variable {acc : Int → Int × Int × Bool} {shape : Int → Option (List Int × Int)} {env env' : TEnv} {sane : TInstr → Bool}

/-- What is wanted and laid again, where it is come to, stands there. -/
theorem want_push {s s' s'' : Stk} {l : List Int} (hl : LiveOk s) (hL : Live s) (hn : NZ l) (e1 : wantS s l = .ok s') (e2 : pushS s' l = .ok s'') : s''.vals = s.vals := by
  rw [(pushS_ok e2).2.2]
  unfold wantS at e1
  split at e1
  · rename_i hh
    simp only [Bool.and_eq_true, List.isEmpty_iff] at hh
    cases e1
    rw [hh.2, List.append_nil]
  · cases ht : topC s with
    | error x => rw [ht] at e1; cases e1
    | ok c =>
      obtain ⟨r1, r2, r3, r4, r5⟩ := topC_rises ht
      have hc := (topC_ok ht).2
      rw [List.getLast?_eq_getElem?] at hc
      have hd := hL _ c hc
      rw [ht] at e1
      simp only [hd] at e1
      cases hw : wantV c.ht false l.reverse s.vals with
      | error x => rw [hw] at e1; cases e1
      | ok v =>
        rw [hw] at e1
        cases e1
        have := wantV_live r5 hw (fun j x hj hx => hl _ c hc hd j hj (fun c' hc' => by
          have := (List.getElem?_eq_some_iff.1 hc').1
          have := (List.getElem?_eq_some_iff.1 hc).1
          omega) x hx) (fun x hx => hn x (List.mem_reverse.1 hx))
        rw [List.reverse_reverse] at this
        exact this.symm
theorem AgreeW.again {w v : WkS} (h : AgreeW w v) (hw : WL w) (hv : WL v) {l l' : List Int} (hl : NZ l) (hl' : NZ l') : AgreeW ((w.want l).push l) ((v.want l').push l') := fun h0 h1 => by
  obtain ⟨a, s, e1, e2⟩ := put_e0 pushs_ne h0
  obtain ⟨b, t, f1, f2⟩ := put_e0 pushs_ne h1
  obtain ⟨a', s', e1', e2'⟩ := put_e0 wants_ne a
  obtain ⟨b', t', f1', f2'⟩ := put_e0 wants_ne b
  show Agree ((w.want l).put (pushS (w.want l).s l)).s ((v.want l').put (pushS (v.want l').s l')).s
  rw [e2, f2]
  have e3 : (w.want l).s = s' := e2'
  have f3 : (v.want l').s = t' := f2'
  rw [e3] at e1
  rw [f3] at f1
  have hA := h a' b'
  have hB : Agree s' t' ∨ True := .inr trivial
  have T1 : Tk w.s s := by
    have p := Tk.want e1'
    have q := Tk.push p.sane e1
    exact ⟨q.sane, q.ctrls.trans p.ctrls, fun m x hm hx => (q.take m x (by rw [p.ctrls]; exact hm) hx).trans (p.take m x hm hx)⟩
  have T2 : Tk v.s t := by
    have p := Tk.want f1'
    have q := Tk.push p.sane f1
    exact ⟨q.sane, q.ctrls.trans p.ctrls, fun m x hm hx => (q.take m x (by rw [p.ctrls]; exact hm) hx).trans (p.take m x hm hx)⟩
  refine hA.tk T1 T2 fun hL => ?_
  have hL2 : Live v.s := fun k d hd => by
    have hlt := (List.getElem?_eq_some_iff.1 hd).1
    rw [← hA.same.1] at hlt
    have hc := List.getElem?_eq_getElem hlt
    rw [← (hA.same.2 k _ d hc hd fun j c' _ hc' => hL j c' hc').2.2.1]
    exact hL k _ hc
  rw [want_push (hw a').2 hL hl e1' e1, want_push (hv b').2 hL2 hl' f1' f1]
  exact hA.live hL
theorem AgreeW.branch {w v : WkS} (h : AgreeW w v) (hw : WL w) (hv : WL v) (i : TInstr) : AgreeW (branchS env w i) (branchS env' v i) := by
  unfold branchS
  by_cases h15 : i.op = 15
  · rw [if_pos h15, if_pos h15]; exact (h.weak.want _ _).kill
  · rw [if_neg h15, if_neg h15]
    simp only
    have h1 : AgreeW (w.label i.a).2 (v.label i.a).2 := fun h0 h1 => by
      obtain ⟨a, l, _, e⟩ := label_e0 h0
      obtain ⟨b, l', _, f⟩ := label_e0 h1
      rw [e, f]; exact h a b
    have h2 : AgreeW (labelsS (w.label i.a).2 (w.label i.a).1 i.labels) (labelsS (v.label i.a).2 (v.label i.a).1 i.labels) := fun h0 h2 => by
      have a := labels_e0 h0
      have b := labels_e0 h2
      rw [labels_is h0, labels_is h2]; exact h1 a b
    have hw2 := (hw.label i.a).labels (w.label i.a).1 i.labels
    have hv2 := (hv.label i.a).labels (v.label i.a).1 i.labels
    have nw := label_nz w i.a
    have nv := label_nz v i.a
    generalize (labelsS (w.label i.a).2 (w.label i.a).1 i.labels) = x at *
    generalize (labelsS (v.label i.a).2 (v.label i.a).1 i.labels) = y at *
    by_cases h12 : i.op = 12
    · have h13 : ¬ i.op = 13 := by omega
      rw [if_pos h12, if_pos h12, if_neg h13, if_neg h13]; exact (h2.weak.want _ _).kill
    · rw [if_neg h12, if_neg h12]
      by_cases h13 : i.op = 13
      · rw [if_pos h13, if_pos h13]
        exact (h2.want fun _ _ _ => rfl).again (hw2.want _) (hv2.want _) nw nv
      · rw [if_neg h13, if_neg h13]; exact ((h2.weak.want _ _).want _ _).kill
theorem topIf_len {r : List Int} {s : Stk} (h : BaseOk r s) (e : topIf s = true) : 1 < s.ctrls.length := by
  obtain ⟨d, rest, hb⟩ := h
  unfold topIf at e
  rw [hb] at e ⊢
  cases rest with
  | nil => simp at e
  | cons a r => simp
theorem AgreeW.nested {w v : WkS} {r : List Int} (h : AgreeW w v) (hb : w.e = 0 → BaseOk r w.s) (i : TInstr) : AgreeW (nestedS w i) (nestedS v i) := by
  unfold nestedS
  by_cases h4 : i.op = 4
  · rw [if_pos h4, if_pos h4]; exact (h.want fun _ _ _ => rfl).opens _ fun _ _ _ => rfl
  · rw [if_neg h4, if_neg h4]
    by_cases h5 : i.op = 5
    · rw [if_pos h5, if_pos h5]
      have hm := h.must (b := topIf w.s) (b' := topIf v.s) (e := 5) (by decide)
      have hc := hm.closed (fun h0 => by
        obtain ⟨h1, h2⟩ := must_e0 (by decide) h0
        rw [h2]; exact topIf_len (hb h1) (must_true (by decide) h0))
      exact hc.1.opens _ fun h0 h1 hL => hc.2 h0 h1 hL
    · rw [if_neg h5, if_neg h5]
      by_cases h11 : i.op = 11
      · rw [if_pos h11, if_pos h11]
        have hm : AgreeW (w.must (decide (1 < w.s.ctrls.length)) 5) (v.must (decide (1 < v.s.ctrls.length)) 5) := h.must (by decide)
        have hc := hm.closed (fun h0 => by
          obtain ⟨h1, h2⟩ := must_e0 (by decide) h0
          rw [h2]; simpa using must_true (by decide) h0)
        refine AgreeW.push (hc.1.must (by decide)) fun h0 h1 hL => ?_
        obtain ⟨q1, q2⟩ := must_e0 (by decide) h0
        obtain ⟨p1, p2⟩ := must_e0 (by decide) h1
        rw [q2] at hL
        exact hc.2 q1 p1 hL
      · rw [if_neg h11, if_neg h11]; exact h.opens _ fun _ _ _ => rfl
theorem AgreeW.call {w v : WkS} (he : SameEnv env env') (h : AgreeW w v) (i : TInstr) : AgreeW (callS env w i) (callS env' v i) := by
  have ht : typeS env' i.a = typeS env i.a := by unfold typeS; rw [he.funcs, he.types]
  unfold callS
  simp only
  rw [he.tables, he.types, ht]
  refine AgreeW.push (AgreeW.want ?_ fun _ _ _ => rfl) fun _ _ _ => rfl
  by_cases h17 : i.op = 17
  · rw [if_pos h17, if_pos h17, if_pos h17]; exact (h.must (by decide)).want fun _ _ _ => rfl
  · rw [if_neg h17, if_neg h17, if_neg h17]; exact h.must (by decide)
theorem AgreeW.chosen {w v : WkS} (h : AgreeW w v) (i : TInstr) : AgreeW (chosenS w i) (chosenS v i) := by
  unfold chosenS
  by_cases h26 : i.op = 26
  · rw [if_pos h26, if_pos h26]; exact h.pop.1
  · rw [if_neg h26, if_neg h26]
    simp only
    have h1 := (h.want (l := [127]) (l' := [127]) fun _ _ _ => rfl).pop
    have h2 := h1.1.pop
    refine AgreeW.push (h2.1.must (by decide)) fun h0 h3 hL => ?_
    obtain ⟨q1, q2⟩ := must_e0 (by decide) h0
    obtain ⟨p1, p2⟩ := must_e0 (by decide) h3
    rw [q2] at hL
    have e1 := h2.2 q1 p1 hL
    obtain ⟨a, x, t, g1, g2⟩ := pop_e0 q1
    obtain ⟨b, _⟩ := pop_e0 p1
    have hL2 : Live (w.want [127]).pop.2.s := by
      rw [g2] at hL
      exact hL.ctrls (popS_ok g1).2.1
    rw [e1, h1.2 a b hL2]
theorem AgreeW.vars {w v : WkS} (he : SameEnv env env') (h : AgreeW w v) (i : TInstr) : AgreeW (variableS env w i) (variableS env' v i) := by
  have key : ∀ r r' : Int × WkS, AgreeW r.2 r'.2 ∧ r.1 = r'.1 → AgreeW
      (if i.op = 32 ∨ i.op = 34 ∨ i.op = 35 then (if i.op ≠ 32 ∧ i.op ≠ 35 then r.2.want [r.1] else r.2).push [r.1] else (if i.op ≠ 32 ∧ i.op ≠ 35 then r.2.want [r.1] else r.2))
      (if i.op = 32 ∨ i.op = 34 ∨ i.op = 35 then (if i.op ≠ 32 ∧ i.op ≠ 35 then r'.2.want [r'.1] else r'.2).push [r'.1] else (if i.op ≠ 32 ∧ i.op ≠ 35 then r'.2.want [r'.1] else r'.2)) := fun r r' ⟨hr, hx⟩ => by
    rw [hx]
    have h1 : AgreeW (if i.op ≠ 32 ∧ i.op ≠ 35 then r.2.want [r'.1] else r.2) (if i.op ≠ 32 ∧ i.op ≠ 35 then r'.2.want [r'.1] else r'.2) := by
      by_cases hc : i.op ≠ 32 ∧ i.op ≠ 35
      · rw [if_pos hc, if_pos hc]; exact hr.want fun _ _ _ => rfl
      · rw [if_neg hc, if_neg hc]; exact hr
    by_cases hc : i.op = 32 ∨ i.op = 34 ∨ i.op = 35
    · rw [if_pos hc, if_pos hc]; exact h1.push fun _ _ _ => rfl
    · rw [if_neg hc, if_neg hc]; exact h1
  unfold variableS
  simp only
  refine key _ _ ?_
  rw [he.locs, he.globals]
  by_cases hc : i.op ≤ 34
  · rw [if_pos hc, if_pos hc]
    cases env.locs[i.a.toNat]? with
    | some t => exact ⟨h, rfl⟩
    | none => exact ⟨h.must (by decide), rfl⟩
  · rw [if_neg hc, if_neg hc]
    cases env.globals[i.a.toNat]? with
    | some t => exact ⟨h.must (by decide), rfl⟩
    | none => exact ⟨h.must (by decide), rfl⟩
theorem AgreeW.mem {w v : WkS} (he : SameEnv env env') (h : AgreeW w v) (i : TInstr) : AgreeW (memoryS acc env w i) (memoryS acc env' v i) := by
  unfold memoryS
  simp only
  rw [he.mems]
  have hm : AgreeW (w.must (decide (0 < env.mems)) 6) (v.must (decide (0 < env.mems)) 6) := h.must (by decide)
  by_cases h63 : i.op = 63
  · rw [if_pos h63, if_pos h63]; exact hm.push fun _ _ _ => rfl
  · rw [if_neg h63, if_neg h63]
    by_cases h64 : i.op = 64
    · rw [if_pos h64, if_pos h64]; exact (hm.want fun _ _ _ => rfl).push fun _ _ _ => rfl
    · rw [if_neg h64, if_neg h64]
      have hn := hm.must (b := decide (i.a ≤ 3) && decide ((2 : Int) ^ i.a.toNat ≤ (acc i.op).2.1)) (b' := decide (i.a ≤ 3) && decide ((2 : Int) ^ i.a.toNat ≤ (acc i.op).2.1)) (e := 5) (by decide)
      cases (acc i.op).2.2 with
      | true => exact hn.want fun _ _ _ => rfl
      | false => exact (hn.want fun _ _ _ => rfl).push fun _ _ _ => rfl
end Go.Proofs.YtfpioigggjnffaaDoor.E

/- Chapter 10, plain: what fits for one result fits for no other, unless its end is never come to. -/
set_option autoImplicit false
namespace Go.Proofs.YtfpioigggjnffaaDoor.E
open Go.Ev
variable {acc : Int → Int × Int × Bool} {shape : Int → Option (List Int × Int)} {env env' : TEnv} {sane : TInstr → Bool}

theorem goS_agree {s t : Stk} {i : TInstr} (he : SameEnv env env') (hA : Agree s t) (hs : SInv env s) (ht : SInv env' t) : AgreeW (goS acc shape env s i) (goS acc shape env' t i) := by
  have h : AgreeW ⟨s, 0⟩ ⟨t, 0⟩ := fun _ _ => hA
  have hw : WL ⟨s, 0⟩ := fun _ => ⟨hs.sane, hs.live⟩
  have hv : WL ⟨t, 0⟩ := fun _ => ⟨ht.sane, ht.live⟩
  unfold goS
  simp only
  by_cases c0 : i.op = 0
  · rw [if_pos c0, if_pos c0]; exact h.weak.kill
  rw [if_neg c0, if_neg c0]
  by_cases c1 : i.op = 1
  · rw [if_pos c1, if_pos c1]; exact h
  rw [if_neg c1, if_neg c1]
  by_cases c5 : i.op ≤ 5 ∨ i.op = 11
  · rw [if_pos c5, if_pos c5]; exact h.nested (fun _ => hs.base) i
  rw [if_neg c5, if_neg c5]
  by_cases c15 : i.op ≤ 15
  · rw [if_pos c15, if_pos c15]; exact h.branch hw hv i
  rw [if_neg c15, if_neg c15]
  by_cases c17 : i.op ≤ 17
  · rw [if_pos c17, if_pos c17]; exact h.call he i
  rw [if_neg c17, if_neg c17]
  by_cases c27 : i.op ≤ 27
  · rw [if_pos c27, if_pos c27]; exact h.chosen i
  rw [if_neg c27, if_neg c27]
  by_cases c36 : i.op ≤ 36
  · rw [if_pos c36, if_pos c36]; exact h.vars he i
  rw [if_neg c36, if_neg c36]
  by_cases c64 : i.op ≤ 64
  · rw [if_pos c64, if_pos c64]; exact h.mem he i
  rw [if_neg c64, if_neg c64]
  by_cases c65 : i.op = 65
  · rw [if_pos c65, if_pos c65]; exact h.push fun _ _ _ => rfl
  rw [if_neg c65, if_neg c65]
  by_cases c66 : i.op = 66
  · rw [if_pos c66, if_pos c66]; exact h.push fun _ _ _ => rfl
  rw [if_neg c66, if_neg c66]
  cases shape i.op with
  | none => exact h
  | some r => exact (h.want fun _ _ _ => rfl).push fun _ _ _ => rfl
theorem stepS_agree (he : SameEnv env env') {s t s' t' : Stk} {i : TInstr} (hA : Agree s t) (hs : SInv env s) (ht : SInv env' t) (e1 : stepS sane acc shape env s i = .ok s') (e2 : stepS sane acc shape env' t i = .ok t') : Agree s' t' := by
  obtain ⟨_, _, a3, a4⟩ := stepS_parts e1
  obtain ⟨_, _, b3, b4⟩ := stepS_parts e2
  have := goS_agree (acc := acc) (shape := shape) (i := i) he hA hs ht a3 b3
  rw [a4, b4] at this; exact this
theorem pathS_agree (tb : TabOk sane acc shape) (he : SameEnv env env') (ho : EnvOk env) (ho' : EnvOk env') {l : List TInstr} {s t : Stk} {p q : List Stk} (hA : Agree s t) (hs : SInv env s) (ht : SInv env' t) (e1 : pathS sane acc shape env s l = .ok p) (e2 : pathS sane acc shape env' t l = .ok q) :
    ∃ x y, p.getLast? = some x ∧ q.getLast? = some y ∧ Agree x y ∧ SInv env x ∧ SInv env' y := by
  induction l generalizing s t p q with
  | nil => cases e1; cases e2; exact ⟨s, t, rfl, rfl, hA, hs, ht⟩
  | cons i l ih =>
    obtain ⟨s', p', g1, g2, rfl⟩ := pathS_cons e1
    obtain ⟨t', q', f1, f2, rfl⟩ := pathS_cons e2
    obtain ⟨x, y, r1, r2, r3⟩ := ih (stepS_agree he hA hs ht g1 f1) (step_inv tb ho hs g1).1 (step_inv tb ho' ht f1).1 g2 f2
    exact ⟨x, y, by rw [List.getLast?_cons, r1]; rfl, by rw [List.getLast?_cons, r2]; rfl, r3⟩
theorem start_agree (hf : finB env.results = true) (hf' : finB env'.results = true) : Agree (start env) (start env') := by
  refine ⟨(start_inv hf).sane, (start_inv hf').sane, ⟨rfl, fun k c d hc hd _ => ?_⟩, fun _ => rfl⟩
  cases k with
  | zero =>
    simp only [start, List.getElem?_cons_zero, Option.some.injEq] at hc hd
    subst hc; subst hd
    exact ⟨rfl, rfl, rfl, fun h => absurd rfl h, fun h => by cases h⟩
  | succ k => simp [start] at hc
/-- CheckResults, plain. -/
theorem results_one (tb : TabOk sane acc shape) (he : SameEnv env env') (ho : EnvOk env) (ho' : EnvOk env') (hf : finB env.results = true) (hf' : finB env'.results = true) {l : List TInstr} {p q : List Stk} {x y : Stk} {r r' : Ctl × Stk}
    (e1 : pathS sane acc shape env (start env) l = .ok p) (e2 : pathS sane acc shape env' (start env') l = .ok q) (hx : p.getLast? = some x) (hy : q.getLast? = some y) (c1 : closeS x = .ok r) (c2 : closeS y = .ok r') (h1 : x.ctrls.length = 1)
    (d1 : ∀ c, x.ctrls[0]? = some c → c.dead = false) : env.results = env'.results := by
  obtain ⟨x', y', g1, g2, hA, hs, ht⟩ := pathS_agree tb he ho ho' (start_agree hf hf') (start_inv hf) (start_inv hf') e1 e2
  rw [hx] at g1; cases g1
  rw [hy] at g2; cases g2
  obtain ⟨d, a1, a2, a3⟩ := last_leaves hs h1 c1
  obtain ⟨d', b1, b2, b3⟩ := last_leaves ht (by rw [← hA.same.1]; exact h1) c2
  have hd : d = false := d1 _ (by rw [a1]; rfl)
  subst hd
  have hL : Live x := fun k c hc => by
    rw [a1] at hc
    cases k with
    | zero => simp only [List.getElem?_cons_zero, Option.some.injEq] at hc; rw [← hc]
    | succ k => simp at hc
  have hd' : d' = false := by
    have := (hA.same.2 0 _ _ (by rw [a1]; rfl) (by rw [b1]; rfl) (fun j c' hj => by omega)).2.2.1
    exact this.symm
  subst hd'
  have q1 : x.vals = env.results := by rcases a3 with a | a; · cases a
                                       · exact a
  have q2 : y.vals = env'.results := by rcases b3 with a | a; · cases a
                                        · exact a
  rw [← q1, ← q2, hA.live hL]
end Go.Proofs.YtfpioigggjnffaaDoor.E
