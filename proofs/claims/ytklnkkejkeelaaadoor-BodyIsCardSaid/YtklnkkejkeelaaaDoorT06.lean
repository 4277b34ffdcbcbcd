/- Where blocks end: the walk's stacks, told for all places. Plain Lean. -/
import Derived.Test.YtklnkkejkeelaaaDoorA06
import Derived.Test.YtklnkkejkeelaaaDoorF6
set_option linter.unnecessarySimpa false
set_option linter.unusedSimpArgs false
set_option linter.unusedVariables false
set_option autoImplicit false
set_option linter.unusedSimpArgs false
set_option linter.unusedVariables false
namespace Go.Proofs.YtklnkkejkeelaaaDoor.E
open Go.Ev
abbrev opAt (l : List TInstr) (k : Nat) : Int := (l.getD k in0).op
/-- At place k the block of place j is open, on what was open ahead of it. -/
def inBlk (l : List TInstr) (j : Nat) (base : List Nest) (k : Nat) : Prop := ∃ inner o, walkSt l k = some (inner ++ ((j : Int), o) :: base)
/-- What is told of the else of the block of place j, up to the place k. -/
def elseIs (l : List TInstr) (j : Nat) (base : List Nest) (k : Nat) (o : Int) : Prop :=
  (o = -1 ∨ ∃ m : Nat, o = m ∧ j < m ∧ m < k ∧ opAt l m = 5 ∧ opAt l j = 4 ∧ ∃ o', walkSt l m = some (((j : Int), o') :: base)) ∧
  ∀ m, j < m → m < k → opAt l m = 5 → ∀ o', walkSt l m = some (((j : Int), o') :: base) → o = m
/-- The block of place j is shut. -/
structure Shut (l : List TInstr) (M : List Nest) (j : Nat) (base : List Nest) (k : Nat) : Prop where
  ex : ∃ e : Nat, ∃ o : Int, j < e ∧ e < k ∧ opAt l e = 11 ∧ walkSt l e = some (((j : Int), o) :: base) ∧ M.getD j n0 = (o, (e : Int)) ∧ elseIs l j base e o ∧ ∀ m, j < m → m ≤ e → inBlk l j base m
theorem walkSt_of {σ : Type} {tell : Nat → Int → Nest → σ → σ} {s0 s : σ} {l : List TInstr} {k : Nat} {st : List Nest} (h : walkG tell s0 l k = some (st, s)) : walkSt l k = some st := by
  rw [← walkG_st tell s0 l k, h]; rfl
theorem walkSt_succ {l : List TInstr} {k : Nat} {st : List Nest} (h : walkSt l k = some st) : walkSt l (k + 1) = (stepF l st k (opAt l k)).map (·.1) := by
  unfold walkSt at h ⊢
  simp only [walkG]
  cases hw : walkG (fun _ _ _ _ => ()) () l k with
  | none => rw [hw] at h; cases h
  | some x =>
    obtain ⟨st', u⟩ := x
    rw [hw] at h
    obtain rfl := Option.some.inj h
    simp only
    cases stepF l st' k (l.getD k in0).op <;> rfl
theorem walkSt_in {l : List TInstr} {k : Nat} {st : List Nest} (h : walkSt l k = some st) : ∀ p ∈ st, nestIn k p := by
  unfold walkSt at h
  cases hw : walkG (fun _ _ _ _ => ()) () l k with
  | none => rw [hw] at h; cases h
  | some x =>
    obtain ⟨st', u⟩ := x
    rw [hw] at h
    obtain rfl := Option.some.inj h
    exact (walkG_in hw).1
/-- What a step does, told by cases. -/
theorem stepF_cases {l : List TInstr} {st st' : List Nest} {k : Nat} {op d : Int} {e : Nest} (h : stepF l st k op = some (st', d, e)) :
    (opensB op = true ∧ st' = ((k : Int), -1) :: st ∧ d = st.length) ∨ (opensB op = false ∧ op ≠ 5 ∧ op ≠ 11 ∧ st' = st ∧ d = st.length) ∨
    (∃ t, op = 11 ∧ st = t :: st' ∧ d = st'.length ∧ e = t) ∨ (∃ t r, op = 5 ∧ st = t :: r ∧ t.2 = -1 ∧ ifAt l t.1 = true ∧ st' = (t.1, (k : Int)) :: r ∧ d = r.length) := by
  unfold stepF at h
  by_cases ho : opensB op = true
  · simp only [ho, if_true, Option.some.injEq, Prod.mk.injEq] at h
    exact .inl ⟨ho, h.1.symm, h.2.1.symm⟩
  · simp only [ho, if_false, Bool.false_eq_true] at h
    have ho' : opensB op = false := by simpa using ho
    by_cases h5 : op ≠ 5 ∧ op ≠ 11
    · rw [if_pos h5] at h
      simp only [Option.some.injEq, Prod.mk.injEq] at h
      exact .inr (.inl ⟨ho', h5.1, h5.2, h.1.symm, h.2.1.symm⟩)
    · rw [if_neg h5] at h
      cases st with
      | nil => cases h
      | cons t r =>
        simp only at h
        by_cases h11 : op = 11
        · rw [if_pos h11] at h
          simp only [Option.some.injEq, Prod.mk.injEq] at h
          obtain ⟨rfl, rfl, rfl⟩ := h
          exact .inr (.inr (.inl ⟨_, h11, rfl, rfl, rfl⟩))
        · rw [if_neg h11] at h
          by_cases hh : t.2 = -1 ∧ ifAt l t.1 = true
          · rw [if_pos hh] at h
            simp only [Option.some.injEq, Prod.mk.injEq] at h
            obtain ⟨rfl, rfl, rfl⟩ := h
            exact .inr (.inr (.inr ⟨_, r, by omega, rfl, hh.1, hh.2, rfl, rfl⟩))
          · rw [if_neg hh] at h; cases h
/-- What holds of the walk at each place. -/
structure WInv (l : List TInstr) (k : Nat) (st M : List Nest) : Prop where
  len : M.length = l.length
  op : ∀ p ∈ st, opensB (opAt l p.1.toNat) = true ∧ (p.2 = -1 ∨ opAt l p.2.toNat = 5)
  all : ∀ j, j < k → opensB (opAt l j) = true → ∀ base, walkSt l j = some base →
    ((∃ inner o, st = inner ++ ((j : Int), o) :: base ∧ elseIs l j base k o ∧ ∀ m, j < m → m ≤ k → inBlk l j base m) ∨ ((∀ p ∈ st, p.1 ≠ j) ∧ Shut l M j base k))
theorem elseIs.up {l : List TInstr} {j k : Nat} {base : List Nest} {o : Int} (h : elseIs l j base k o) (hk : opAt l k ≠ 5 ∨ ∀ o', walkSt l k ≠ some (((j : Int), o') :: base)) : elseIs l j base (k + 1) o := by
  refine ⟨h.1.imp id (fun ⟨m, h1, h2, h3, h4⟩ => ⟨m, h1, h2, by omega, h4⟩), fun m h1 h2 h3 o' h4 => ?_⟩
  by_cases e : m = k
  · subst e
    exact absurd h4 (hk.elim (fun q => absurd h3 q) (fun q => q o'))
  · exact h.2 m h1 (by omega) h3 o' h4
theorem Shut.up {l : List TInstr} {M M' : List Nest} {j k : Nat} {base : List Nest} (h : Shut l M j base k) (hM : M'.getD j n0 = M.getD j n0) : Shut l M' j base (k + 1) := by
  obtain ⟨e, o, h1, h2, h3, h4, h5, h6⟩ := h.ex
  exact ⟨e, o, h1, by omega, h3, h4, by rw [hM]; exact h5, h6⟩
theorem winv (l : List TInstr) : ∀ (k : Nat), k ≤ l.length → ∀ st M, walkG (tellM l) (List.replicate l.length (-1, -1)) l k = some (st, M) → WInv l k st M
  | 0, _, st, M, h => by
    simp only [walkG, Option.some.injEq, Prod.mk.injEq] at h
    obtain ⟨rfl, rfl⟩ := h
    exact ⟨by simp, fun p hp => by simp at hp, fun j hj => by omega⟩
  | k + 1, hk, st', M', h => by
    have h0 := h
    simp only [walkG] at h
    split at h
    · cases h
    · rename_i st M hw
      split at h
      · cases h
      · rename_i st1 d e h1
        simp only [Option.some.injEq, Prod.mk.injEq] at h
        obtain ⟨rfl, hM'⟩ := h
        have I := winv l k (by omega) st M hw
        have hst := walkSt_of hw
        have hst' := walkSt_of h0
        have hin := (walkG_in hw).1
        have hlen : M'.length = l.length := by rw [← hM', tellM_length]; exact I.len
        -- M' at an opener that is shut is M
        have hkeep : ∀ j, opensB (opAt l j) = true → (∀ p ∈ st, p.1 ≠ j) → M'.getD j n0 = M.getD j n0 := fun j hj hp => by
          rw [← hM']
          unfold tellM
          split
          · rename_i h11
            rcases stepF_cases h1 with ⟨q, _⟩ | ⟨_, _, q, _⟩ | ⟨t, _, rfl, _, rfl⟩ | ⟨t, r, q, _⟩
            · rw [h11] at q; cases q
            · exact absurd h11 q
            · have ha := hp e (by simp)
              have hb := (I.op e (by simp)).2
              have hin' := hin e (by simp)
              unfold nestIn at hin'
              have na : e.1.toNat ≠ j := by omega
              split
              · simp only [List.getD_eq_getElem?_getD, List.getElem?_set_ne na]
              · rename_i hne
                have hb' := hb.resolve_left hne
                have nb : e.2.toNat ≠ j := fun q => by rw [q] at hb'; unfold opAt at hb' hj; rw [hb'] at hj; cases hj
                simp only [List.getD_eq_getElem?_getD, List.getElem?_set_ne nb, List.getElem?_set_ne na]
            · omega
          · rfl
        refine ⟨hlen, ?_, fun j hj hjo base hb => ?_⟩
        · rcases stepF_cases h1 with ⟨q, rfl, _⟩ | ⟨_, _, _, rfl, _⟩ | ⟨t, _, rfl, _, _⟩ | ⟨t, r, q, rfl, _, _, rfl, _⟩
          · intro p hp
            rcases List.mem_cons.1 hp with rfl | hp
            · exact ⟨by show opensB (opAt l ((k : Int)).toNat) = true; rw [Int.toNat_natCast]; exact q, .inl rfl⟩
            · exact I.op p hp
          · exact I.op
          · exact fun p hp => I.op p (by simp [hp])
          · intro p hp
            rcases List.mem_cons.1 hp with rfl | hp
            · exact ⟨(I.op t (by simp)).1, .inr (by show opAt l ((k : Int)).toNat = 5; rw [Int.toNat_natCast]; exact q)⟩
            · exact I.op p (by simp [hp])
        · by_cases ej : j = k
          · -- it opens here
            subst ej
            obtain rfl := Option.some.inj (hst.symm.trans hb)
            left
            rcases stepF_cases h1 with ⟨q, rfl, _⟩ | ⟨q, _⟩ | ⟨t, q, _⟩ | ⟨t, r, q, _⟩
            · refine ⟨[], -1, rfl, ⟨.inl rfl, fun m h1 h2 => by omega⟩, fun m h1 h2 => ?_⟩
              obtain rfl : m = j + 1 := by omega
              exact ⟨[], -1, hst'⟩
            · rw [q] at hjo; cases hjo
            · unfold opAt at hjo; rw [q] at hjo; cases hjo
            · unfold opAt at hjo; rw [q] at hjo; cases hjo
          · rcases I.all j (by omega) hjo base hb with ⟨inner, o, rfl, he, hbl⟩ | ⟨hno, hsh⟩
            · have hbl' : ∀ {inner' : List Nest} {o' : Int}, st1 = inner' ++ ((j : Int), o') :: base → ∀ m, j < m → m ≤ k + 1 → inBlk l j base m := fun {inner' o'} e m h1 h2 => by
                by_cases em : m = k + 1
                · subst em; exact ⟨inner', o', by rw [hst', e]⟩
                · exact hbl m h1 (by omega)
              rcases stepF_cases h1 with ⟨q, rfl, _⟩ | ⟨_, q5, _, rfl, _⟩ | ⟨t, q11, hs, _, he'⟩ | ⟨t, r, q5, hs, ht2, hif, rfl, _⟩
              · exact .inl ⟨((k : Int), -1) :: inner, o, rfl, he.up (.inl (fun e => by unfold opAt at e; rw [e] at q; cases q)), hbl' (inner' := ((k : Int), -1) :: inner) rfl⟩
              · exact .inl ⟨inner, o, rfl, he.up (.inl q5), hbl' rfl⟩
              · cases inner with
                | nil =>
                  simp only [List.nil_append, List.cons.injEq] at hs
                  obtain ⟨rfl, rfl⟩ := hs
                  right
                  have hbi := walkSt_in hb
                  refine ⟨fun p hp => by have := hbi p hp; unfold nestIn at this; omega, ⟨k, o, by omega, by omega, q11, hst, ?_, he, fun m h1 h2 => hbl m h1 (by omega)⟩⟩
                  have hjl : j < M.length := by rw [I.len]; omega
                  rw [← hM', he']
                  unfold tellM
                  have q11' : (l.getD k in0).op = 11 := q11
                  rw [if_pos q11']
                  have hget : (M.set j (o, (k : Int))).getD j n0 = (o, (k : Int)) := by simp [List.getD_eq_getElem?_getD, hjl]
                  split
                  · simpa using hget
                  · rename_i hne
                    have hb5 := (I.op ((j : Int), o) (by simp)).2.resolve_left hne
                    have nb : o.toNat ≠ j := fun e => by simp only at hb5; rw [e] at hb5; unfold opAt at hb5 hjo; rw [hb5] at hjo; cases hjo
                    rw [List.getD_eq_getElem?_getD, List.getElem?_set_ne nb, ← List.getD_eq_getElem?_getD]
                    simpa using hget
                | cons t' inner =>
                  simp only [List.cons_append, List.cons.injEq] at hs
                  obtain ⟨rfl, rfl⟩ := hs
                  refine .inl ⟨inner, o, rfl, he.up (.inl (fun e => by unfold opAt at e; omega)), hbl' rfl⟩
              · cases inner with
                | nil =>
                  simp only [List.nil_append, List.cons.injEq] at hs
                  obtain ⟨rfl, rfl⟩ := hs
                  refine .inl ⟨[], (k : Int), rfl, ⟨.inr ⟨k, rfl, by omega, by omega, q5, ?_, o, hst⟩, fun m h1 h2 h3 o' h4 => ?_⟩, hbl' (inner' := []) rfl⟩
                  · unfold ifAt at hif
                    have hd : (l.getD ((j : Int)).toNat in0).op = 4 := of_decide_eq_true hif
                    rw [Int.toNat_natCast] at hd
                    exact hd
                  · by_cases em : m = k
                    · rw [em]
                    · have := he.2 m h1 (by omega) h3 o' h4
                      simp only at ht2
                      omega
                | cons t' inner =>
                  simp only [List.cons_append, List.cons.injEq] at hs
                  obtain ⟨rfl, rfl⟩ := hs
                  refine .inl ⟨(t'.1, (k : Int)) :: inner, o, rfl, he.up (.inr (fun o' e => ?_)), hbl' (inner' := (t'.1, (k : Int)) :: inner) rfl⟩
                  rw [hst] at e
                  have := congrArg List.length (Option.some.inj e)
                  simp at this
                  omega
            · right
              refine ⟨?_, hsh.up (hkeep j hjo hno)⟩
              rcases stepF_cases h1 with ⟨q, rfl, _⟩ | ⟨_, _, _, rfl, _⟩ | ⟨t, _, rfl, _, _⟩ | ⟨t, r, q, rfl, _, _, rfl, _⟩
              · intro p hp
                rcases List.mem_cons.1 hp with rfl | hp
                · simp; omega
                · exact hno p hp
              · exact hno
              · exact fun p hp => hno p (by simp [hp])
              · intro p hp
                rcases List.mem_cons.1 hp with rfl | hp
                · exact hno t (by simp)
                · exact hno p (by simp [hp])
/-- In a body all blocks are shut. -/
theorem all_shut {l : List TInstr} (h : walkOk l = true) {j : Nat} (hj : j < l.length) (ho : opensB (opAt l j) = true) {base : List Nest} (hb : walkSt l j = some base) : Shut l (matchesF l) j base l.length := by
  obtain ⟨M, hM⟩ := walk_some (tellM l) (List.replicate l.length (-1, -1)) h
  have hmf : matchesF l = M := by simp [matchesF, hM]
  rw [hmf]
  rcases (winv l l.length (Nat.le_refl _) [] M hM).all j hj ho base hb with ⟨inner, o, e, _⟩ | ⟨_, hs⟩
  · have := congrArg List.length e; simp at this
  · exact hs
theorem walkSt_ok {l : List TInstr} (h : walkOk l = true) {k : Nat} (hk : k ≤ l.length) : ∃ st, walkSt l k = some st := by
  cases hw : walkG (fun _ _ _ _ => ()) () l k with
  | none =>
    have := walkG_none hw l.length hk
    rw [walkOk_none this] at h; cases h
  | some x => exact ⟨x.1, by unfold walkSt; rw [hw]; rfl⟩
end Go.Proofs.YtklnkkejkeelaaaDoor.E
