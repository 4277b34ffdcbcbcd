/- Where branches go on, out of the walk's stacks. Plain Lean. -/
import Derived.Test.YtklnkkejkeelaaaDoorT06
set_option linter.unnecessarySimpa false
set_option linter.unusedSimpArgs false
set_option linter.unusedVariables false
set_option autoImplicit false
set_option linter.unusedSimpArgs false
set_option linter.unusedVariables false
namespace Go.Proofs.YtklnkkejkeelaaaDoor.E
open Go.Ev
theorem walkSt_step {l : List TInstr} {k : Nat} {st st' : List Nest} (h : walkSt l k = some st) (h' : walkSt l (k + 1) = some st') : ∃ d e, stepF l st k (opAt l k) = some (st', d, e) := by
  rw [walkSt_succ h] at h'
  cases hs : stepF l st k (opAt l k) with
  | none => rw [hs] at h'; cases h'
  | some x =>
    obtain ⟨s, d, e⟩ := x
    rw [hs] at h'
    obtain rfl := Option.some.inj h'
    exact ⟨d, e, rfl⟩
theorem walkSt_back {l : List TInstr} {k : Nat} {st' : List Nest} (h' : walkSt l (k + 1) = some st') : ∃ st, walkSt l k = some st := by
  cases hw : walkSt l k with
  | some st => exact ⟨st, rfl⟩
  | none =>
    unfold walkSt at hw h'
    cases hg : walkG (fun _ _ _ _ => ()) () l k with
    | some x => rw [hg] at hw; cases hw
    | none =>
      have := walkG_none hg (k + 1) (by omega)
      rw [this] at h'; cases h'
theorem walkSt_sorted {l : List TInstr} : ∀ {k : Nat} {st : List Nest}, walkSt l k = some st → st.Pairwise (fun p q => q.1 < p.1)
  | 0, st, h => by
    obtain rfl : [] = st := by simpa [walkSt, walkG] using h
    exact .nil
  | k + 1, st', h => by
    obtain ⟨st, h0⟩ := walkSt_back h
    have ih := walkSt_sorted h0
    have hin := walkSt_in h0
    obtain ⟨d, e, hs⟩ := walkSt_step h0 h
    rcases stepF_cases hs with ⟨_, rfl, _⟩ | ⟨_, _, _, rfl, _⟩ | ⟨t, _, rfl, _, _⟩ | ⟨t, r, _, rfl, _, _, rfl, _⟩
    · exact .cons (fun p hp => by have := hin p hp; unfold nestIn at this; show p.1 < (k : Int); omega) ih
    · exact ih
    · exact (List.pairwise_cons.1 ih).2
    · exact .cons (List.pairwise_cons.1 ih).1 (List.pairwise_cons.1 ih).2
/-- What an instruction stands in. -/
def encl (l : List TInstr) (k : Nat) (st : List Nest) : List Nest := if opAt l k = 5 ∨ opAt l k = 11 then st.tail else st
theorem encl_mem {l : List TInstr} (h : walkOk l = true) {j k : Nat} (hjk : j < k) (hk : k < l.length) (ho : opensB (opAt l j) = true) {st : List Nest} (hst : walkSt l k = some st) :
    (¬ (((matchesF l).getD j n0).2 ≤ (k : Int) ∨ ((matchesF l).getD j n0).1 = (k : Int))) ↔ ∃ p ∈ encl l k st, p.1 = (j : Int) := by
  obtain ⟨base, hb⟩ := walkSt_ok h (k := j) (by omega)
  obtain ⟨e, o, he1, he2, he3, he4, he5, he6, he7⟩ := (all_shut h (by omega) ho hb).ex
  have hbi := walkSt_in hb
  have hbase : ∀ p ∈ base, p.1 ≠ (j : Int) := fun p hp => by have := hbi p hp; unfold nestIn at this; omega
  obtain ⟨st1, hst1⟩ := walkSt_ok h (k := k + 1) (by omega)
  -- behind its end it is off
  have hoff : walkSt l (e + 1) = some base := by
    rw [walkSt_succ he4, he3]; rfl
  rw [he5]
  rcases Nat.lt_trichotomy e k with hlt | rfl | hgt
  · -- shut ahead
    have : ¬ ¬ (((o, (e : Int)) : Nest).2 ≤ (k : Int) ∨ ((o, (e : Int)) : Nest).1 = (k : Int)) := fun q => q (.inl (by show (e : Int) ≤ k; omega))
    refine ⟨fun q => absurd q this, fun ⟨p, hp, hpj⟩ => ?_⟩
    exfalso
    have hps : p ∈ st := by
      unfold encl at hp
      split at hp
      · exact List.mem_of_mem_tail hp
      · exact hp
    obtain ⟨M, hM⟩ := walk_some (tellM l) (List.replicate l.length (-1, -1)) h
    obtain ⟨Mk, hMk⟩ : ∃ Mk, walkG (tellM l) (List.replicate l.length (-1, -1)) l k = some (st, Mk) := by
      have := walkG_st (tellM l) (List.replicate l.length (-1, -1)) l k
      rw [hst] at this
      obtain ⟨⟨a, b⟩, h1, h2⟩ := Option.map_eq_some_iff.1 this
      simp only at h2
      subst h2
      exact ⟨b, h1⟩
    rcases (winv l k (by omega) st Mk hMk).all j hjk ho base hb with ⟨inner, o', _, _, hall⟩ | ⟨hno, _⟩
    · obtain ⟨inner', o2, h2⟩ := hall (e + 1) (by omega) (by omega)
      rw [hoff] at h2
      have := congrArg List.length (Option.some.inj h2)
      simp at this
      omega
    · exact hno p hps hpj
  · -- its own end
    refine ⟨fun q => absurd (.inl (Int.le_refl _)) q, fun ⟨p, hp, hpj⟩ => ?_⟩
    exfalso
    obtain rfl := Option.some.inj (hst.symm.trans he4)
    unfold encl at hp
    rw [if_pos (.inr he3)] at hp
    exact hbase p hp hpj
  · -- it stands in it
    obtain ⟨inner, o', hi⟩ := he7 k hjk (by omega)
    obtain rfl := Option.some.inj (hst.symm.trans hi)
    have hmem : ∀ t inner', inner = t :: inner' → ∃ p ∈ (inner ++ ((j : Int), o') :: base).tail, p.1 = (j : Int) := fun t inner' e => by subst e; exact ⟨((j : Int), o'), by simp, rfl⟩
    have hno : inner ≠ [] → o ≠ (k : Int) := fun hne e => by
      rcases he6.1 with q | ⟨m, q1, q2, q3, q4, _, o3, q6⟩
      · omega
      · obtain rfl : m = k := by omega
        rw [hst] at q6
        have := congrArg List.length (Option.some.inj q6)
        cases inner with
        | nil => exact hne rfl
        | cons => simp at this; omega
    by_cases h5 : opAt l k = 5
    · unfold encl
      rw [if_pos (.inl h5)]
      cases inner with
      | nil =>
        have := he6.2 k hjk hgt h5 o' hst
        refine ⟨fun q => absurd (.inr this) q, fun ⟨p, hp, hpj⟩ => absurd hpj (hbase p hp)⟩
      | cons t inner' =>
        refine ⟨fun _ => hmem t inner' rfl, fun _ q => q.elim (fun q => by simp only at q; omega) (fun q => hno (by simp) q)⟩
    · by_cases h11 : opAt l k = 11
      · unfold encl
        rw [if_pos (.inr h11)]
        cases inner with
        | nil =>
          exfalso
          obtain ⟨inner2, o2, h2⟩ := he7 (k + 1) (by omega) (by omega)
          have : walkSt l (k + 1) = some base := by rw [walkSt_succ hst, h11]; rfl
          rw [this] at h2
          have := congrArg List.length (Option.some.inj h2)
          simp at this
          omega
        | cons t inner' =>
          refine ⟨fun _ => hmem t inner' rfl, fun _ q => q.elim (fun q => by simp only at q; omega) (fun q => hno (by simp) q)⟩
      · unfold encl
        rw [if_neg (by simp [h5, h11])]
        refine ⟨fun _ => ⟨((j : Int), o'), by simp, rfl⟩, fun _ q => q.elim (fun q => by simp only at q; omega) (fun q => ?_)⟩
        rcases he6.1 with q' | ⟨m, q1, q2, q3, q4, _⟩
        · simp only at q; omega
        · simp only at q
          obtain rfl : m = k := by omega
          exact h5 q4
/-- The one that a branch goes out of. -/
def pick (l : List TInstr) (M : List Nest) : List Nest → Int → Int × Bool
  | [], left => if 0 < left then (0, false) else (l.length, true)
  | p :: r, left => if 0 < left then pick l M r (left - 1) else if opAt l p.1.toNat = 3 then (p.1, true) else ((M.getD p.1.toNat n0).2, true)
theorem filter_succ {L : List Nest} {j : Nat} (hs : L.Pairwise (fun p q => q.1 < p.1)) : (∃ p ∈ L, p.1 = (j : Int) ∧ L.filter (fun p => decide (p.1 < ((j + 1 : Nat) : Int))) = p :: L.filter (fun p => decide (p.1 < (j : Int)))) ∨
    ((∀ p ∈ L, p.1 ≠ (j : Int)) ∧ L.filter (fun p => decide (p.1 < ((j + 1 : Nat) : Int))) = L.filter (fun p => decide (p.1 < (j : Int)))) := by
  induction L with
  | nil => exact .inr ⟨fun p hp => by simp at hp, rfl⟩
  | cons p L ih =>
    obtain ⟨h1, h2⟩ := List.pairwise_cons.1 hs
    by_cases hp : p.1 = (j : Int)
    · left
      refine ⟨p, by simp, hp, ?_⟩
      have a : decide (p.1 < ((j + 1 : Nat) : Int)) = true := by simp; omega
      have b : decide (p.1 < (j : Int)) = false := by simp; omega
      simp only [List.filter_cons, a, b, if_true, Bool.false_eq_true, if_false]
      congr 1
      apply List.filter_congr
      intro q hq
      have := h1 q hq
      rw [decide_eq_decide]
      omega
    · rcases ih h2 with ⟨q, hq, hqj, e⟩ | ⟨hno, e⟩
      · left
        have := h1 q hq
        refine ⟨q, by simp [hq], hqj, ?_⟩
        have a : decide (p.1 < ((j + 1 : Nat) : Int)) = false := by simp; omega
        have b : decide (p.1 < (j : Int)) = false := by simp; omega
        simp only [List.filter_cons, a, b, Bool.false_eq_true, if_false]
        exact e
      · right
        refine ⟨fun q hq => (List.mem_cons.1 hq).elim (fun e => e ▸ hp) (hno q), ?_⟩
        have a : decide (p.1 < ((j + 1 : Nat) : Int)) = decide (p.1 < (j : Int)) := by rw [decide_eq_decide]; omega
        simp only [List.filter_cons, a, e]
theorem encl_sub {l : List TInstr} {k : Nat} {st : List Nest} {p : Nest} (h : p ∈ encl l k st) : p ∈ st := by
  unfold encl at h
  split at h
  · exact List.mem_of_mem_tail h
  · exact h
theorem encl_sorted {l : List TInstr} {k : Nat} {st : List Nest} (h : walkSt l k = some st) : (encl l k st).Pairwise (fun p q => q.1 < p.1) := by
  have := walkSt_sorted h
  unfold encl
  split
  · cases st with
    | nil => exact .nil
    | cons p r => exact (List.pairwise_cons.1 this).2
  · exact this
theorem walkSt_opens {l : List TInstr} (h : walkOk l = true) {k : Nat} (hk : k ≤ l.length) {st : List Nest} (hst : walkSt l k = some st) : ∀ p ∈ st, opensB (opAt l p.1.toNat) = true := by
  have := walkG_st (tellM l) (List.replicate l.length (-1, -1)) l k
  rw [hst] at this
  obtain ⟨⟨a, b⟩, h1, h2⟩ := Option.map_eq_some_iff.1 this
  simp only at h2
  subst h2
  exact fun p hp => ((winv l k hk a b h1).op p hp).1
theorem tgt_pick {l : List TInstr} (h : walkOk l = true) {k : Nat} (hk : k < l.length) {st : List Nest} (hst : walkSt l k = some st) : ∀ (j : Nat), j ≤ k → ∀ left, tgtGo l (matchesF l) (k : Int) j left = pick l (matchesF l) ((encl l k st).filter (fun p => decide (p.1 < (j : Int)))) left
  | 0, hj, left => by
    have : (encl l k st).filter (fun p => decide (p.1 < ((0 : Nat) : Int))) = [] := by
      rw [List.filter_eq_nil_iff]
      intro p hp
      have := walkSt_in hst p (encl_sub hp)
      unfold nestIn at this
      simp; omega
    rw [this]
    rfl
  | j + 1, hj, left => by
    have ih := tgt_pick h hk hst j (by omega)
    rw [tgtGo]
    rcases filter_succ (j := j) (encl_sorted hst) with ⟨p, hp, hpj, e⟩ | ⟨hno, e⟩
    · rw [e]
      have hpo := walkSt_opens h (by omega) hst p (encl_sub hp)
      rw [hpj, Int.toNat_natCast] at hpo
      have hc := (encl_mem h (by omega) hk hpo hst).2 ⟨p, hp, hpj⟩
      rw [if_neg (fun q => q.elim (fun q => by unfold opAt at hpo; rw [hpo] at q; cases q) hc)]
      rw [pick, hpj, Int.toNat_natCast]
      split
      · exact ih _
      · rfl
    · rw [e]
      by_cases ho : opensB (opAt l j) = true
      · have hc : ((matchesF l).getD j n0).2 ≤ (k : Int) ∨ ((matchesF l).getD j n0).1 = (k : Int) := by
          rcases Classical.em (((matchesF l).getD j n0).2 ≤ (k : Int) ∨ ((matchesF l).getD j n0).1 = (k : Int)) with q | q
          · exact q
          · obtain ⟨p, hp, hpj⟩ := (encl_mem h (by omega) hk ho hst).1 q
            exact absurd hpj (hno p hp)
        rw [if_pos (.inr hc)]
        exact ih _
      · rw [if_pos (.inl (show opensB (opAt l j) = false from Bool.eq_false_iff.2 ho))]
        exact ih _
theorem tgt_encl {l : List TInstr} (h : walkOk l = true) {k : Nat} (hk : k < l.length) {st : List Nest} (hst : walkSt l k = some st) {left : Int} (hl : 0 ≤ left) : targetF l (k : Int) left = pick l (matchesF l) (encl l k st) left := by
  unfold targetF
  rw [if_neg (by rw [h]; simp; omega), Int.toNat_natCast, tgt_pick h hk hst k (Nat.le_refl _)]
  congr 1
  rw [List.filter_eq_self]
  intro p hp
  have := walkSt_in hst p (encl_sub hp)
  unfold nestIn at this
  simp; omega
/-- How deep: as much as it stands in. -/
theorem depthsF_get {l : List TInstr} (h : walkOk l = true) {k : Nat} (hk : k < l.length) {st : List Nest} (hst : walkSt l k = some st) : (depthsF l).getD k 0 = ((encl l k st).length : Int) := by
  obtain ⟨s, hs⟩ := walk_some tellD [] h
  rw [depthsF_of hs]
  -- what was told stays
  have stay : ∀ m, k + 1 ≤ m → m ≤ l.length → ∀ st' s', walkG tellD [] l m = some (st', s') → s'.getD k 0 = ((encl l k st).length : Int) := by
    intro m
    induction m with
    | zero => intro h1; omega
    | succ m ih =>
      intro h1 h2 st' s' hm
      have hm0 := hm
      simp only [walkG] at hm
      split at hm
      · cases hm
      · rename_i st0 s0 hw
        split at hm
        · cases hm
        · rename_i st1 d e h3
          simp only [Option.some.injEq, Prod.mk.injEq] at hm
          obtain ⟨rfl, rfl⟩ := hm
          have hlen := tellD_len hw
          simp only [List.length_nil, Nat.zero_add] at hlen
          by_cases em : m = k
          · subst em
            obtain rfl := Option.some.inj ((walkSt_of hw).symm.trans hst)
            have : (tellD m d e s0).getD m 0 = d := by simp [tellD, List.getD_eq_getElem?_getD, ← hlen]
            rw [this]
            unfold encl
            rcases stepF_cases h3 with ⟨q, rfl, rfl⟩ | ⟨q0, q5, q11, rfl, rfl⟩ | ⟨t, q11, rfl, rfl, _⟩ | ⟨t, r, q5, rfl, _, _, rfl, rfl⟩
            · rw [if_neg (fun z => z.elim (fun z => by unfold opAt at z; rw [z] at q; cases q) (fun z => by unfold opAt at z; rw [z] at q; cases q))]
            · rw [if_neg (fun z => z.elim q5 q11)]
            · rw [if_pos (.inr q11)]; rfl
            · rw [if_pos (.inl q5)]; rfl
          · have := ih (by omega) (by omega) st0 s0 hw
            rw [← this]
            simp only [tellD, List.getD_eq_getElem?_getD]
            rw [List.getElem?_append_left (by omega)]
  exact stay l.length (by omega) (Nat.le_refl _) [] s hs
theorem pick_ok {l : List TInstr} {M : List Nest} : ∀ {L : List Nest} {left : Int}, 0 ≤ left → (pick l M L left).2 = decide (left ≤ L.length) ∧ ((L.length : Int) < left → (pick l M L left).1 = 0) ∧ (left = L.length → (pick l M L left).1 = l.length) ∧
    (left < L.length → ∃ p, L[left.toNat]? = some p ∧ (pick l M L left).1 = if opAt l p.1.toNat = 3 then p.1 else (M.getD p.1.toNat n0).2)
  | [], left, h => by
    simp only [pick, List.length_nil]
    by_cases h0 : 0 < left
    · rw [if_pos h0]
      refine ⟨by simp; omega, fun _ => rfl, fun e => by simp at e; omega, fun e => by simp at e; omega⟩
    · rw [if_neg h0]
      refine ⟨by simp; omega, fun e => by simp at e; omega, fun _ => rfl, fun e => by simp at e; omega⟩
  | p :: r, left, h => by
    simp only [pick, List.length_cons]
    by_cases h0 : 0 < left
    · rw [if_pos h0]
      obtain ⟨a, b, c, d⟩ := pick_ok (l := l) (M := M) (L := r) (left := left - 1) (by omega)
      refine ⟨?_, fun e => b (by omega), fun e => c (by omega), fun e => ?_⟩
      · rw [a, decide_eq_decide]; omega
      · obtain ⟨q, q1, q2⟩ := d (by omega)
        refine ⟨q, ?_, q2⟩
        rw [show left.toNat = (left - 1).toNat + 1 by omega, List.getElem?_cons_succ]
        exact q1
    · rw [if_neg h0]
      obtain rfl : left = 0 := by omega
      refine ⟨?_, fun e => by omega, fun e => by omega, fun e => ⟨p, rfl, ?_⟩⟩
      · split <;> simp <;> omega
      · split <;> rfl
end Go.Proofs.YtklnkkejkeelaaaDoor.E
