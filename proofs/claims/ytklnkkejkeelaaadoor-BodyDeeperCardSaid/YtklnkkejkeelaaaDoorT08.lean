/- A body in a block. Plain Lean. -/
import Derived.Test.YtklnkkejkeelaaaDoorT07
set_option linter.unnecessarySimpa false
set_option linter.unusedSimpArgs false
set_option linter.unusedVariables false
set_option autoImplicit false
set_option linter.unusedSimpArgs false
set_option linter.unusedVariables false
namespace Go.Proofs.YtklnkkejkeelaaaDoor.E
open Go.Ev
def blk : TInstr := ⟨2, 0, 0, 0, []⟩
def fin_ : TInstr := ⟨11, 0, 0, 0, []⟩
def inn (l : List TInstr) : List TInstr := [blk] ++ l ++ [fin_]
theorem inn_len (l : List TInstr) : (inn l).length = l.length + 2 := by simp [inn]
theorem inn_op0 (l : List TInstr) : opAt (inn l) 0 = 2 := rfl
theorem inn_op (l : List TInstr) {k : Nat} (hk : k < l.length) : opAt (inn l) (k + 1) = opAt l k := by
  unfold opAt inn
  have := getD_mid (p := [blk]) (m := l) (q := [fin_]) hk
  rw [show [blk].length + k = k + 1 by simp; omega] at this
  rw [this]
theorem inn_opN (l : List TInstr) : opAt (inn l) (l.length + 1) = 11 := by
  simp [opAt, inn, List.getD_eq_getElem?_getD, fin_]
section
variable {σ : Type} {f : Int → σ → σ} {s0 : σ} {l : List TInstr}
theorem inn_walk {k : Nat} (hk : k ≤ l.length) {st : List Nest} {s : σ} (h : walkG (fun _ d _ s => f (d + 1) s) (f 0 s0) l k = some (st, s)) :
    walkG (fun _ d _ s => f d s) s0 (inn l) (k + 1) = some (st.map (sh 1) ++ [(0, -1)], s) := by
  have h1 : walkG (fun _ d _ s => f d s) s0 ([blk] ++ l ++ [fin_]) [blk].length = some ([(0, -1)], f 0 s0) := rfl
  have := walk_mid (p := [blk]) (m := l) (q := [fin_]) (base := [(0, -1)]) (f := f) h1 k hk st s h
  rw [show [blk].length + k = k + 1 by simp; omega] at this
  exact this
theorem inn_all {s : σ} (h : walkG (fun _ d _ s => f (d + 1) s) (f 0 s0) l l.length = some ([], s)) : walkG (fun _ d _ s => f d s) s0 (inn l) (inn l).length = some ([], f 0 s) := by
  have h1 := inn_walk (Nat.le_refl _) h
  rw [inn_len]
  show walkG (fun _ d _ s => f d s) s0 (inn l) ((l.length + 1) + 1) = _
  have : ((inn l).getD (l.length + 1) in0).op = 11 := inn_opN l
  rw [walkG, h1]
  simp only [this]
  rfl
end
theorem inn_depths {l : List TInstr} (h : walkOk l = true) : walkOk (inn l) = true ∧ depthsF (inn l) = [0] ++ (depthsF l).map (· + 1) ++ [0] := by
  obtain ⟨s, hs⟩ := walk_some tellD [] h
  have h1 : walkG (fun _ d _ s => (fun (d : Int) s => s ++ [d]) (d + 1) s) [0] l l.length = some ([], [0] ++ s.map (· + 1)) := by
    have := walkD_pre (m := l) (n := 1) (s1 := [0]) l.length
    rw [hs] at this
    exact this
  have h2 := inn_all (f := fun (d : Int) s => s ++ [d]) (s0 := []) h1
  exact ⟨walkOk_some h2, by rw [depthsF_of h2, depthsF_of hs]⟩
theorem inn_st {l : List TInstr} {k : Nat} (hk : k ≤ l.length) {st : List Nest} (h : walkSt l k = some st) : walkSt (inn l) (k + 1) = some (st.map (sh 1) ++ [(0, -1)]) := by
  have h1 := walkG_st (fun _ d _ s => (fun (_ : Int) (s : Unit) => s) (d + 1) s) () l k
  rw [h] at h1
  obtain ⟨⟨a, b⟩, h2, h3⟩ := Option.map_eq_some_iff.1 h1
  simp only at h3
  subst h3
  exact walkSt_of (inn_walk (f := fun (_ : Int) (s : Unit) => s) (s0 := ()) hk h2)
theorem inn_end0 {l : List TInstr} (h : walkOk l = true) : ((matchesF (inn l)).getD 0 n0).2 = (l.length : Int) + 1 := by
  obtain ⟨hi, _⟩ := inn_depths h
  obtain ⟨e, o, he1, he2, he3, he4, he5, he6, he7⟩ := (all_shut hi (j := 0) (by rw [inn_len]; omega) rfl (base := []) rfl).ex
  rw [he5]
  rw [inn_len] at he2
  show (e : Int) = _
  rcases Nat.lt_or_ge e (l.length + 1) with hlt | hge
  · exfalso
    obtain ⟨m, rfl⟩ : ∃ m, e = m + 1 := ⟨e - 1, by omega⟩
    have h1 : walkSt (inn l) (m + 1 + 1) = some [] := by rw [walkSt_succ he4, he3]; rfl
    obtain ⟨st, hst⟩ := walkSt_ok h (k := m + 1) (by omega)
    have h2 := inn_st (k := m + 1) (by omega) hst
    rw [h1] at h2
    have := congrArg List.length (Option.some.inj h2)
    simp at this
  · omega
theorem inn_end {l : List TInstr} (h : walkOk l = true) {j : Nat} (hj : j < l.length) (ho : opensB (opAt l j) = true) : ((matchesF (inn l)).getD (j + 1) n0).2 = ((matchesF l).getD j n0).2 + 1 := by
  obtain ⟨hi, _⟩ := inn_depths h
  obtain ⟨base, hb⟩ := walkSt_ok h (k := j) (by omega)
  have hb' := inn_st (by omega) hb
  obtain ⟨e, o, he1, he2, he3, he4, he5, he6, he7⟩ := (all_shut h hj ho hb).ex
  obtain ⟨e', o', fe1, fe2, fe3, fe4, fe5, fe6, fe7⟩ := (all_shut hi (j := j + 1) (by rw [inn_len]; omega) (by rw [inn_op l hj]; exact ho) hb').ex
  rw [he5, fe5]
  show (e' : Int) = (e : Int) + 1
  rw [inn_len] at fe2
  have a1 : walkSt l (e + 1) = some base := by rw [walkSt_succ he4, he3]; rfl
  have a2 := inn_st (k := e + 1) (by omega) a1
  have b1 : walkSt (inn l) (e' + 1) = some (base.map (sh 1) ++ [(0, -1)]) := by rw [walkSt_succ fe4, fe3]; rfl
  have hle : e' ≤ e + 1 := by
    rcases Nat.lt_or_ge (e + 1) e' with q | q
    · exfalso
      obtain ⟨inner, o2, q2⟩ := fe7 (e + 1 + 1) (by omega) (by omega)
      rw [a2] at q2
      have := congrArg List.length (Option.some.inj q2)
      simp at this
      omega
    · exact q
  have hge : e + 1 ≤ e' := by
    rcases Nat.lt_or_ge e' (e + 1) with q | q
    · exfalso
      obtain ⟨m, rfl⟩ : ∃ m, e' = m + 1 := ⟨e' - 1, by omega⟩
      obtain ⟨inner, o2, q2⟩ := he7 (m + 1) (by omega) (by omega)
      have q3 := inn_st (k := m + 1) (by omega) q2
      rw [b1] at q3
      have := congrArg List.length (Option.some.inj q3)
      simp at this
      omega
    · exact q
  omega
theorem inn_encl {l : List TInstr} (h : walkOk l = true) {k : Nat} (hk : k < l.length) {st : List Nest} (hst : walkSt l k = some st) : encl (inn l) (k + 1) (st.map (sh 1) ++ [(0, -1)]) = (encl l k st).map (sh 1) ++ [(0, -1)] := by
  unfold encl
  rw [inn_op l hk]
  split
  · rename_i hop
    cases st with
    | nil =>
      exfalso
      obtain ⟨st1, h1⟩ := walkSt_ok h (k := k + 1) (by omega)
      obtain ⟨d, e, hs⟩ := walkSt_step hst h1
      rcases stepF_cases hs with ⟨q, _⟩ | ⟨_, q5, q11, _⟩ | ⟨t, _, q, _⟩ | ⟨t, r, _, q, _⟩
      · rcases hop with q' | q' <;> rw [q'] at q <;> cases q
      · exact hop.elim q5 q11
      · cases q
      · cases q
    | cons p r => rfl
  · rfl
/-- In a block: a branch out of nothing but what it stands in goes on where it went, one farther; and out of all it goes to the end. -/
theorem inn_targets {l : List TInstr} (h : walkOk l = true) {k : Nat} (hk : k < l.length) : (targetF l k 0).2 = true ∧ (targetF (inn l) ((k + 1 : Nat) : Int) 0) = ((targetF l k 0).1 + 1, true) ∧ targetF (inn l) ((k + 1 : Nat) : Int) ((depthsF l).getD k 0 + 1) = (((inn l).length : Int), true) := by
  obtain ⟨hi, _⟩ := inn_depths h
  obtain ⟨st, hst⟩ := walkSt_ok h (k := k) (by omega)
  have hst' := inn_st (by omega) hst
  have hk' : k + 1 < (inn l).length := by rw [inn_len]; omega
  rw [depthsF_get h hk hst, tgt_encl h hk hst (Int.le_refl _), tgt_encl hi hk' hst' (Int.le_refl _), tgt_encl hi hk' hst' (by omega), inn_encl h hk hst]
  obtain ⟨p1, p2, p3, p4⟩ := pick_ok (l := inn l) (M := matchesF (inn l)) (L := (encl l k st).map (sh 1) ++ [(0, -1)]) (left := ((encl l k st).length : Int) + 1) (by omega)
  have hz : pick (inn l) (matchesF (inn l)) ((encl l k st).map (sh 1) ++ [(0, -1)]) (((encl l k st).length : Int) + 1) = (((inn l).length : Int), true) := by
    apply Prod.ext
    · exact p3 (by simp)
    · rw [p1]; simp
  refine ⟨?_, ?_, hz⟩
  · rw [(pick_ok (l := l) (M := matchesF l) (L := encl l k st) (left := 0) (Int.le_refl _)).1]; simp
  · cases he : encl l k st with
    | nil =>
      simp only [List.map_nil, List.nil_append, pick, Int.lt_irrefl, if_false]
      have h0 : opAt (inn l) (0 : Int).toNat = 2 := inn_op0 l
      rw [h0, if_neg (by decide), show (0 : Int).toNat = 0 from rfl, inn_end0 h]
    | cons p r =>
      have hpm : p ∈ encl l k st := by rw [he]; simp
      have hin := walkSt_in hst p (encl_sub hpm)
      unfold nestIn at hin
      have hpo := walkSt_opens h (by omega) hst p (encl_sub hpm)
      simp only [List.map_cons, List.cons_append, pick, Int.lt_irrefl, if_false, sh]
      have h1 : (p.1 + ((1 : Nat) : Int)).toNat = p.1.toNat + 1 := by omega
      rw [h1, inn_op l (by omega), inn_end h (by omega) hpo]
      split <;> rfl
theorem depth_range {l : List TInstr} (h : walkOk l = true) {k : Nat} (hk : k < l.length) : 0 ≤ (depthsF l).getD k 0 ∧ (depthsF l).getD k 0 ≤ k := by
  obtain ⟨st, hst⟩ := walkSt_ok h (k := k) (by omega)
  rw [depthsF_get h hk hst]
  have h1 : (encl l k st).length ≤ st.length := by unfold encl; split <;> simp
  have := walkG_st (fun _ _ _ _ => ()) () l k
  rw [hst] at this
  obtain ⟨⟨a, b⟩, h1', h2⟩ := Option.map_eq_some_iff.1 this
  simp only at h2
  subst h2
  have := (walkG_in h1').2
  omega
end Go.Proofs.YtklnkkejkeelaaaDoor.E
