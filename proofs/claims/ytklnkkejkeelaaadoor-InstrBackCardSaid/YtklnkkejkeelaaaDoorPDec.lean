/- PLAIN LAWS of instr, three: what is read. No condition; no program's step in it. -/
import Derived.Test.YtklnkkejkeelaaaDoorPPut
import Derived.Test.YtklnkkejkeelaaaDoorXx6
set_option linter.unusedVariables false
set_option linter.unusedSimpArgs false
namespace Go.Proofs.YtklnkkejkeelaaaDoor.X
open Go.RowKit Go.Proofs.YtklnkkejkeelaaaDoorW.PrintWords Go.Proofs.YtklnkkejkeelaaaDoorW.PrintLast Go.Proofs.YtklnkkejkeelaaaDoorW.PrintMore

/-! ### what bytes tell -/
/-- So many numbers in a row, and in how many bytes. -/
def rdL : Nat → List Int → Except Int (List Int × Nat)
  | 0, _ => .ok ([], 0)
  | n + 1, m => match rdU m with
    | .error e => .error e
    | .ok ds => match rdL n (m.drop ds.length) with
      | .error e => .error e
      | .ok (ls, c) => .ok (val ds :: ls, ds.length + c)
/-- What stands behind an operator, and in how many bytes. -/
def decT (op : Int) (m : List Int) : Except Int (Ins × Nat) :=
  if kd op = 0 then .error 3
  else if kd op = 2 then match m with
    | [] => .error 2
    | c :: _ => if c = 64 then .ok (⟨op, 0, 0, 0, []⟩, 1) else if c = 127 ∨ c = 126 then .ok (⟨op, c, 0, 0, []⟩, 1) else .error 3
  else if kd op = 3 then match rdU m with
    | .error e => .error e
    | .ok ds => .ok (⟨op, val ds, 0, 0, []⟩, ds.length)
  else if kd op = 4 then match rdU m with
    | .error e => .error e
    | .ok ds => if val ds ≤ 64 then match rdL (val ds).toNat (m.drop ds.length) with
        | .error e => .error e
        | .ok (ls, n) => match rdU ((m.drop ds.length).drop n) with
          | .error e => .error e
          | .ok d2 => .ok (⟨op, val d2, 0, 0, ls⟩, ds.length + n + d2.length)
      else .error 4
  else if kd op = 5 then match rdU m with
    | .error e => .error e
    | .ok ds => match m.drop ds.length with
      | [] => .error 2
      | c :: _ => if c = 0 then .ok (⟨op, val ds, 0, 0, []⟩, ds.length + 1) else .error 3
  else if kd op = 6 then match rdU m with
    | .error e => .error e
    | .ok ds => match rdU (m.drop ds.length) with
      | .error e => .error e
      | .ok d2 => .ok (⟨op, val ds, val d2, 0, []⟩, ds.length + d2.length)
  else if kd op = 7 then match m with
    | [] => .error 2
    | c :: _ => if c = 0 then .ok (⟨op, 0, 0, 0, []⟩, 1) else .error 3
  else if kd op = 8 then match rdS false m with
    | .error e => .error e
    | .ok ds => .ok (⟨op, 0, 0, sval ds % 4294967296, []⟩, ds.length)
  else if kd op = 9 then match rdS true m with
    | .error e => .error e
    | .ok ds => .ok (⟨op, 0, 0, sval ds % 18446744073709551616, []⟩, ds.length)
  else .ok (⟨op, 0, 0, 0, []⟩, 0)
def dec : List Int → Except Int (Ins × Nat)
  | [] => .error 2
  | op :: m => match decT op m with
    | .error e => .error e
    | .ok (i, n) => .ok (i, n + 1)

/-! ### the reader -/
theorem byte_bad (k : Nat) (l : List Int) (p e : Int) (hk : 1 ≤ k) (he : e ≠ 0) : instr_reader_byte.f k l p e = some (0, p, e) := by
  obtain ⟨k, rfl⟩ : ∃ j, k = j + 1 := ⟨k - 1, by omega⟩
  unfold instr_reader_byte.f
  rw [if_neg he, instr_reader_byte.j0, if_neg (by decide), if_neg he]
theorem byte_ok (k : Nat) (l : List Int) (hb : Bs l) (hl : l.length ≤ 9223372036854775807) (x : Nat) (hx : x ≤ l.length) (hk : 1 ≤ k) :
    instr_reader_byte.f k l (x : Int) 0 = match l.drop x with
      | [] => some (0, (x : Int), 2)
      | c :: _ => some (c, ((x + 1 : Nat) : Int), 0) := by
  obtain ⟨k, rfl⟩ : ∃ j, k = j + 1 := ⟨k - 1, by omega⟩
  unfold instr_reader_byte.f
  rw [if_pos rfl, instr_reader_byte.j0]
  rcases Nat.lt_or_ge x l.length with h | h
  · rw [decide_eq_false (by omega), if_neg (by decide), if_pos rfl, List.drop_eq_getElem_cons h, w64 (x := (x : Int) + 1) (by omega) (by omega), show (x : Int) + 1 - 1 = x by omega, w64 (by omega) (by omega), if_pos (by omega), if_pos (by omega), rd_nat h]
    have hc := hb _ (List.getElem_mem h)
    rw [w64 (by omega) (by omega)]
    rfl
  · rw [decide_eq_true (by omega), if_pos rfl, List.drop_eq_nil_of_le h]
theorem must_bad (l : List Int) (p e : Int) (b : Bool) (v : Int) (he : e ≠ 0) : instr_reader_must.f l p e b v = some (p, e) := by
  unfold instr_reader_must.f
  rw [if_neg he]
  split <;> rfl
theorem must_ok (l : List Int) (p : Int) (b : Bool) (v : Int) : instr_reader_must.f l p 0 b v = some (p, if b then 0 else v) := by
  unfold instr_reader_must.f
  cases b <;> rfl
theorem u_bad (l : List Int) (p e : Int) (he : e ≠ 0) : instr_reader_u.f l p e = some (0, p, e) := by
  unfold instr_reader_u.f
  rw [if_neg he]
theorem u_ok (l : List Int) (hb : Bs l) (x : Nat) (hx : x ≤ l.length) :
    instr_reader_u.f l (x : Int) 0 = match rdU (l.drop x) with
      | .error e => some (0, 0, e)
      | .ok ds => some (val ds, ((x + ds.length : Nat) : Int), 0) := by
  unfold instr_reader_u.f
  rw [if_pos rfl, ReadU_eq l hb x hx]
  cases h : rdU (l.drop x) with
  | error e =>
    dsimp only
    rw [Option.bind_some, w64 (x := 0) (by omega) (by omega)]
  | ok ds =>
    dsimp only
    rw [Option.bind_some, w64 (by have := val_nonneg ds; omega) (by have := rdU_lt (hb.drop x) h; omega)]
theorem s_bad (k : Nat) (l : List Int) (p e v : Int) (he : e ≠ 0) : instr_reader_s.f k l p e v = some (0, p, e) := by
  unfold instr_reader_s.f
  rw [if_neg he]
theorem s_ok (w : Bool) (k : Nat) (l : List Int) (hb : Bs l) (x : Nat) (hx : x ≤ l.length) (hk : 1 ≤ k) :
    instr_reader_s.f k l (x : Int) 0 (if w then 64 else 32) = match rdS w (l.drop x) with
      | .error e => some (0, 0, e)
      | .ok ds => some (sval ds, ((x + ds.length : Nat) : Int), 0) := by
  unfold instr_reader_s.f
  rw [if_pos rfl, ReadS_eq w k l hb x hx hk]
  cases rdS w (l.drop x) <;> rfl
theorem rdU_err {l : List Int} {e : Int} (h : rdU l = .error e) : e ≠ 0 := by
  unfold rdU at h
  split at h
  · rename_i e' h'
    injection h with h
    have := scan_err h'
    omega
  · split at h
    · injection h with h
      omega
    · cases h
theorem rdS_err {w : Bool} {l : List Int} {e : Int} (h : rdS w l = .error e) : e ≠ 0 := by
  unfold rdS at h
  cases hs : scan (if w then 10 else 5) l with
  | error e' =>
    rw [hs] at h
    injection h with h
    have := scan_err hs
    omega
  | ok d =>
    rw [hs] at h
    dsimp only at h
    by_cases hc : d.length = (if w then 10 else 5) ∧ (if w then 0 else 7) < lastB d ∧ lastB d < (if w then 127 else 120)
    · rw [if_pos hc] at h
      injection h with h
      omega
    · rw [if_neg hc] at h
      cases h
theorem rdU_len {l ds : List Int} (h : rdU l = .ok ds) : ds.length ≤ l.length := (scan_ok (rdU_scan h)).2.2.2.1
theorem zero_bad (k : Nat) (l : List Int) (p e : Int) (hk : 1 ≤ k) (he : e ≠ 0) : instr_reader_zero.f k l p e = some (p, e) := by
  unfold instr_reader_zero.f
  rw [byte_bad k l p e hk he, Option.bind_some, must_bad l p e _ 3 he]
  rfl
theorem zero_ok (k : Nat) (l : List Int) (hb : Bs l) (hl : l.length ≤ 9223372036854775807) (x : Nat) (hx : x ≤ l.length) (hk : 1 ≤ k) :
    instr_reader_zero.f k l (x : Int) 0 = match l.drop x with
      | [] => some ((x : Int), 2)
      | c :: _ => some (((x + 1 : Nat) : Int), if c = 0 then 0 else 3) := by
  unfold instr_reader_zero.f
  rw [byte_ok k l hb hl x hx hk]
  cases l.drop x with
  | nil => rfl
  | cons c m =>
    dsimp only
    rw [Option.bind_some, must_ok]
    by_cases h : c = 0 <;> simp [h]
theorem block_ok (k : Nat) (l : List Int) (hb : Bs l) (hl : l.length ≤ 9223372036854775807) (x : Nat) (hx : x ≤ l.length) (hk : 1 ≤ k) :
    ∃ r, instr_reader_block.f k l (x : Int) 0 = some r ∧ match l.drop x with
      | [] => r.2.2 = 2
      | c :: _ => if c = 64 then r = (0, ((x + 1 : Nat) : Int), 0) else if c = 127 ∨ c = 126 then r = (c, ((x + 1 : Nat) : Int), 0) else r.2.2 = 3 := by
  unfold instr_reader_block.f
  rw [byte_ok k l hb hl x hx hk]
  cases l.drop x with
  | nil => exact ⟨(0, (x : Int), 2), rfl, rfl⟩
  | cons c m =>
    dsimp only
    rw [Option.bind_some]
    dsimp only
    simp only [must_ok, Option.bind_some]
    by_cases h1 : c = 64
    · exact ⟨(0, ((x + 1 : Nat) : Int), 0), by simp [h1], by simp [h1]⟩
    · by_cases h2 : c = 127
      · exact ⟨(c, ((x + 1 : Nat) : Int), 0), by simp [h2], by simp [h2]⟩
      · by_cases h3 : c = 126
        · exact ⟨(c, ((x + 1 : Nat) : Int), 0), by simp [h3], by simp [h3]⟩
        · exact ⟨(c, ((x + 1 : Nat) : Int), 3), by simp [h1, h2, h3], by simp [h1, h2, h3]⟩
theorem rdL_err {n : Nat} : ∀ {m : List Int} {e : Int}, rdL n m = .error e → e ≠ 0 := by
  induction n with
  | zero => intro m e h; simp [rdL] at h
  | succ n ih =>
    intro m e h
    simp only [rdL] at h
    split at h
    · rename_i h'
      injection h with h
      subst h
      exact rdU_err h'
    · split at h
      · rename_i h'
        injection h with h
        subst h
        exact ih h'
      · cases h
theorem labels_loop (l : List Int) (hb : Bs l) (n : Nat) (hn : n ≤ 64) (d : Nat) : ∀ (k x : Nat) (acc : List Int), acc.length + d = n → d < k → x ≤ l.length →
    ∃ r, instr_reader_labels.l0 k (n : Int) acc (acc.length : Int) l (x : Int) 0 = some r ∧ match rdL d (l.drop x) with
      | .error e => r.2.2 = e
      | .ok (ls, c) => r = (acc ++ ls, ((x + c : Nat) : Int), 0) ∧ x + c ≤ l.length := by
  induction d with
  | zero =>
    intro k x acc ha hk hx
    obtain ⟨k, rfl⟩ : ∃ j, k = j + 1 := ⟨k - 1, by omega⟩
    rw [instr_reader_labels.l0, if_neg (by omega)]
    exact ⟨_, rfl, by simp [rdL, hx]⟩
  | succ d ih =>
    intro k x acc ha hk hx
    obtain ⟨k, rfl⟩ : ∃ j, k = j + 1 := ⟨k - 1, by omega⟩
    rw [instr_reader_labels.l0, if_pos (by omega), if_pos rfl, u_ok l hb x hx]
    simp only [rdL]
    cases h : rdU (l.drop x) with
    | error e =>
      dsimp only
      rw [Option.bind_some, if_pos (by omega)]
      obtain ⟨k, rfl⟩ : ∃ j, k = j + 1 := ⟨k - 1, by omega⟩
      rw [instr_reader_labels.l0]
      split
      · rw [if_neg (rdU_err h)]
        exact ⟨_, rfl, rfl⟩
      · exact ⟨_, rfl, rfl⟩
    | ok ds =>
      have hlen := rdU_len h
      rw [List.length_drop] at hlen
      dsimp only
      rw [Option.bind_some, if_pos (by omega)]
      dsimp only
      obtain ⟨r, e, hr⟩ := ih k (x + ds.length) (acc ++ [val ds]) (by simp; omega) (by omega) (by omega)
      have e2 : wrap64 ((acc.length : Int) + 1) = ((acc ++ [val ds]).length : Int) := by rw [w64 (by omega) (by omega)]; simp
      rw [e2]
      refine ⟨r, e, ?_⟩
      rw [List.drop_drop]
      split at hr
      · exact hr
      · rename_i ls c h'
        obtain ⟨hr1, hr2⟩ := hr
        rw [hr1]
        exact ⟨by simp [Nat.add_assoc], by omega⟩
theorem labels_ok (k : Nat) (l : List Int) (hb : Bs l) (x : Nat) (hx : x ≤ l.length) (hk : 70 ≤ k) :
    ∃ r, instr_reader_labels.f k l (x : Int) 0 = some r ∧ match rdU (l.drop x) with
      | .error e => r.2.2 = e
      | .ok ds => if val ds ≤ 64 then match rdL (val ds).toNat ((l.drop x).drop ds.length) with
          | .error e => r.2.2 = e
          | .ok (ls, c) => r = (ls, ((x + ds.length + c : Nat) : Int), 0) ∧ x + ds.length + c ≤ l.length
        else r.2.2 = 4 := by
  unfold instr_reader_labels.f
  rw [u_ok l hb x hx]
  cases h : rdU (l.drop x) with
  | error e =>
    obtain ⟨k, rfl⟩ : ∃ j, k = j + 1 := ⟨k - 1, by omega⟩
    dsimp only
    rw [Option.bind_some, must_bad _ _ _ _ _ (rdU_err h), Option.bind_some, instr_reader_labels.l0, if_neg (by omega)]
    exact ⟨_, rfl, rfl⟩
  | ok ds =>
    have hlen := rdU_len h
    rw [List.length_drop] at hlen
    have hv0 := val_nonneg ds
    dsimp only
    rw [Option.bind_some]
    dsimp only
    rw [must_ok, Option.bind_some]
    by_cases h1 : val ds ≤ 64
    · rw [decide_eq_true h1]
      obtain ⟨r, e, hr⟩ := labels_loop l hb (val ds).toNat (by omega) (val ds).toNat k (x + ds.length) [] (by simp) (by omega) (by omega)
      rw [Int.toNat_of_nonneg hv0] at e
      refine ⟨r, e, ?_⟩
      rw [if_pos h1, List.drop_drop]
      split at hr
      · exact hr
      · obtain ⟨hr1, hr2⟩ := hr
        exact ⟨hr1, hr2⟩
    · rw [decide_eq_false h1]
      obtain ⟨k, rfl⟩ : ∃ j, k = j + 1 := ⟨k - 1, by omega⟩
      dsimp only
      rw [instr_reader_labels.l0]
      refine ⟨([], ((x + ds.length : Nat) : Int), 4), ?_, ?_⟩
      · rw [if_pos (by omega)]
        rfl
      · rw [if_neg h1]
theorem j2_bad (k : Nat) (l : List Int) (p e a b c d : Int) (ls : List Int) (he : e ≠ 0) : instr_Read.j2 (k + 1) l p e a b c d ls = some (0, 0, 0, 0, [], 0, e) := by
  rw [instr_Read.j2, if_neg he]
theorem j2_ok (k : Nat) (l : List Int) (p a b c d : Int) (ls : List Int) : instr_Read.j2 (k + 1) l p 0 a b c d ls = some (a, b, c, d, ls, p, 0) := by
  rw [instr_Read.j2, if_pos rfl]
theorem Read_eq (k : Nat) (l : List Int) (hb : Bs l) (hl : l.length ≤ 9223372036854775807) (x : Nat) (hx : x ≤ l.length) (hk : 100 ≤ k) :
    instr_Read.f k l (x : Int) = match dec (l.drop x) with
      | .error e => some (0, 0, 0, 0, [], 0, e)
      | .ok (i, n) => some (i.op, i.a, i.b, i.c, i.ls, ((x + n : Nat) : Int), 0) := by
  obtain ⟨k, rfl⟩ : ∃ j, k = j + 3 := ⟨k - 3, by omega⟩
  unfold instr_Read.f
  rw [if_neg (by omega), decide_eq_false (by omega), instr_Read.j0, if_neg (by decide), byte_ok (k + 2) l hb hl x hx (by omega)]
  rcases Nat.lt_or_ge x l.length with h | h
  case inr =>
    rw [List.drop_eq_nil_of_le h]
    dsimp only [dec]
    rw [Option.bind_some]
    unfold instr_Kind.f
    have e0 : instr_Kind.from spansL 0 = 1 := by kernel_rfl
    rw [Option.bind_some]
    dsimp only
    rw [e0, instr_Read.j1]
    simp only [Int.reduceEq, if_false]
    ((try dsimp only); (try rw [Option.bind_some]); (try dsimp only); rw [j2_bad _ _ _ _ _ _ _ _ _ (by decide)])
  rw [List.drop_eq_getElem_cons h]
  dsimp only [dec]
  rw [Option.bind_some]
  unfold instr_Kind.f
  rw [Option.bind_some]
  dsimp only
  generalize l[x] = op
  rw [instr_Read.j1]
  have hx1 : x + 1 ≤ l.length := h
  have hs : ∀ n, ((x + 1 + n : Nat) : Int) = ((x + (n + 1) : Nat) : Int) := fun n => by omega
  change (if kd op = 0 then _ else if kd op = 2 then _ else if kd op = 3 then _ else if kd op = 4 then _ else if kd op = 5 then _ else if kd op = 6 then _ else if kd op = 7 then _ else if kd op = 8 then _ else if kd op = 9 then _ else _) = _
  unfold decT
  rcases kd_in op with e | e | e | e | e | e | e | e | e | e <;> simp only [e, Int.reduceEq, if_true, if_false]
  · rw [must_ok, Option.bind_some]
    rw [if_neg (by decide)]
    ((try dsimp only); (try rw [Option.bind_some]); (try dsimp only); rw [j2_bad _ _ _ _ _ _ _ _ _ (show (3 : Int) ≠ 0 by decide)])
  · exact j2_ok _ _ _ _ _ _ _ _
  · obtain ⟨r, er, hr⟩ := block_ok (k + 1) l hb hl (x + 1) hx1 (by omega)
    rw [er, Option.bind_some]
    cases hm : l.drop (x + 1) with
    | nil =>
      rw [hm] at hr
      dsimp only at hr ⊢
      rw [hr]
      ((try dsimp only); (try rw [Option.bind_some]); (try dsimp only); rw [j2_bad _ _ _ _ _ _ _ _ _ (by decide)])
    | cons c m =>
      rw [hm] at hr
      dsimp only at hr ⊢
      by_cases h1 : c = 64
      · rw [if_pos h1] at hr ⊢
        rw [hr]
        exact j2_ok _ _ _ _ _ _ _ _
      · rw [if_neg h1] at hr ⊢
        by_cases h2 : c = 127 ∨ c = 126
        · rw [if_pos h2] at hr ⊢
          rw [hr]
          exact j2_ok _ _ _ _ _ _ _ _
        · rw [if_neg h2] at hr ⊢
          rw [hr]
          ((try dsimp only); (try rw [Option.bind_some]); (try dsimp only); rw [j2_bad _ _ _ _ _ _ _ _ _ (by decide)])
  · rw [u_ok l hb (x + 1) hx1]
    cases h1 : rdU (l.drop (x + 1)) with
    | error e => dsimp only; rw [Option.bind_some]; dsimp only; ((try dsimp only); (try rw [Option.bind_some]); (try dsimp only); rw [j2_bad _ _ _ _ _ _ _ _ _ (rdU_err h1)])
    | ok ds => dsimp only; rw [Option.bind_some]; dsimp only; rw [j2_ok, hs]
  · obtain ⟨r, er, hr⟩ := labels_ok (k + 1) l hb (x + 1) hx1 (by omega)
    rw [er, Option.bind_some]
    cases h1 : rdU (l.drop (x + 1)) with
    | error e =>
      rw [h1] at hr
      dsimp only at hr ⊢
      rw [hr, u_bad _ _ _ (rdU_err h1)]
      ((try dsimp only); (try rw [Option.bind_some]); (try dsimp only); rw [j2_bad _ _ _ _ _ _ _ _ _ (rdU_err h1)])
    | ok ds =>
      rw [h1] at hr
      dsimp only at hr ⊢
      by_cases h2 : val ds ≤ 64
      · rw [if_pos h2] at hr ⊢
        cases h3 : rdL (val ds).toNat ((l.drop (x + 1)).drop ds.length) with
        | error e =>
          rw [h3] at hr
          dsimp only at hr ⊢
          rw [hr, u_bad _ _ _ (rdL_err h3)]
          ((try dsimp only); (try rw [Option.bind_some]); (try dsimp only); rw [j2_bad _ _ _ _ _ _ _ _ _ (rdL_err h3)])
        | ok q =>
          obtain ⟨ls, c⟩ := q
          rw [h3] at hr
          dsimp only at hr ⊢
          obtain ⟨hr1, hr2⟩ := hr
          rw [hr1]
          dsimp only
          rw [u_ok l hb _ hr2, List.drop_drop, List.drop_drop, Nat.add_assoc]
          cases h4 : rdU (l.drop (x + 1 + (ds.length + c))) with
          | error e => ((try dsimp only); (try rw [Option.bind_some]); (try dsimp only); rw [j2_bad _ _ _ _ _ _ _ _ _ (rdU_err h4)])
          | ok d2 => dsimp only; rw [Option.bind_some]; dsimp only; rw [j2_ok, show x + 1 + (ds.length + c) + d2.length = x + (ds.length + c + d2.length + 1) by omega]
      · rw [if_neg h2] at hr ⊢
        dsimp only
        rw [hr, u_bad _ _ _ (by decide)]
        ((try dsimp only); (try rw [Option.bind_some]); (try dsimp only); rw [j2_bad _ _ _ _ _ _ _ _ _ (show (4 : Int) ≠ 0 by decide)])
  · rw [u_ok l hb (x + 1) hx1]
    cases h1 : rdU (l.drop (x + 1)) with
    | error e =>
      dsimp only
      rw [Option.bind_some]
      dsimp only
      rw [zero_bad _ _ _ _ (by omega) (rdU_err h1)]
      ((try dsimp only); (try rw [Option.bind_some]); (try dsimp only); rw [j2_bad _ _ _ _ _ _ _ _ _ (rdU_err h1)])
    | ok ds =>
      have hlen := rdU_len h1
      rw [List.length_drop] at hlen
      dsimp only
      rw [Option.bind_some]
      dsimp only
      rw [zero_ok _ l hb hl _ (by omega) (by omega), List.drop_drop]
      cases h2 : l.drop (x + 1 + ds.length) with
      | nil => ((try dsimp only); (try rw [Option.bind_some]); (try dsimp only); rw [j2_bad _ _ _ _ _ _ _ _ _ (show (2 : Int) ≠ 0 by decide)])
      | cons c m =>
        dsimp only
        rw [Option.bind_some]
        dsimp only
        by_cases h3 : c = 0
        · rw [if_pos h3, if_pos h3, j2_ok, Nat.add_assoc, hs]
        · rw [if_neg h3, if_neg h3]
          ((try dsimp only); (try rw [Option.bind_some]); (try dsimp only); rw [j2_bad _ _ _ _ _ _ _ _ _ (by decide)])
  · rw [u_ok l hb (x + 1) hx1]
    cases h1 : rdU (l.drop (x + 1)) with
    | error e =>
      dsimp only
      rw [Option.bind_some]
      dsimp only
      rw [u_bad _ _ _ (rdU_err h1)]
      ((try dsimp only); (try rw [Option.bind_some]); (try dsimp only); rw [j2_bad _ _ _ _ _ _ _ _ _ (rdU_err h1)])
    | ok ds =>
      have hlen := rdU_len h1
      rw [List.length_drop] at hlen
      dsimp only
      rw [Option.bind_some]
      dsimp only
      rw [u_ok l hb _ (by omega), List.drop_drop]
      cases h2 : rdU (l.drop (x + 1 + ds.length)) with
      | error e => ((try dsimp only); (try rw [Option.bind_some]); (try dsimp only); rw [j2_bad _ _ _ _ _ _ _ _ _ (rdU_err h2)])
      | ok d2 => dsimp only; rw [Option.bind_some]; dsimp only; rw [j2_ok, Nat.add_assoc, hs]
  · rw [zero_ok _ l hb hl _ hx1 (by omega)]
    cases h2 : l.drop (x + 1) with
    | nil => ((try dsimp only); (try rw [Option.bind_some]); (try dsimp only); rw [j2_bad _ _ _ _ _ _ _ _ _ (show (2 : Int) ≠ 0 by decide)])
    | cons c m =>
      dsimp only
      rw [Option.bind_some]
      dsimp only
      by_cases h3 : c = 0
      · rw [if_pos h3, if_pos h3]
        exact j2_ok _ _ _ _ _ _ _ _
      · rw [if_neg h3, if_neg h3]
        ((try dsimp only); (try rw [Option.bind_some]); (try dsimp only); rw [j2_bad _ _ _ _ _ _ _ _ _ (by decide)])
  · have := s_ok false (k + 1) l hb (x + 1) hx1 (by omega)
    simp only [Bool.false_eq_true, if_false] at this
    rw [this]
    cases h1 : rdS false (l.drop (x + 1)) with
    | error e => ((try dsimp only); (try rw [Option.bind_some]); (try dsimp only); rw [j2_bad _ _ _ _ _ _ _ _ _ (rdS_err h1)])
    | ok ds => dsimp only; rw [Option.bind_some]; dsimp only; rw [j2_ok, hs]
  · have := s_ok true (k + 1) l hb (x + 1) hx1 (by omega)
    simp only [if_true] at this
    rw [this]
    cases h1 : rdS true (l.drop (x + 1)) with
    | error e => ((try dsimp only); (try rw [Option.bind_some]); (try dsimp only); rw [j2_bad _ _ _ _ _ _ _ _ _ (rdS_err h1)])
    | ok ds => dsimp only; rw [Option.bind_some]; dsimp only; rw [j2_ok, hs, u64w]
end Go.Proofs.YtklnkkejkeelaaaDoor.X
