/- The reading of the document's body: Read (avocetref06). -/
import Derived.Test.YtklnkkejkeelaaaDoorN8
import Derived.Test.YtklnkkejkeelaaaDoorM8
set_option linter.unnecessarySimpa false
set_option linter.unusedSimpArgs false
set_option linter.unusedVariables false
set_option autoImplicit false
set_option maxRecDepth 100000
set_option maxHeartbeats 8000000
set_option linter.unusedSimpArgs false
set_option linter.unusedVariables false
set_option pp.maxSteps 20000
namespace Go.Proofs.YtklnkkejkeelaaaDoor.E
open Go.Ev
/-- What the document lays for what is open: its operator, or 5 behind its else. -/
def oW (out : List TInstr) (p : Nest) : Int := if p.2 = -1 then opAt out p.1.toNat else 5
theorem oW_app {out : List TInstr} {i : TInstr} {st : List Nest} (h : ∀ p ∈ st, nestIn out.length p) : st.map (oW (out ++ [i])) = st.map (oW out) := by
  apply List.map_congr_left
  intro p hp
  have := h p hp
  unfold nestIn at this
  unfold oW opAt
  have h1 : p.1.toNat < out.length := by omega
  split
  · simp only [List.getD_eq_getElem?_getD]
    rw [List.getElem?_append_left h1]
  · rfl
theorem oW_new {out : List TInstr} {i : TInstr} : oW (out ++ [i]) (((out.length : Nat) : Int), -1) = i.op := by
  unfold oW opAt
  rw [if_pos rfl, Int.toNat_natCast]
  simp [List.getD_eq_getElem?_getD]
theorem oW_else {out : List TInstr} {a : Int} {k : Nat} : oW out (a, (k : Int)) = 5 := by
  unfold oW
  rw [if_neg (by show ¬ (k : Int) = -1; omega)]
theorem oW_four {out : List TInstr} {p : Nest} : oW out p = 4 ↔ (p.2 = -1 ∧ ifAt out p.1 = true) := by
  unfold oW ifAt
  by_cases h : p.2 = -1
  · rw [if_pos h]
    exact ⟨fun h2 => ⟨h, decide_eq_true h2⟩, fun h2 => of_decide_eq_true h2.2⟩
  · rw [if_neg h]; simp [h]
inductive RfH (out : List TInstr) (ws : List Int) : V → V → Map Go.Ev.Obj → Prop
  | nil : out = [] → ws = [] → RfH out ws .nilsl .nilsl []
  | flat (ys : List D) (m : Nat) (c : Bool) : ws = [] → m = out.length → ys = out.map TInstr.d → RfH out ws (.row 4928 0 0 m) .nilsl [(4928, .row 5 ys 0 false c)]
  | row (xs ys : List D) (m n : Nat) (c1 c2 : Bool) : xs.take n = ws.reverse.map (D.int .i64) → n = ws.length → m = out.length → ys = out.map TInstr.d → RfH out ws (.row 4928 0 0 m) (.row 5696 0 0 n) [(4928, .row 5 ys 0 false c2), (5696, .row 1 xs 0 false c1)]
inductive RfJ : Except Int (List TInstr × Nat) → Ex → St → Prop
  | err (e : Int) : RfJ (.error e) .ret ⟨[(4, .nilsl), (5, .d (.int .i64 0)), (6, .d (.int .i64 e))], []⟩
  | nil (x : Nat) : RfJ (.ok ([], x)) .ret ⟨[(4, .nilsl), (5, .d (.int .i64 x)), (6, .d (.int .i64 0))], []⟩
  | row (l : List TInstr) (x : Nat) (c : Bool) : RfJ (.ok (l, x)) .ret ⟨[(4, .row 4928 0 0 l.length), (5, .d (.int .i64 x)), (6, .d (.int .i64 0))], [(4928, .row 5 (l.map TInstr.d) 0 false c)]⟩
theorem w_top {ws : List Int} {w : Int} {xs : List D} {n : Nat} (hn : n = ws.length) (h : xs.take (n + 1) = (w :: ws).reverse.map (D.int .i64)) : xs[n]? = some (.int .i64 w) ∧ xs.take n = ws.reverse.map (D.int .i64) := by
  subst hn
  have h1 : (xs.take (ws.length + 1))[ws.length]? = some (.int .i64 w) := by rw [h]; simp
  refine ⟨by simpa [List.getElem?_take] using h1, ?_⟩
  have h2 : (xs.take (ws.length + 1)).take ws.length = ws.reverse.map (D.int .i64) := by rw [h]; simp
  simpa [List.take_take] using h2
theorem w_push {ws : List Int} {w : Int} {xs : List D} {n : Nat} (hn : n = ws.length) (h : xs.take n = ws.reverse.map (D.int .i64)) : (xs.take n ++ [D.int .i64 w]).take (n + 1) = (w :: ws).reverse.map (D.int .i64) := by
  rw [h, hn, List.take_of_length_le (by simp)]
  simp
def rfSt (b : List Int) (x : Nat) (v7 v8 : V) (H : Map Go.Ev.Obj) : St := ⟨[(0, .d (.list (byt b))), (1, .d (.int .i64 x)), (7, v7), (8, v8)], H⟩
theorem rBRead_ev (fu n : Nat) (b : List Int) (hb : Bs b) (x : Nat) (hf : 5000 < fu) (hx : x ≤ b.length) (hl : b.length < 1099511627000) :
    evF (G fu) (n+7) 41 [.d (.list (byt b)), .d (.int .i64 x)] [] = brdR (brd b 4097 x [] []) := by
  rw [evF.eq_2, evX.eq_def, Gext, exts_no _ (f := 41) (by decide), GP, Tryd.func41]; simp only [Tryd.f41, evB]
  simp only [go_sem, Nat.reduceAdd, Nat.reduceMul, Nat.reduceSub, Nat.reduceLT, Nat.reduceLeDiff, Nat.reduceEqDiff, Nat.reduceBEq, Nat.reduceBeqDiff, Int.reduceEq, Int.reduceLT, Int.reduceLE, Int.reduceToNat, Int.reduceNeg, Int.reduceAdd, Int.reduceSub, Int.reduceMul, reduceIte, reduceCtorEq, Nat.reducePow, Nat.reduceDiv, Nat.reduceMod, Int.reduceBEq]
  generalize hr : loopN _ _ _ _ _ = r
  obtain ⟨y, s1, rfl, hy, hJ⟩ : ∃ y s1, r = some (y, s1) ∧ leaves y ∧ RfJ (brd b 4097 x [] []) y s1 := by
    rw [← hr]
    clear hr r
    refine loop_rel (σ := RdS) (fun a s => a.x ≤ b.length ∧ a.out.length + a.f = 4096 ∧ (∀ p ∈ a.st, nestIn a.out.length p) ∧ a.st.length ≤ a.out.length ∧ ∃ v7 v8 H, RfH a.out (a.st.map (oW a.out)) v7 v8 H ∧ s = rfSt b a.x v7 v8 H) (fun a y s => RfJ (brd b (a.f + 1) a.x a.out a.st) y s) (fun a => a.f) ?_ fu ⟨4096, x, [], []⟩ _ (by show 4096 < fu; omega) ⟨hx, rfl, by simp, by simp, _, _, _, .nil rfl rfl, rfl⟩
    rintro ⟨f, x, out, st⟩ s ⟨hx, hf', hin, hlen, v7, v8, H, hH, rfl⟩
    simp only at hx hf' hin hlen hH
    unfold rfSt
    have q := rRead_ev fu n b hb x (by omega) hx hl
    cases hd : dec (b.drop x) with
    | error e =>
      rw [hd] at q
      have he := dec_err hd
      simp only [decR, TInstr.d, in0, List.map_nil] at q
      have e1 : brd b (f + 1) x out st = .error e := by simp only [brd, hd]
      have fin : ∃ y s1, some (Ex.ret, (⟨[(4, .nilsl), (5, .d (.int .i64 0)), (6, .d (.int .i64 e))], []⟩ : St)) = some (y, s1) ∧ match y with
        | .normal => ∃ a' : RdS, (a'.x ≤ b.length ∧ a'.out.length + a'.f = 4096 ∧ (∀ p ∈ a'.st, nestIn a'.out.length p) ∧ a'.st.length ≤ a'.out.length ∧ ∃ v7 v8 H, RfH a'.out (a'.st.map (oW a'.out)) v7 v8 H ∧ s1 = rfSt b a'.x v7 v8 H) ∧ a'.f < f ∧ ∀ y s, RfJ (brd b (a'.f + 1) a'.x a'.out a'.st) y s → RfJ (brd b (f + 1) x out st) y s
        | y => RfJ (brd b (f + 1) x out st) y s1 := ⟨.ret, _, rfl, by rw [e1]; exact .err e⟩
      cases hH with
      | nil h1 h2 => simp only [go_sem, Nat.reduceAdd, Nat.reduceMul, Nat.reduceSub, Nat.reduceLT, Nat.reduceLeDiff, Nat.reduceEqDiff, Nat.reduceBEq, Nat.reduceBeqDiff, Int.reduceEq, Int.reduceLT, Int.reduceLE, Int.reduceToNat, Int.reduceNeg, Int.reduceAdd, Int.reduceSub, Int.reduceMul, reduceIte, reduceCtorEq, Nat.reducePow, Nat.reduceDiv, Nat.reduceMod, Int.reduceBEq, q, he]; exact fin
      | flat ys m c h1 h2 h3 => simp only [go_sem, Nat.reduceAdd, Nat.reduceMul, Nat.reduceSub, Nat.reduceLT, Nat.reduceLeDiff, Nat.reduceEqDiff, Nat.reduceBEq, Nat.reduceBeqDiff, Int.reduceEq, Int.reduceLT, Int.reduceLE, Int.reduceToNat, Int.reduceNeg, Int.reduceAdd, Int.reduceSub, Int.reduceMul, reduceIte, reduceCtorEq, Nat.reducePow, Nat.reduceDiv, Nat.reduceMod, Int.reduceBEq, q, he]; exact fin
      | row xs ys m k c1 c2 h1 h2 h3 h4 => simp only [go_sem, Nat.reduceAdd, Nat.reduceMul, Nat.reduceSub, Nat.reduceLT, Nat.reduceLeDiff, Nat.reduceEqDiff, Nat.reduceBEq, Nat.reduceBeqDiff, Int.reduceEq, Int.reduceLT, Int.reduceLE, Int.reduceToNat, Int.reduceNeg, Int.reduceAdd, Int.reduceSub, Int.reduceMul, reduceIte, reduceCtorEq, Nat.reducePow, Nat.reduceDiv, Nat.reduceMod, Int.reduceBEq, q, he]; exact fin
    | ok p =>
      obtain ⟨⟨op, a, b', k, ls⟩, c⟩ := p
      rw [hd] at q
      simp only [decR, TInstr.d] at q
      have ho := rOpens_ev fu (n+5) ⟨op, a, b', k, ls⟩
      simp only [TInstr.d] at ho
      have hxc := (dec_ok (hb.drop x) hd).2.2.2.1
      rw [List.length_drop] at hxc
      have hl9 : out.length + 1 ≤ 1099511627776 := by omega
      have hw9 : st.length + 1 ≤ 1099511627776 := by omega
      have ht := map_takeI out
      have lenA : (out ++ [(⟨op, a, b', k, ls⟩ : TInstr)]).length = out.length + 1 := by simp
      have mapA : (out ++ [(⟨op, a, b', k, ls⟩ : TInstr)]).map TInstr.d = out.map TInstr.d ++ [D.agg [.int .i64 op, .int .i64 a, .int .i64 b', .int .u64 k, .list (ls.map (D.int .i64))]] := by simp [TInstr.d]
      have hwl : (st.map (oW out)).length = st.length := by simp
      have bad : ∀ (e : Int) (he : brd b (f + 1) x out st = .error e), ∃ y s1, some (Ex.ret, (⟨[(4, .nilsl), (5, .d (.int .i64 0)), (6, .d (.int .i64 e))], []⟩ : St)) = some (y, s1) ∧ match y with
        | .normal => ∃ a' : RdS, (a'.x ≤ b.length ∧ a'.out.length + a'.f = 4096 ∧ (∀ p ∈ a'.st, nestIn a'.out.length p) ∧ a'.st.length ≤ a'.out.length ∧ ∃ v7 v8 H, RfH a'.out (a'.st.map (oW a'.out)) v7 v8 H ∧ s1 = rfSt b a'.x v7 v8 H) ∧ a'.f < f ∧ ∀ y s, RfJ (brd b (a'.f + 1) a'.x a'.out a'.st) y s → RfJ (brd b (f + 1) x out st) y s
        | y => RfJ (brd b (f + 1) x out st) y s1 := fun e he => ⟨.ret, _, rfl, by rw [he]; exact .err e⟩
      have go : ∀ (st' : List Nest) (v7 v8 : V) (H : Map Go.Ev.Obj) (deep : Int) (en : Nest) (hne : ¬ (op = 11 ∧ st = [])) (sf : stepF out st out.length op = some (st', deep, en)) (c0 : ¬ f = 0) (c1 : ¬ 32 < deep) (hR : RfH (out ++ [(⟨op, a, b', k, ls⟩ : TInstr)]) (st'.map (oW (out ++ [(⟨op, a, b', k, ls⟩ : TInstr)]))) v7 v8 H),
        ∃ y s1, some (Ex.normal, rfSt b (x + c) v7 v8 H) = some (y, s1) ∧ match y with
        | .normal => ∃ a' : RdS, (a'.x ≤ b.length ∧ a'.out.length + a'.f = 4096 ∧ (∀ p ∈ a'.st, nestIn a'.out.length p) ∧ a'.st.length ≤ a'.out.length ∧ ∃ v7 v8 H, RfH a'.out (a'.st.map (oW a'.out)) v7 v8 H ∧ s1 = rfSt b a'.x v7 v8 H) ∧ a'.f < f ∧ ∀ y s, RfJ (brd b (a'.f + 1) a'.x a'.out a'.st) y s → RfJ (brd b (f + 1) x out st) y s
        | y => RfJ (brd b (f + 1) x out st) y s1 := fun st' v7 v8 H deep en hne sf c0 c1 hR => by
          obtain ⟨f', rfl⟩ : ∃ f', f = f' + 1 := ⟨f - 1, by omega⟩
          have e := brd_go hd hne sf c0 c1
          obtain ⟨n1, n2⟩ := stepF_in sf hin
          exact ⟨.normal, _, rfl, ⟨f', x + c, out ++ [⟨op, a, b', k, ls⟩], st'⟩, ⟨by show x + c ≤ _; omega, by show (out ++ [_]).length + f' = 4096; rw [lenA]; omega, by rw [lenA]; exact n1, by rw [lenA]; exact Nat.le_trans n2 (by omega), v7, v8, H, hR, rfl⟩, by show f' < f' + 1; omega, fun y s h => by rw [e]; exact h⟩
      unfold rfSt at go
      rcases (show opensB op = true ∨ (opensB op = false ∧ op ≠ 5 ∧ op ≠ 11) ∨ op = 5 ∨ op = 11 by cases opensB op <;> simp <;> omega) with co | ⟨cb, c5, c11⟩ | rfl | rfl
      · rw [co] at ho
        have c5 : ¬ op = 5 := by rintro rfl; cases co
        have c11 : ¬ op = 11 := opens_not11 co
        have hne : ¬ (op = 11 ∧ st = []) := fun z => c11 z.1
        have sf := stepF_open (l := out) (st := st) (k := out.length) co
        have hw : ((((out.length : Nat) : Int), -1) :: st).map (oW (out ++ [(⟨op, a, b', k, ls⟩ : TInstr)])) = op :: st.map (oW out) := by rw [List.map_cons, oW_new, oW_app hin]
        cases hH with
        | nil h1 h2 =>
          have hst : st = [] := by simpa using h2
          subst h1 hst
          have c0 : ¬ f = 0 := by intro e; simp at hf'; omega
          simp only [go_sem, Nat.reduceAdd, Nat.reduceMul, Nat.reduceSub, Nat.reduceLT, Nat.reduceLeDiff, Nat.reduceEqDiff, Nat.reduceBEq, Nat.reduceBeqDiff, Int.reduceEq, Int.reduceLT, Int.reduceLE, Int.reduceToNat, Int.reduceNeg, Int.reduceAdd, Int.reduceSub, Int.reduceMul, reduceIte, reduceCtorEq, Nat.reducePow, Nat.reduceDiv, Nat.reduceMod, Int.reduceBEq, q, ho, c5, c11, sz5, szi]
          exact go _ _ _ _ _ _ hne sf c0 (by simp) (by rw [hw]; exact .row [.int .i64 op] _ _ _ _ _ rfl rfl rfl rfl)
        | flat ys m cc h1 h2 h3 =>
          have hst : st = [] := by simpa using h1
          subst h2 h3 hst
          have hk9 : True := trivial
          by_cases c0 : f = 0
          · have h4 : (4096 : Int) ≤ out.length := by omega
            simp only [go_sem, Nat.reduceAdd, Nat.reduceMul, Nat.reduceSub, Nat.reduceLT, Nat.reduceLeDiff, Nat.reduceEqDiff, Nat.reduceBEq, Nat.reduceBeqDiff, Int.reduceEq, Int.reduceLT, Int.reduceLE, Int.reduceToNat, Int.reduceNeg, Int.reduceAdd, Int.reduceSub, Int.reduceMul, reduceIte, reduceCtorEq, Nat.reducePow, Nat.reduceDiv, Nat.reduceMod, Int.reduceBEq, q, ho, c5, c11, List.length_nil, h4]
            exact bad 4 (brd_lim hd hne sf (.inl c0))
          have h4 : ¬ (4096 : Int) ≤ out.length := by omega
          have c1 : ¬ (32 : Int) < ((([] : List Nest).length : Nat) : Int) := by decide
          simp only [go_sem, Nat.reduceAdd, Nat.reduceMul, Nat.reduceSub, Nat.reduceLT, Nat.reduceLeDiff, Nat.reduceEqDiff, Nat.reduceBEq, Nat.reduceBeqDiff, Int.reduceEq, Int.reduceLT, Int.reduceLE, Int.reduceToNat, Int.reduceNeg, Int.reduceAdd, Int.reduceSub, Int.reduceMul, reduceIte, reduceCtorEq, Nat.reducePow, Nat.reduceDiv, Nat.reduceMod, Int.reduceBEq, q, ho, c5, c11, List.length_nil, h4, sz5, szj, szi, ht, hl9]
          exact go _ _ _ _ _ _ hne sf c0 c1 (by rw [hw]; exact .row [.int .i64 op] _ _ _ _ _ rfl rfl (by rw [lenA]) (by rw [mapA]))
        | row xs ys m kk c1' c2' h1 h2 h3 h4' =>
          subst h3 h4'
          have hkk : kk = st.length := by rw [h2, hwl]
          have hk9 : kk + 1 ≤ 1099511627776 := by omega
          by_cases c0 : f = 0
          · have h4 : (4096 : Int) ≤ out.length := by omega
            simp only [go_sem, Nat.reduceAdd, Nat.reduceMul, Nat.reduceSub, Nat.reduceLT, Nat.reduceLeDiff, Nat.reduceEqDiff, Nat.reduceBEq, Nat.reduceBeqDiff, Int.reduceEq, Int.reduceLT, Int.reduceLE, Int.reduceToNat, Int.reduceNeg, Int.reduceAdd, Int.reduceSub, Int.reduceMul, reduceIte, reduceCtorEq, Nat.reducePow, Nat.reduceDiv, Nat.reduceMod, Int.reduceBEq, q, ho, c5, c11, h4]
            exact bad 4 (brd_lim hd hne sf (.inl c0))
          have h4 : ¬ (4096 : Int) ≤ out.length := by omega
          rw [← hkk] at sf
          by_cases c1 : (32 : Int) < ((kk : Nat) : Int)
          · simp only [go_sem, Nat.reduceAdd, Nat.reduceMul, Nat.reduceSub, Nat.reduceLT, Nat.reduceLeDiff, Nat.reduceEqDiff, Nat.reduceBEq, Nat.reduceBeqDiff, Int.reduceEq, Int.reduceLT, Int.reduceLE, Int.reduceToNat, Int.reduceNeg, Int.reduceAdd, Int.reduceSub, Int.reduceMul, reduceIte, reduceCtorEq, Nat.reducePow, Nat.reduceDiv, Nat.reduceMod, Int.reduceBEq, q, ho, c5, c11, h4, c1]
            exact bad 4 (brd_lim hd hne sf (.inr c1))
          simp only [go_sem, Nat.reduceAdd, Nat.reduceMul, Nat.reduceSub, Nat.reduceLT, Nat.reduceLeDiff, Nat.reduceEqDiff, Nat.reduceBEq, Nat.reduceBeqDiff, Int.reduceEq, Int.reduceLT, Int.reduceLE, Int.reduceToNat, Int.reduceNeg, Int.reduceAdd, Int.reduceSub, Int.reduceMul, reduceIte, reduceCtorEq, Nat.reducePow, Nat.reduceDiv, Nat.reduceMod, Int.reduceBEq, q, ho, c5, c11, h4, c1, sz5, szj, szi, ht, hl9, hk9]
          exact go _ _ _ _ _ _ hne sf c0 c1 (by rw [hw]; exact .row _ _ _ _ _ _ (w_push h2 h1) (by rw [h2]; rfl) (by rw [lenA]) (by rw [mapA]))
      · rw [cb] at ho
        have hne : ¬ (op = 11 ∧ st = []) := fun z => c11 z.1
        have sf := stepF_plain (l := out) (st := st) (k := out.length) cb c5 c11
        have hw := oW_app (i := (⟨op, a, b', k, ls⟩ : TInstr)) hin
        cases hH with
        | nil h1 h2 =>
          have hst : st = [] := by simpa using h2
          subst h1 hst
          have c0 : ¬ f = 0 := by intro e; simp at hf'; omega
          simp only [go_sem, Nat.reduceAdd, Nat.reduceMul, Nat.reduceSub, Nat.reduceLT, Nat.reduceLeDiff, Nat.reduceEqDiff, Nat.reduceBEq, Nat.reduceBeqDiff, Int.reduceEq, Int.reduceLT, Int.reduceLE, Int.reduceToNat, Int.reduceNeg, Int.reduceAdd, Int.reduceSub, Int.reduceMul, reduceIte, reduceCtorEq, Nat.reducePow, Nat.reduceDiv, Nat.reduceMod, Int.reduceBEq, q, ho, c5, c11, sz5, szi]
          exact go _ _ _ _ _ _ hne sf c0 (by simp) (by rw [hw]; exact .flat _ _ _ rfl rfl rfl)
        | flat ys m cc h1 h2 h3 =>
          have hst : st = [] := by simpa using h1
          subst h2 h3 hst
          have hk9 : True := trivial
          by_cases c0 : f = 0
          · have h4 : (4096 : Int) ≤ out.length := by omega
            simp only [go_sem, Nat.reduceAdd, Nat.reduceMul, Nat.reduceSub, Nat.reduceLT, Nat.reduceLeDiff, Nat.reduceEqDiff, Nat.reduceBEq, Nat.reduceBeqDiff, Int.reduceEq, Int.reduceLT, Int.reduceLE, Int.reduceToNat, Int.reduceNeg, Int.reduceAdd, Int.reduceSub, Int.reduceMul, reduceIte, reduceCtorEq, Nat.reducePow, Nat.reduceDiv, Nat.reduceMod, Int.reduceBEq, q, ho, c5, c11, List.length_nil, h4]
            exact bad 4 (brd_lim hd hne sf (.inl c0))
          have h4 : ¬ (4096 : Int) ≤ out.length := by omega
          have c1 : ¬ (32 : Int) < ((([] : List Nest).length : Nat) : Int) := by decide
          simp only [go_sem, Nat.reduceAdd, Nat.reduceMul, Nat.reduceSub, Nat.reduceLT, Nat.reduceLeDiff, Nat.reduceEqDiff, Nat.reduceBEq, Nat.reduceBeqDiff, Int.reduceEq, Int.reduceLT, Int.reduceLE, Int.reduceToNat, Int.reduceNeg, Int.reduceAdd, Int.reduceSub, Int.reduceMul, reduceIte, reduceCtorEq, Nat.reducePow, Nat.reduceDiv, Nat.reduceMod, Int.reduceBEq, q, ho, c5, c11, List.length_nil, h4, sz5, szj, szi, ht, hl9]
          exact go _ _ _ _ _ _ hne sf c0 c1 (by rw [hw]; exact .flat _ _ _ rfl (by rw [lenA]) (by rw [mapA]))
        | row xs ys m kk c1' c2' h1 h2 h3 h4' =>
          subst h3 h4'
          have hkk : kk = st.length := by rw [h2, hwl]
          have hk9 : kk + 1 ≤ 1099511627776 := by omega
          by_cases c0 : f = 0
          · have h4 : (4096 : Int) ≤ out.length := by omega
            simp only [go_sem, Nat.reduceAdd, Nat.reduceMul, Nat.reduceSub, Nat.reduceLT, Nat.reduceLeDiff, Nat.reduceEqDiff, Nat.reduceBEq, Nat.reduceBeqDiff, Int.reduceEq, Int.reduceLT, Int.reduceLE, Int.reduceToNat, Int.reduceNeg, Int.reduceAdd, Int.reduceSub, Int.reduceMul, reduceIte, reduceCtorEq, Nat.reducePow, Nat.reduceDiv, Nat.reduceMod, Int.reduceBEq, q, ho, c5, c11, h4]
            exact bad 4 (brd_lim hd hne sf (.inl c0))
          have h4 : ¬ (4096 : Int) ≤ out.length := by omega
          rw [← hkk] at sf
          by_cases c1 : (32 : Int) < ((kk : Nat) : Int)
          · simp only [go_sem, Nat.reduceAdd, Nat.reduceMul, Nat.reduceSub, Nat.reduceLT, Nat.reduceLeDiff, Nat.reduceEqDiff, Nat.reduceBEq, Nat.reduceBeqDiff, Int.reduceEq, Int.reduceLT, Int.reduceLE, Int.reduceToNat, Int.reduceNeg, Int.reduceAdd, Int.reduceSub, Int.reduceMul, reduceIte, reduceCtorEq, Nat.reducePow, Nat.reduceDiv, Nat.reduceMod, Int.reduceBEq, q, ho, c5, c11, h4, c1]
            exact bad 4 (brd_lim hd hne sf (.inr c1))
          simp only [go_sem, Nat.reduceAdd, Nat.reduceMul, Nat.reduceSub, Nat.reduceLT, Nat.reduceLeDiff, Nat.reduceEqDiff, Nat.reduceBEq, Nat.reduceBeqDiff, Int.reduceEq, Int.reduceLT, Int.reduceLE, Int.reduceToNat, Int.reduceNeg, Int.reduceAdd, Int.reduceSub, Int.reduceMul, reduceIte, reduceCtorEq, Nat.reducePow, Nat.reduceDiv, Nat.reduceMod, Int.reduceBEq, q, ho, c5, c11, h4, c1, sz5, szj, szi, ht, hl9, hk9]
          exact go _ _ _ _ _ _ hne sf c0 c1 (by rw [hw]; exact .row _ _ _ _ _ _ h1 h2 (by rw [lenA]) (by rw [mapA]))
      · rw [opens5] at ho
        cases hH with
        | nil h1 h2 =>
          have hst : st = [] := by simpa using h2
          subst h1 hst
          simp only [go_sem, Nat.reduceAdd, Nat.reduceMul, Nat.reduceSub, Nat.reduceLT, Nat.reduceLeDiff, Nat.reduceEqDiff, Nat.reduceBEq, Nat.reduceBeqDiff, Int.reduceEq, Int.reduceLT, Int.reduceLE, Int.reduceToNat, Int.reduceNeg, Int.reduceAdd, Int.reduceSub, Int.reduceMul, reduceIte, reduceCtorEq, Nat.reducePow, Nat.reduceDiv, Nat.reduceMod, Int.reduceBEq, q, ho]
          exact bad 3 (brd_form hd (fun z => by cases z.1) (stepF_bare (l := []) (k := 0) (.inl rfl)))
        | flat ys m cc h1 h2 h3 =>
          have hst : st = [] := by simpa using h1
          subst h2 h3 hst
          simp only [go_sem, Nat.reduceAdd, Nat.reduceMul, Nat.reduceSub, Nat.reduceLT, Nat.reduceLeDiff, Nat.reduceEqDiff, Nat.reduceBEq, Nat.reduceBeqDiff, Int.reduceEq, Int.reduceLT, Int.reduceLE, Int.reduceToNat, Int.reduceNeg, Int.reduceAdd, Int.reduceSub, Int.reduceMul, reduceIte, reduceCtorEq, Nat.reducePow, Nat.reduceDiv, Nat.reduceMod, Int.reduceBEq, q, ho]
          exact bad 3 (brd_form hd (fun z => by cases z.1) (stepF_bare (l := out) (k := out.length) (.inl rfl)))
        | row xs ys m kk c1' c2' h1 h2 h3 h4' =>
          subst h3 h4'
          cases st with
          | nil =>
            obtain rfl : kk = 0 := by rw [h2]; rfl
            simp only [go_sem, Nat.reduceAdd, Nat.reduceMul, Nat.reduceSub, Nat.reduceLT, Nat.reduceLeDiff, Nat.reduceEqDiff, Nat.reduceBEq, Nat.reduceBeqDiff, Int.reduceEq, Int.reduceLT, Int.reduceLE, Int.reduceToNat, Int.reduceNeg, Int.reduceAdd, Int.reduceSub, Int.reduceMul, reduceIte, reduceCtorEq, Nat.reducePow, Nat.reduceDiv, Nat.reduceMod, Int.reduceBEq, q, ho]
            exact bad 3 (brd_form hd (fun z => by cases z.1) (stepF_bare (l := out) (k := out.length) (.inl rfl)))
          | cons p st =>
            obtain ⟨kn, rfl⟩ : ∃ kn, kk = kn + 1 := ⟨st.length, by rw [h2]; simp⟩
            have hkn : kn = (st.map (oW out)).length := by simpa using h2
            have hkst : kn = st.length := by simpa using h2
            obtain ⟨g1, g2⟩ := w_top hkn h1
            have hne : ¬ ((5 : Int) = 11 ∧ p :: st = []) := fun z => by cases z.1
            have k1 : ((kn + 1 : Nat) : Int) - 1 = kn := by omega
            have k0 : ¬ ((kn + 1 : Nat) : Int) = 0 := by omega
            have kW := wrap_i64 (show -9223372036854775808 ≤ (kn : Int) by omega) (by simp at hlen; omega)
            have kL : (kn : Int) < ((kn + 1 : Nat) : Int) := by omega
            have kL2 : (kn : Int) ≤ ((kn + 1 : Nat) : Int) := by omega
            have kP : (0 : Int) ≤ kn := by omega
            by_cases h4w : oW out p = 4
            · have h44 := oW_four.1 h4w
              have sf := stepF_else (l := out) (st := st) (k := out.length) p h44
              rw [h4w] at g1
              have hw : ((p.1, ((out.length : Nat) : Int)) :: st).map (oW (out ++ [(⟨5, a, b', k, ls⟩ : TInstr)])) = 5 :: st.map (oW out) := by rw [List.map_cons, oW_else, oW_app (fun p hp => hin p (by simp [hp]))]
              have hk9 : kn + 1 ≤ 1099511627776 := by simp at hlen; omega
              rw [← hkst] at sf
              by_cases c0 : f = 0
              · have h4 : (4096 : Int) ≤ out.length := by omega
                simp only [go_sem, Nat.reduceAdd, Nat.reduceMul, Nat.reduceSub, Nat.reduceLT, Nat.reduceLeDiff, Nat.reduceEqDiff, Nat.reduceBEq, Nat.reduceBeqDiff, Int.reduceEq, Int.reduceLT, Int.reduceLE, Int.reduceToNat, Int.reduceNeg, Int.reduceAdd, Int.reduceSub, Int.reduceMul, reduceIte, reduceCtorEq, Nat.reducePow, Nat.reduceDiv, Nat.reduceMod, Int.reduceBEq, q, ho, k1, k0, kW, kL, kL2, kP, g1, Int.sub_zero, Int.toNat_zero, h4]
                exact bad 4 (brd_lim hd hne sf (.inl c0))
              have h4 : ¬ (4096 : Int) ≤ out.length := by omega
              by_cases c1 : (32 : Int) < ((kn : Nat) : Int)
              · simp only [go_sem, Nat.reduceAdd, Nat.reduceMul, Nat.reduceSub, Nat.reduceLT, Nat.reduceLeDiff, Nat.reduceEqDiff, Nat.reduceBEq, Nat.reduceBeqDiff, Int.reduceEq, Int.reduceLT, Int.reduceLE, Int.reduceToNat, Int.reduceNeg, Int.reduceAdd, Int.reduceSub, Int.reduceMul, reduceIte, reduceCtorEq, Nat.reducePow, Nat.reduceDiv, Nat.reduceMod, Int.reduceBEq, q, ho, k1, k0, kW, kL, kL2, kP, g1, Int.sub_zero, Int.toNat_zero, h4, c1]
                exact bad 4 (brd_lim hd hne sf (.inr c1))
              simp only [go_sem, Nat.reduceAdd, Nat.reduceMul, Nat.reduceSub, Nat.reduceLT, Nat.reduceLeDiff, Nat.reduceEqDiff, Nat.reduceBEq, Nat.reduceBeqDiff, Int.reduceEq, Int.reduceLT, Int.reduceLE, Int.reduceToNat, Int.reduceNeg, Int.reduceAdd, Int.reduceSub, Int.reduceMul, reduceIte, reduceCtorEq, Nat.reducePow, Nat.reduceDiv, Nat.reduceMod, Int.reduceBEq, q, ho, k1, k0, kW, kL, kL2, kP, g1, Int.sub_zero, Int.toNat_zero, h4, c1, sz5, szj, szi, ht, hl9, hk9]
              exact go _ _ _ _ _ _ hne sf c0 c1 (by rw [hw]; exact .row _ _ _ _ _ _ (w_push hkn g2) (by rw [hkn]; rfl) (by rw [lenA]) (by rw [mapA]))
            · have h44 : ¬ (p.2 = -1 ∧ ifAt out p.1 = true) := fun z => h4w (oW_four.2 z)
              generalize oW out p = w at *
              simp only [go_sem, Nat.reduceAdd, Nat.reduceMul, Nat.reduceSub, Nat.reduceLT, Nat.reduceLeDiff, Nat.reduceEqDiff, Nat.reduceBEq, Nat.reduceBeqDiff, Int.reduceEq, Int.reduceLT, Int.reduceLE, Int.reduceToNat, Int.reduceNeg, Int.reduceAdd, Int.reduceSub, Int.reduceMul, reduceIte, reduceCtorEq, Nat.reducePow, Nat.reduceDiv, Nat.reduceMod, Int.reduceBEq, q, ho, k1, k0, kW, kL, kL2, kP, g1, h4w, Int.sub_zero, Int.toNat_zero]
              exact bad 3 (brd_form hd hne (stepF_twice (l := out) (st := st) (k := out.length) p h44))
      · rw [opens11] at ho
        cases hH with
        | nil h1 h2 =>
          have hst : st = [] := by simpa using h2
          subst h1 hst
          have e : brd b (f + 1) x [] [] = .ok ([], x + c) := brd_end hd rfl
          simp only [go_sem, Nat.reduceAdd, Nat.reduceMul, Nat.reduceSub, Nat.reduceLT, Nat.reduceLeDiff, Nat.reduceEqDiff, Nat.reduceBEq, Nat.reduceBeqDiff, Int.reduceEq, Int.reduceLT, Int.reduceLE, Int.reduceToNat, Int.reduceNeg, Int.reduceAdd, Int.reduceSub, Int.reduceMul, reduceIte, reduceCtorEq, Nat.reducePow, Nat.reduceDiv, Nat.reduceMod, Int.reduceBEq, q, ho]
          exact ⟨.ret, _, rfl, by rw [e]; exact .nil _⟩
        | flat ys m cc h1 h2 h3 =>
          have hst : st = [] := by simpa using h1
          subst h2 h3 hst
          have e : brd b (f + 1) x out [] = .ok (out, x + c) := brd_end hd rfl
          simp only [go_sem, Nat.reduceAdd, Nat.reduceMul, Nat.reduceSub, Nat.reduceLT, Nat.reduceLeDiff, Nat.reduceEqDiff, Nat.reduceBEq, Nat.reduceBeqDiff, Int.reduceEq, Int.reduceLT, Int.reduceLE, Int.reduceToNat, Int.reduceNeg, Int.reduceAdd, Int.reduceSub, Int.reduceMul, reduceIte, reduceCtorEq, Nat.reducePow, Nat.reduceDiv, Nat.reduceMod, Int.reduceBEq, q, ho]
          exact ⟨.ret, _, rfl, by rw [e]; exact .row _ _ _⟩
        | row xs ys m kk c1' c2' h1 h2 h3 h4' =>
          subst h3 h4'
          cases st with
          | nil =>
            obtain rfl : kk = 0 := by rw [h2]; rfl
            have e : brd b (f + 1) x out [] = .ok (out, x + c) := brd_end hd rfl
            simp only [go_sem, Nat.reduceAdd, Nat.reduceMul, Nat.reduceSub, Nat.reduceLT, Nat.reduceLeDiff, Nat.reduceEqDiff, Nat.reduceBEq, Nat.reduceBeqDiff, Int.reduceEq, Int.reduceLT, Int.reduceLE, Int.reduceToNat, Int.reduceNeg, Int.reduceAdd, Int.reduceSub, Int.reduceMul, reduceIte, reduceCtorEq, Nat.reducePow, Nat.reduceDiv, Nat.reduceMod, Int.reduceBEq, q, ho]
            exact ⟨.ret, _, rfl, by rw [e]; exact .row _ _ _⟩
          | cons p st =>
            obtain ⟨kn, rfl⟩ : ∃ kn, kk = kn + 1 := ⟨st.length, by rw [h2]; simp⟩
            have hkn : kn = (st.map (oW out)).length := by simpa using h2
            have hkst : kn = st.length := by simpa using h2
            obtain ⟨g1, g2⟩ := w_top hkn h1
            have hne : ¬ ((11 : Int) = 11 ∧ p :: st = []) := fun z => by cases z.2
            have k1 : ((kn + 1 : Nat) : Int) - 1 = kn := by omega
            have k0 : ¬ ((kn + 1 : Nat) : Int) = 0 := by omega
            have kW := wrap_i64 (show -9223372036854775808 ≤ (kn : Int) by omega) (by simp at hlen; omega)
            have kL : (kn : Int) < ((kn + 1 : Nat) : Int) := by omega
            have kL2 : (kn : Int) ≤ ((kn + 1 : Nat) : Int) := by omega
            have kP : (0 : Int) ≤ kn := by omega
            have sf : stepF out (p :: st) out.length 11 = some (st, ((st.length : Nat) : Int), p) := stepF_pop p
            have hw := oW_app (i := (⟨11, a, b', k, ls⟩ : TInstr)) (st := st) (fun p hp => hin p (by simp [hp]))
            have hk9 : kn + 1 ≤ 1099511627776 := by simp at hlen; omega
            rw [← hkst] at sf
            by_cases c0 : f = 0
            · have h4 : (4096 : Int) ≤ out.length := by omega
              simp only [go_sem, Nat.reduceAdd, Nat.reduceMul, Nat.reduceSub, Nat.reduceLT, Nat.reduceLeDiff, Nat.reduceEqDiff, Nat.reduceBEq, Nat.reduceBeqDiff, Int.reduceEq, Int.reduceLT, Int.reduceLE, Int.reduceToNat, Int.reduceNeg, Int.reduceAdd, Int.reduceSub, Int.reduceMul, reduceIte, reduceCtorEq, Nat.reducePow, Nat.reduceDiv, Nat.reduceMod, Int.reduceBEq, q, ho, k1, k0, kW, kL, kL2, kP, g1, Int.sub_zero, Int.toNat_zero, h4]
              exact bad 4 (brd_lim hd hne sf (.inl c0))
            have h4 : ¬ (4096 : Int) ≤ out.length := by omega
            by_cases c1 : (32 : Int) < ((kn : Nat) : Int)
            · simp only [go_sem, Nat.reduceAdd, Nat.reduceMul, Nat.reduceSub, Nat.reduceLT, Nat.reduceLeDiff, Nat.reduceEqDiff, Nat.reduceBEq, Nat.reduceBeqDiff, Int.reduceEq, Int.reduceLT, Int.reduceLE, Int.reduceToNat, Int.reduceNeg, Int.reduceAdd, Int.reduceSub, Int.reduceMul, reduceIte, reduceCtorEq, Nat.reducePow, Nat.reduceDiv, Nat.reduceMod, Int.reduceBEq, q, ho, k1, k0, kW, kL, kL2, kP, g1, Int.sub_zero, Int.toNat_zero, h4, c1]
              exact bad 4 (brd_lim hd hne sf (.inr c1))
            simp only [go_sem, Nat.reduceAdd, Nat.reduceMul, Nat.reduceSub, Nat.reduceLT, Nat.reduceLeDiff, Nat.reduceEqDiff, Nat.reduceBEq, Nat.reduceBeqDiff, Int.reduceEq, Int.reduceLT, Int.reduceLE, Int.reduceToNat, Int.reduceNeg, Int.reduceAdd, Int.reduceSub, Int.reduceMul, reduceIte, reduceCtorEq, Nat.reducePow, Nat.reduceDiv, Nat.reduceMod, Int.reduceBEq, q, ho, k1, k0, kW, kL, kL2, kP, g1, Int.sub_zero, Int.toNat_zero, h4, c1, sz5, szj, szi, ht, hl9, hk9]
            exact go _ _ _ _ _ _ hne sf c0 c1 (by rw [hw]; exact .row _ _ _ _ _ _ g2 hkn (by rw [lenA]) (by rw [mapA]))
  generalize brd b 4097 x [] [] = R at *
  cases hJ with
  | err e => simp only [go_sem, Nat.reduceAdd, Nat.reduceMul, Nat.reduceSub, Nat.reduceLT, Nat.reduceLeDiff, Nat.reduceEqDiff, Nat.reduceBEq, Nat.reduceBeqDiff, Int.reduceEq, Int.reduceLT, Int.reduceLE, Int.reduceToNat, Int.reduceNeg, Int.reduceAdd, Int.reduceSub, Int.reduceMul, reduceIte, reduceCtorEq, Nat.reducePow, Nat.reduceDiv, Nat.reduceMod, Int.reduceBEq, brdR]
  | nil x => simp only [go_sem, Nat.reduceAdd, Nat.reduceMul, Nat.reduceSub, Nat.reduceLT, Nat.reduceLeDiff, Nat.reduceEqDiff, Nat.reduceBEq, Nat.reduceBeqDiff, Int.reduceEq, Int.reduceLT, Int.reduceLE, Int.reduceToNat, Int.reduceNeg, Int.reduceAdd, Int.reduceSub, Int.reduceMul, reduceIte, reduceCtorEq, Nat.reducePow, Nat.reduceDiv, Nat.reduceMod, Int.reduceBEq, brdR, List.map_nil, List.length_nil]
  | row l x c => simp only [go_sem, Nat.reduceAdd, Nat.reduceMul, Nat.reduceSub, Nat.reduceLT, Nat.reduceLeDiff, Nat.reduceEqDiff, Nat.reduceBEq, Nat.reduceBeqDiff, Int.reduceEq, Int.reduceLT, Int.reduceLE, Int.reduceToNat, Int.reduceNeg, Int.reduceAdd, Int.reduceSub, Int.reduceMul, reduceIte, reduceCtorEq, Nat.reducePow, Nat.reduceDiv, Nat.reduceMod, Int.reduceBEq, brdR]
end Go.Proofs.YtklnkkejkeelaaaDoor.E
