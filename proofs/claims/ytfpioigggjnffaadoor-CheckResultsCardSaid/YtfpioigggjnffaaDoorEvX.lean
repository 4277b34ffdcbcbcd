/- EvX, EvC, C1, Q1, Q2, C2, C3. -/
import Derived.Test.YtfpioigggjnffaaDoorETi
set_option linter.unnecessarySimpa false
set_option linter.unusedSimpArgs false
set_option linter.unusedVariables false
/- The functions that are told by hand: printed by mkX.py, a tool of this work. -/
set_option autoImplicit false
set_option maxRecDepth 100000
set_option maxHeartbeats 4000000
set_option linter.unusedSimpArgs false
set_option linter.unusedVariables false
namespace Go.Proofs.YtfpioigggjnffaaDoor.E
open Go.Ev
theorem clone_is31 (fu : Nat) : IsClone (G0 fu) 31 Tryd.f31 1 := by
  refine ⟨by rw [G0P]; exact Tryd.func31, by decide, ?_⟩
  refine ⟨_, _, _, 1, 4, _, _, _, _, _, 5, ⟨[(2, .nilsl), (0, .d (.list []))], []⟩, ⟨[(3, .d (.list [])), (2, .nilsl), (0, .d (.list []))], []⟩, ⟨[(4, .d (.bool true)), (3, .d (.list [])), (2, .nilsl), (0, .d (.list []))], []⟩,
    ⟨[(7, .row 384 1 0 0), (6, .d (.list [])), (5, .row 384 0 0 0), (4, .d (.bool false)), (3, .d (.list [])), (2, .row 384 1 0 0), (0, .d (.list []))], [(384, .row 1 [] 1 false true)]⟩, ⟨[], [], 0⟩, _, rfl, by unfold Tryd.f31; rfl, ?_, ?_, ?_, rfl, rfl, by decide, rfl, ?_, ?_, ?_, ?_, ?_, ?_⟩
  case refine_3 => intro d h; cases h; decide
  all_goals simp only [go_sem, Nat.reduceAdd, Nat.reduceMul, Nat.reduceSub, Nat.reduceLT, Nat.reduceLeDiff, Nat.reduceEqDiff, Nat.reduceBEq, Nat.reduceBeqDiff, Int.reduceEq, Int.reduceLT, Int.reduceLE, Int.reduceToNat, Int.reduceNeg, Int.reduceAdd, Int.reduceSub, Int.reduceMul, reduceIte, reduceCtorEq, Nat.reducePow, Nat.reduceDiv, Nat.reduceMod, Int.reduceBEq, step, Tryd.f31]
theorem clone_is32 (fu : Nat) : IsClone (G0 fu) 32 Tryd.f32 4 := by
  refine ⟨by rw [G0P]; exact Tryd.func32, by decide, ?_⟩
  refine ⟨_, _, _, 1, 4, _, _, _, _, _, 50, ⟨[(2, .nilsl), (0, .d (.list []))], []⟩, ⟨[(3, .d (.list [])), (2, .nilsl), (0, .d (.list []))], []⟩, ⟨[(4, .d (.bool true)), (3, .d (.list [])), (2, .nilsl), (0, .d (.list []))], []⟩,
    ⟨[(7, .row 384 1 0 0), (6, .d (.list [])), (5, .row 384 0 0 0), (4, .d (.bool false)), (3, .d (.list [])), (2, .row 384 1 0 0), (0, .d (.list []))], [(384, .row 4 [] 1 false true)]⟩, ⟨[], [], 0⟩, _, rfl, by unfold Tryd.f32; rfl, ?_, ?_, ?_, rfl, rfl, by decide, rfl, ?_, ?_, ?_, ?_, ?_, ?_⟩
  case refine_3 => intro d h; cases h; decide
  all_goals simp only [go_sem, Nat.reduceAdd, Nat.reduceMul, Nat.reduceSub, Nat.reduceLT, Nat.reduceLeDiff, Nat.reduceEqDiff, Nat.reduceBEq, Nat.reduceBeqDiff, Int.reduceEq, Int.reduceLT, Int.reduceLE, Int.reduceToNat, Int.reduceNeg, Int.reduceAdd, Int.reduceSub, Int.reduceMul, reduceIte, reduceCtorEq, Nat.reducePow, Nat.reduceDiv, Nat.reduceMod, Int.reduceBEq, step, Tryd.f32]
theorem range_is36 (fn : Func) (h : Tryd.prog.funcs[36]? = some fn) : rgFn fn = true := by
  rw [Tryd.func36] at h
  cases h
  kernel_rfl
theorem Ghext (hm : Tryd.prog.follows .mixedOrders = true) (hok : ∀ (f : FuncId) fn, Tryd.prog.funcs[f]? = some fn → okFn fn = true) (fu : Nat) (f : FuncId) (x : List V → List Go.Ev.Obj → Option Res) (h : (G fu).ext f = some x) : FnOk Tryd.prog globs f x := by
  rw [Gext] at h
  by_cases e31 : f = 31
  · subst e31
    rw [exts_31] at h
    obtain rfl := Option.some.inj h
    exact clone_ok (g := G0 fu) hm (clone_is31 fu)
  by_cases e32 : f = 32
  · subst e32
    rw [exts_32] at h
    obtain rfl := Option.some.inj h
    exact clone_ok (g := G0 fu) hm (clone_is32 fu)
  by_cases e36 : f = 36
  · subst e36
    rw [exts_36] at h
    obtain rfl := Option.some.inj h
    exact range_ok (g := G0 fu) (evF_ok (g := G0 fu) hm hok (fun f x h => by cases h) 4) back1_ok range_is36
  rw [exts_no fu (by simp [isExt, e31, e32, e36])] at h
  cases h
end Go.Proofs.YtfpioigggjnffaaDoor.E

/- bytes.Clone: the one function that asks a slice whether it is nil. -/
set_option autoImplicit false
set_option maxRecDepth 100000
set_option maxHeartbeats 4000000
set_option linter.unusedSimpArgs false
set_option linter.unusedVariables false
namespace Go.Proofs.YtfpioigggjnffaaDoor.E
open Go.Ev
abbrev byt (l : List Int) : List D := l.map (D.int .u8)
theorem byt_len (l : List Int) : (byt l).length = l.length := List.length_map ..
theorem byt_sized (l : List Int) : sizedAll 1 (byt l) = true := sizedAll_map (fun x => ⟨_, rfl⟩) l
theorem clone_ev (fu n : Nat) (l : List Int) (h : l.length ≤ 1099511627776) : evF (G fu) (n+1) 31 [.d (.list (byt l))] [] = some (.row 0 0 0 l.length, [.row 1 (byt l) 0 false false]) := by
  rw [evF.eq_2, evX.eq_def, Gext, exts_31]
  cases l with
  | nil => rfl
  | cons x l =>
    have hs := byt_sized (x :: l)
    have hl := byt_len (x :: l)
    simp only [byt, List.map_cons] at hs hl ⊢
    simp only [cloneX, G0P, Tryd.func31]
    simp only [Tryd.f31, evB]
    have h' : l.length ≤ 1099511627775 := by simp at h; omega
    simp only [go_sem, Nat.reduceAdd, Nat.reduceMul, Nat.reduceSub, Nat.reduceLT, Nat.reduceLeDiff, Nat.reduceEqDiff, Nat.reduceBEq, Nat.reduceBeqDiff, Int.reduceEq, Int.reduceLT, Int.reduceLE, Int.reduceToNat, Int.reduceNeg, Int.reduceAdd, Int.reduceSub, Int.reduceMul, reduceIte, reduceCtorEq, Nat.reducePow, Nat.reduceDiv, Nat.reduceMod, Int.reduceBEq, hs, hl, h, h']
end Go.Proofs.YtfpioigggjnffaaDoor.E

/- Chapter 10, plain: stacks of types, and what an instruction makes of them. No program in sight. -/
set_option autoImplicit false
namespace Go.Proofs.YtfpioigggjnffaaDoor.E
open Go.Ev

structure Ctl where
  op : Int
  fin : List Int
  ht : Int
  dead : Bool
  deriving DecidableEq
structure Stk where
  vals : List Int
  ctrls : List Ctl
  deriving DecidableEq
structure TEnv where
  types : List (List Int × List Int)
  funcs : List Int
  tables : Int
  mems : Int
  globals : List (Int × Bool)
  locs : List Int
  results : List Int

def valB (c : Int) : Bool := c == 126 || c == 127
def typesB (l : List Int) : Bool := l.all fun c => c == 0 || valB c
def finB : List Int → Bool
  | [] => true
  | [c] => valB c
  | _ => false
/-- the heights never fall -/
def risesB : Int → List Ctl → Option Int
  | h, [] => some h
  | h, c :: l => if finB c.fin && decide (h ≤ c.ht) then risesB c.ht l else none
def saneS (s : Stk) : Bool := match risesB 0 s.ctrls with
  | some h => decide (h ≤ s.vals.length) && typesB s.vals
  | none => false

def pushS (s : Stk) (l : List Int) : Except Int Stk := if !saneS s || !typesB l then .error 1 else .ok ⟨s.vals ++ l, s.ctrls⟩
/-- the last type, above a height -/
def popV (h : Int) (dead : Bool) (v : List Int) : Except Int (Int × List Int) :=
  if h < v.length then .ok (v.getLastD 0, v.dropLast) else if dead then .ok (0, v) else .error 5
/-- types, the last one first: the list stands turned round -/
def wantV (h : Int) (dead : Bool) : List Int → List Int → Except Int (List Int)
  | [], v => .ok v
  | t :: l, v => match popV h dead v with
    | .error e => .error e
    | .ok (c, v') => if c ≠ 0 ∧ t ≠ 0 ∧ c ≠ t then .error 5 else wantV h dead l v'
def topC (s : Stk) : Except Int Ctl := if !saneS s then .error 1 else match s.ctrls.getLast? with
  | none => .error 5
  | some c => .ok c
def popS (s : Stk) : Except Int (Int × Stk) := match topC s with
  | .error e => .error e
  | .ok c => match popV c.ht c.dead s.vals with
    | .error e => .error e
    | .ok (t, v) => .ok (t, ⟨v, s.ctrls⟩)
def wantS (s : Stk) (l : List Int) : Except Int Stk :=
  if saneS s && l.isEmpty then .ok s else match topC s with
  | .error e => .error e
  | .ok c => match wantV c.ht c.dead l.reverse s.vals with
    | .error e => .error e
    | .ok v => .ok ⟨v, s.ctrls⟩
def openS (s : Stk) (op : Int) (l : List Int) : Except Int Stk := if !saneS s || !finB l then .error 1 else .ok ⟨s.vals, s.ctrls ++ [⟨op, l, s.vals.length, false⟩]⟩
def closeS (s : Stk) : Except Int (Ctl × Stk) := match topC s with
  | .error e => .error e
  | .ok c => match wantV c.ht c.dead c.fin.reverse s.vals with
    | .error e => .error e
    | .ok v => if (v.length : Int) ≠ c.ht then .error 5 else .ok (c, ⟨v, s.ctrls.dropLast⟩)
def killS (s : Stk) : Except Int Stk := match topC s with
  | .error e => .error e
  | .ok c => .ok ⟨s.vals.take c.ht.toNat, s.ctrls.dropLast ++ [{ c with dead := true }]⟩
def labelS (s : Stk) (n : Int) : Except Int (List Int) := if !saneS s then .error 1 else
  if n < 0 ∨ (s.ctrls.length : Int) ≤ n then .error 6 else match s.ctrls[s.ctrls.length - 1 - n.toNat]? with
  | none => .error 6
  | some c => .ok (if c.op = 3 then [] else c.fin)

/-- A stack, and the first error: what both checkers keep. -/
structure WkS where
  s : Stk
  e : Int
def WkS.put (w : WkS) (r : Except Int Stk) : WkS := if w.e ≠ 0 then w else match r with
  | .ok s => ⟨s, 0⟩
  | .error e => ⟨w.s, e⟩
def WkS.must (w : WkS) (ok : Bool) (e : Int) : WkS := if !ok && w.e == 0 then ⟨w.s, e⟩ else w
def WkS.want (w : WkS) (l : List Int) : WkS := w.put (wantS w.s l)
def WkS.push (w : WkS) (l : List Int) : WkS := w.put (pushS w.s l)
def WkS.kill (w : WkS) : WkS := w.put (killS w.s)
def WkS.opens (w : WkS) (op : Int) (l : List Int) : WkS := w.put (openS w.s op l)
def WkS.pop (w : WkS) : Int × WkS := match popS w.s with
  | .ok (t, s) => (t, w.put (.ok s))
  | .error e => (0, w.put (.error e))
def WkS.label (w : WkS) (n : Int) : List Int × WkS := match labelS w.s n with
  | .ok l => (l, w)
  | .error e => ([], w.must false e)
def WkS.closed (w : WkS) : Ctl × WkS := match closeS w.s with
  | .ok (c, s) => (c, w.put (.ok s))
  | .error e => (⟨0, [], 0, false⟩, w.put (.error e))
def leftOf (i : TInstr) : List Int := if i.a = 0 then [] else [i.a % 256]
def topIf (s : Stk) : Bool := match s.ctrls.getLast? with
  | some c => c.op == 4
  | none => false
def nestedS (w : WkS) (i : TInstr) : WkS :=
  if i.op = 4 then (w.want [127]).opens 4 (leftOf i)
  else if i.op = 5 then let r := (w.must (topIf w.s) 5).closed; r.2.opens 5 r.1.fin
  else if i.op = 11 then let r := (w.must (decide (1 < w.s.ctrls.length)) 5).closed; (r.2.must (r.1.op != 4 || r.1.fin.isEmpty) 5).push r.1.fin
  else w.opens i.op (leftOf i)
def labelsS (w : WkS) (t : List Int) : List Int → WkS
  | [] => w
  | n :: l => labelsS ((w.label n).2.must ((w.label n).1 == t) 5) t l
def branchS (env : TEnv) (w : WkS) (i : TInstr) : WkS :=
  if i.op = 15 then (w.want env.results).kill
  else
    let t := (w.label i.a).1
    let w := labelsS (w.label i.a).2 t i.labels
    let w := if i.op = 12 then w else w.want [127]
    let w := w.want t
    if i.op = 13 then w.push t else w.kill
def typeS (env : TEnv) (f : Int) : Option (List Int × List Int) :=
  if f < 0 then none else match env.funcs[f.toNat]? with
  | none => none
  | some t => if t < 0 then none else env.types[t.toNat]?
def callS (env : TEnv) (w : WkS) (i : TInstr) : WkS :=
  let t := if i.op = 17 then (if 0 < env.tables then env.types[i.a.toNat]? else none) else typeS env i.a
  let w := w.must t.isSome 6
  let w := if i.op = 17 then w.want [127] else w
  (w.want (t.getD ([], [])).1).push (t.getD ([], [])).2
def chosenS (w : WkS) (i : TInstr) : WkS :=
  if i.op = 26 then w.pop.2
  else
    let w := w.want [127]
    let a := w.pop
    let b := a.2.pop
    let w := b.2.must (a.1 == 0 || b.1 == 0 || a.1 == b.1) 5
    w.push [if a.1 = 0 then b.1 else a.1]
def variableS (env : TEnv) (w : WkS) (i : TInstr) : WkS :=
  let r : Int × WkS := if i.op ≤ 34 then
      match env.locs[i.a.toNat]? with
      | some t => (t, w)
      | none => (0, w.must false 6)
    else
      match env.globals[i.a.toNat]? with
      | some g => (g.1, w.must (i.op == 35 || g.2) 5)
      | none => (0, w.must false 6)
  let w := if i.op ≠ 32 ∧ i.op ≠ 35 then r.2.want [r.1] else r.2
  if i.op = 32 ∨ i.op = 34 ∨ i.op = 35 then w.push [r.1] else w
/-- acc: a load's or store's type, its bytes, is it a store; shape: an operator's -/
def memoryS (acc : Int → Int × Int × Bool) (env : TEnv) (w : WkS) (i : TInstr) : WkS :=
  let w := w.must (decide (0 < env.mems)) 6
  let r := acc i.op
  if i.op = 63 then w.push [127]
  else if i.op = 64 then (w.want [127]).push [127]
  else
    let w := w.must (decide (i.a ≤ 3) && decide ((2 : Int) ^ i.a.toNat ≤ r.2.1)) 5
    if r.2.2 then w.want [127, r.1] else (w.want [127]).push [r.1]
def goS (acc : Int → Int × Int × Bool) (shape : Int → Option (List Int × Int)) (env : TEnv) (s : Stk) (i : TInstr) : WkS :=
  let w : WkS := ⟨s, 0⟩
  if i.op = 0 then w.kill
  else if i.op = 1 then w
  else if i.op ≤ 5 ∨ i.op = 11 then nestedS w i
  else if i.op ≤ 15 then branchS env w i
  else if i.op ≤ 17 then callS env w i
  else if i.op ≤ 27 then chosenS w i
  else if i.op ≤ 36 then variableS env w i
  else if i.op ≤ 64 then memoryS acc env w i
  else if i.op = 65 then w.push [127]
  else if i.op = 66 then w.push [126]
  else match shape i.op with
    | some (p, r) => (w.want p).push [r]
    | none => w
/-- An instruction that may be, at a stack that may be. -/
def stepS (sane : TInstr → Bool) (acc : Int → Int × Int × Bool) (shape : Int → Option (List Int × Int)) (env : TEnv) (s : Stk) (i : TInstr) : Except Int Stk :=
  if !saneS s || !sane i then .error 1 else
  let w := goS acc shape env s i
  if w.e ≠ 0 then .error w.e else .ok w.s
def pathS (sane : TInstr → Bool) (acc : Int → Int × Int × Bool) (shape : Int → Option (List Int × Int)) (env : TEnv) : Stk → List TInstr → Except Int (List Stk)
  | s, [] => .ok [s]
  | s, i :: l => match stepS sane acc shape env s i with
    | .error e => .error e
    | .ok s' => match pathS sane acc shape env s' l with
      | .error e => .error e
      | .ok p => .ok (s :: p)

/-! What stays. -/
theorem typesB_append (a b : List Int) : typesB (a ++ b) = (typesB a && typesB b) := by simp [typesB, List.all_append]
theorem typesB_dropLast {a : List Int} (h : typesB a = true) : typesB a.dropLast = true := by
  simp only [typesB, List.all_eq_true] at h ⊢
  exact fun x hx => h x ((List.dropLast_prefix a).subset hx)
theorem typesB_take {a : List Int} (n : Nat) (h : typesB a = true) : typesB (a.take n) = true := by
  simp only [typesB, List.all_eq_true] at h ⊢
  exact fun x hx => h x ((List.take_prefix n a).subset hx)
theorem risesB_append (h : Int) (a b : List Ctl) : risesB h (a ++ b) = match risesB h a with
    | some k => risesB k b
    | none => none := by
  induction a generalizing h with
  | nil => rfl
  | cons c a ih =>
    simp only [List.cons_append, risesB]
    by_cases hc : (finB c.fin && decide (h ≤ c.ht)) = true
    · rw [if_pos hc, if_pos hc, ih]
    · rw [if_neg hc, if_neg hc]
theorem popV_len {h : Int} {d : Bool} {v v' : List Int} {c : Int} (e : popV h d v = .ok (c, v')) (hv : h ≤ v.length) (ht : typesB v = true) : h ≤ v'.length ∧ typesB v' = true ∧ v' <+: v := by
  unfold popV at e
  split at e
  · rename_i hlt
    cases e
    refine ⟨?_, typesB_dropLast ht, List.dropLast_prefix v⟩
    rw [List.length_dropLast]; omega
  · split at e
    · cases e; exact ⟨hv, ht, List.prefix_refl _⟩
    · cases e
theorem wantV_len {h : Int} {d : Bool} {l v v' : List Int} (e : wantV h d l v = .ok v') (hv : h ≤ v.length) (ht : typesB v = true) : h ≤ v'.length ∧ typesB v' = true ∧ v' <+: v := by
  induction l generalizing v with
  | nil => cases e; exact ⟨hv, ht, List.prefix_refl _⟩
  | cons t l ih =>
    simp only [wantV] at e
    cases hp : popV h d v with
    | error x => rw [hp] at e; cases e
    | ok r =>
      obtain ⟨c, w⟩ := r
      rw [hp] at e
      simp only at e
      split at e
      · cases e
      · obtain ⟨a1, a2, a3⟩ := popV_len hp hv ht
        obtain ⟨b1, b2, b3⟩ := ih e a1 a2
        exact ⟨b1, b2, b3.trans a3⟩
end Go.Proofs.YtfpioigggjnffaaDoor.E

/- The reading of stack.val, left, types, Sane. -/
set_option autoImplicit false
set_option maxRecDepth 100000
set_option maxHeartbeats 4000000
set_option linter.unusedSimpArgs false
set_option linter.unusedVariables false
set_option pp.maxSteps 20000
namespace Go.Proofs.YtfpioigggjnffaaDoor.E
open Go.Ev
def Ctl.dd (c : Ctl) : D := .agg [.int .i64 c.op, .list (byt c.fin), .int .i64 c.ht, .bool c.dead]
abbrev ctlds (l : List Ctl) : List D := l.map Ctl.dd
def Stk.dd (s : Stk) : D := .agg [.list (byt s.vals), .list (ctlds s.ctrls)]
theorem ctlds_len (l : List Ctl) : (ctlds l).length = l.length := List.length_map ..
theorem valS_ev (fu n : Nat) (c : Int) : evF (G fu) (n+1) 37 [.d (.int .u8 c)] [] = some (.d (.bool (valB c)), []) := by
  rw [evF.eq_2, evX.eq_def, Gext, exts_no _ (f := 37) (by decide), GP, Tryd.func37]; simp only [Tryd.f37, evB]
  unfold valB
  by_cases h1 : c = 127
  · subst h1; simp only [go_sem, Nat.reduceAdd, Nat.reduceMul, Nat.reduceSub, Nat.reduceLT, Nat.reduceLeDiff, Nat.reduceEqDiff, Nat.reduceBEq, Nat.reduceBeqDiff, Int.reduceEq, Int.reduceLT, Int.reduceLE, Int.reduceToNat, Int.reduceNeg, Int.reduceAdd, Int.reduceSub, Int.reduceMul, reduceIte, reduceCtorEq, Nat.reducePow, Nat.reduceDiv, Nat.reduceMod, Int.reduceBEq]
  · by_cases h2 : c = 126
    · subst h2; simp only [go_sem, Nat.reduceAdd, Nat.reduceMul, Nat.reduceSub, Nat.reduceLT, Nat.reduceLeDiff, Nat.reduceEqDiff, Nat.reduceBEq, Nat.reduceBeqDiff, Int.reduceEq, Int.reduceLT, Int.reduceLE, Int.reduceToNat, Int.reduceNeg, Int.reduceAdd, Int.reduceSub, Int.reduceMul, reduceIte, reduceCtorEq, Nat.reducePow, Nat.reduceDiv, Nat.reduceMod, Int.reduceBEq]
    · have e1 : (c == 126) = false := by simpa using h2
      have e2 : (c == 127) = false := by simpa using h1
      simp only [go_sem, Nat.reduceAdd, Nat.reduceMul, Nat.reduceSub, Nat.reduceLT, Nat.reduceLeDiff, Nat.reduceEqDiff, Nat.reduceBEq, Nat.reduceBeqDiff, Int.reduceEq, Int.reduceLT, Int.reduceLE, Int.reduceToNat, Int.reduceNeg, Int.reduceAdd, Int.reduceSub, Int.reduceMul, reduceIte, reduceCtorEq, Nat.reducePow, Nat.reduceDiv, Nat.reduceMod, Int.reduceBEq, h1, h2, e1, e2]
theorem leftS_ev (fu n : Nat) (l : List Int) : evF (G fu) (n+2) 22 [.d (.list (byt l))] [] = some (.d (.bool (finB l)), []) := by
  rw [evF.eq_2, evX.eq_def, Gext, exts_no _ (f := 22) (by decide), GP, Tryd.func22]; simp only [Tryd.f22, evB]
  match l with
  | [] => simp only [go_sem, Nat.reduceAdd, Nat.reduceMul, Nat.reduceSub, Nat.reduceLT, Nat.reduceLeDiff, Nat.reduceEqDiff, Nat.reduceBEq, Nat.reduceBeqDiff, Int.reduceEq, Int.reduceLT, Int.reduceLE, Int.reduceToNat, Int.reduceNeg, Int.reduceAdd, Int.reduceSub, Int.reduceMul, reduceIte, reduceCtorEq, Nat.reducePow, Nat.reduceDiv, Nat.reduceMod, Int.reduceBEq, List.map_nil]; rfl
  | [c] =>
    have hc := valS_ev fu n c
    simp only [go_sem, Nat.reduceAdd, Nat.reduceMul, Nat.reduceSub, Nat.reduceLT, Nat.reduceLeDiff, Nat.reduceEqDiff, Nat.reduceBEq, Nat.reduceBeqDiff, Int.reduceEq, Int.reduceLT, Int.reduceLE, Int.reduceToNat, Int.reduceNeg, Int.reduceAdd, Int.reduceSub, Int.reduceMul, reduceIte, reduceCtorEq, Nat.reducePow, Nat.reduceDiv, Nat.reduceMod, Int.reduceBEq, List.map_cons, List.map_nil, idx, hc]; rfl
  | a :: b :: l =>
    have h0 : ¬ (((List.map (D.int .u8) l).length + 1 + 1 : Nat) : Int) = 0 := by omega
    have h1 : ¬ (((List.map (D.int .u8) l).length + 1 + 1 : Nat) : Int) = 1 := by omega
    simp only [go_sem, Nat.reduceAdd, Nat.reduceMul, Nat.reduceSub, Nat.reduceLT, Nat.reduceLeDiff, Nat.reduceEqDiff, Nat.reduceBEq, Nat.reduceBeqDiff, Int.reduceEq, Int.reduceLT, Int.reduceLE, Int.reduceToNat, Int.reduceNeg, Int.reduceAdd, Int.reduceSub, Int.reduceMul, reduceIte, reduceCtorEq, Nat.reducePow, Nat.reduceDiv, Nat.reduceMod, Int.reduceBEq, List.map_cons, h0, h1]; rfl
theorem types1S_ev (fu n : Nat) (c : Int) : evF (G fu) (n+2) 39 [.d (.int .u8 c)] [] = some (.d (.bool (!(c == 0 || valB c))), []) := by
  have hv := valS_ev fu n c
  rw [evF.eq_2, evX.eq_def, Gext, exts_no _ (f := 39) (by decide), GP, Tryd.func39]; simp only [Tryd.f39, evB]
  by_cases h : c = 0
  · subst h; simp only [go_sem, Nat.reduceAdd, Nat.reduceMul, Nat.reduceSub, Nat.reduceLT, Nat.reduceLeDiff, Nat.reduceEqDiff, Nat.reduceBEq, Nat.reduceBeqDiff, Int.reduceEq, Int.reduceLT, Int.reduceLE, Int.reduceToNat, Int.reduceNeg, Int.reduceAdd, Int.reduceSub, Int.reduceMul, reduceIte, reduceCtorEq, Nat.reducePow, Nat.reduceDiv, Nat.reduceMod, Int.reduceBEq]
  · have e1 : (c == 0) = false := by simpa using h
    simp only [go_sem, Nat.reduceAdd, Nat.reduceMul, Nat.reduceSub, Nat.reduceLT, Nat.reduceLeDiff, Nat.reduceEqDiff, Nat.reduceBEq, Nat.reduceBeqDiff, Int.reduceEq, Int.reduceLT, Int.reduceLE, Int.reduceToNat, Int.reduceNeg, Int.reduceAdd, Int.reduceSub, Int.reduceMul, reduceIte, reduceCtorEq, Nat.reducePow, Nat.reduceDiv, Nat.reduceMod, Int.reduceBEq, h, hv, e1]
def findT (p : Int → Bool) (l : List Int) : Int := match first (fun i => p (l.getD i 0)) 0 l.length with
  | some i => (i : Int)
  | none => -1
theorem findT_iff (p : Int → Bool) (l : List Int) : (0 ≤ findT p l) ↔ l.any p = true := by
  unfold findT
  have := first_list (p := p) (d := 0) l
  cases hf : first (fun i => p (l.getD i 0)) 0 l.length with
  | none =>
    rw [hf] at this
    have := this.1 rfl
    simp [this]
  | some i =>
    rw [hf] at this
    cases ha : l.any p with
    | false => exact absurd (this.2 ha) (by simp)
    | true => simp
theorem indexB_ev (fu n : Nat) (f : Nat) (p : Int → Bool) (l : List Int) (hp : ∀ c, evF (G fu) (n+2) f [.d (.int .u8 c)] [] = some (.d (.bool (p c)), [])) (ho : owns f = false) (h : l.length < fu) (hs : l.length < 1000000) :
    evF (G fu) (n+3) 60 [.d (.list (byt l)), .fn (.func f) [] []] [] = some (.d (.int .i64 (findT p l)), []) := by
  rw [evF.eq_2, evX.eq_def, Gext, exts_no _ (f := 60) (by decide), GP, Tryd.func60]; simp only [Tryd.f60, evB]
  simp only [go_sem, Nat.reduceAdd, Nat.reduceMul, Nat.reduceSub, Nat.reduceLT, Nat.reduceLeDiff, Nat.reduceEqDiff, Nat.reduceBEq, Nat.reduceBeqDiff, Int.reduceEq, Int.reduceLT, Int.reduceLE, Int.reduceToNat, Int.reduceNeg, Int.reduceAdd, Int.reduceSub, Int.reduceMul, reduceIte, reduceCtorEq, Nat.reducePow, Nat.reduceDiv, Nat.reduceMod, Int.reduceBEq, List.length_map]
  rw [loop_scan l.length (fun i => ⟨[(0, .d (.list (byt l))), (1, .fn (.func f) [] []), (7, .d (.int .i64 l.length)), (8, .d (.int .i64 i))], []⟩) (fun i => p (l.getD i 0)) (fun i => (.ret, ⟨[(4, V.d (D.int .i64 i))], []⟩)) (.exit 0, ⟨[], []⟩) (by omega) (fun _ => trivial) trivial ?_]
  case hs =>
    intro i hi
    simp only [go_sem, Nat.reduceAdd, Nat.reduceMul, Nat.reduceSub, Nat.reduceLT, Nat.reduceLeDiff, Nat.reduceEqDiff, Nat.reduceBEq, Nat.reduceBeqDiff, Int.reduceEq, Int.reduceLT, Int.reduceLE, Int.reduceToNat, Int.reduceNeg, Int.reduceAdd, Int.reduceSub, Int.reduceMul, reduceIte, reduceCtorEq, Nat.reducePow, Nat.reduceDiv, Nat.reduceMod, Int.reduceBEq, Int.ofNat_lt, hi, idx, getD_map (f := D.int .u8) (d := 0) hi, hp, ho]
    cases p (l.getD i 0) <;> simp only [go_sem, Nat.reduceAdd, Nat.reduceMul, Nat.reduceSub, Nat.reduceLT, Nat.reduceLeDiff, Nat.reduceEqDiff, Nat.reduceBEq, Nat.reduceBeqDiff, Int.reduceEq, Int.reduceLT, Int.reduceLE, Int.reduceToNat, Int.reduceNeg, Int.reduceAdd, Int.reduceSub, Int.reduceMul, reduceIte, reduceCtorEq, Nat.reducePow, Nat.reduceDiv, Nat.reduceMod, Int.reduceBEq, wrap_i64 (show -9223372036854775808 ≤ (i : Int) + 1 by omega) (by omega)] <;> rfl
  case he => simp only [go_sem, Nat.reduceAdd, Nat.reduceMul, Nat.reduceSub, Nat.reduceLT, Nat.reduceLeDiff, Nat.reduceEqDiff, Nat.reduceBEq, Nat.reduceBeqDiff, Int.reduceEq, Int.reduceLT, Int.reduceLE, Int.reduceToNat, Int.reduceNeg, Int.reduceAdd, Int.reduceSub, Int.reduceMul, reduceIte, reduceCtorEq, Nat.reducePow, Nat.reduceDiv, Nat.reduceMod, Int.reduceBEq, Int.ofNat_lt, Nat.lt_irrefl]
  · unfold scan findT
    cases first (fun i => p (l.getD i 0)) 0 l.length <;> simp only [go_sem, Nat.reduceAdd, Nat.reduceMul, Nat.reduceSub, Nat.reduceLT, Nat.reduceLeDiff, Nat.reduceEqDiff, Nat.reduceBEq, Nat.reduceBeqDiff, Int.reduceEq, Int.reduceLT, Int.reduceLE, Int.reduceToNat, Int.reduceNeg, Int.reduceAdd, Int.reduceSub, Int.reduceMul, reduceIte, reduceCtorEq, Nat.reducePow, Nat.reduceDiv, Nat.reduceMod, Int.reduceBEq]
  · rfl
theorem containsB_ev (fu n : Nat) (f : Nat) (p : Int → Bool) (l : List Int) (hp : ∀ c, evF (G fu) (n+2) f [.d (.int .u8 c)] [] = some (.d (.bool (p c)), [])) (ho : owns f = false) (h : l.length < fu) (hs : l.length < 1000000) :
    evF (G fu) (n+4) 38 [.d (.list (byt l)), .fn (.func f) [] []] [] = some (.d (.bool (l.any p)), []) := by
  have I := indexB_ev fu n f p l hp ho h hs
  rw [evF.eq_2, evX.eq_def, Gext, exts_no _ (f := 38) (by decide), GP, Tryd.func38]; simp only [Tryd.f38, evB]
  have := findT_iff p l
  cases ha : l.any p <;> rw [ha] at this <;> simp only [iff_true, iff_false, reduceCtorEq, Bool.false_eq_true] at this <;> simp only [go_sem, Nat.reduceAdd, Nat.reduceMul, Nat.reduceSub, Nat.reduceLT, Nat.reduceLeDiff, Nat.reduceEqDiff, Nat.reduceBEq, Nat.reduceBeqDiff, Int.reduceEq, Int.reduceLT, Int.reduceLE, Int.reduceToNat, Int.reduceNeg, Int.reduceAdd, Int.reduceSub, Int.reduceMul, reduceIte, reduceCtorEq, Nat.reducePow, Nat.reduceDiv, Nat.reduceMod, Int.reduceBEq, I, this, ha]
theorem any_not {p : Int → Bool} (l : List Int) : l.any (fun c => !p c) = !l.all p := by
  induction l with
  | nil => rfl
  | cons x l ih => simp [ih]
theorem typesS_ev (fu n : Nat) (l : List Int) (h : l.length < fu) (hs : l.length < 1000000) : evF (G fu) (n+5) 23 [.d (.list (byt l))] [] = some (.d (.bool (typesB l)), []) := by
  have C := containsB_ev fu n 39 (fun c => !(c == 0 || valB c)) l (types1S_ev fu n) rfl h hs
  rw [any_not] at C
  rw [evF.eq_2, evX.eq_def, Gext, exts_no _ (f := 23) (by decide), GP, Tryd.func23]; simp only [Tryd.f23, evB]
  simp only [go_sem, Nat.reduceAdd, Nat.reduceMul, Nat.reduceSub, Nat.reduceLT, Nat.reduceLeDiff, Nat.reduceEqDiff, Nat.reduceBEq, Nat.reduceBeqDiff, Int.reduceEq, Int.reduceLT, Int.reduceLE, Int.reduceToNat, Int.reduceNeg, Int.reduceAdd, Int.reduceSub, Int.reduceMul, reduceIte, reduceCtorEq, Nat.reducePow, Nat.reduceDiv, Nat.reduceMod, Int.reduceBEq, C, Bool.not_not]; rfl
theorem rises_none {l : List Ctl} {k : Nat} {h : Int} (e : risesB h (l.take k) = none) : risesB h l = none := by
  rw [← List.take_append_drop k l, risesB_append, e]
theorem rises_step {l : List Ctl} {k : Nat} {last : Int} {c : Ctl} (e : risesB 0 (l.take k) = some last) (hk : l[k]? = some c) : risesB 0 (l.take (k + 1)) = if finB c.fin && decide (last ≤ c.ht) then some c.ht else none := by
  rw [List.take_add_one, hk, risesB_append, e]
  simp only [Option.toList_some, risesB]
def ctl0 : Ctl := ⟨0, [], 0, false⟩
theorem saneS_ev (fu n : Nat) (s : Stk) (h : s.vals.length < fu) (hc : s.ctrls.length < fu) (hs : s.vals.length < 1000000) (hcs : s.ctrls.length < 1000000) : evF (G fu) (n+6) 14 [.d s.dd] [] = some (.d (.bool (saneS s)), []) := by
  have T := typesS_ev fu n s.vals h hs
  rw [evF.eq_2, evX.eq_def, Gext, exts_no _ (f := 14) (by decide), GP, Tryd.func14]; simp only [Tryd.f14, evB]
  simp only [go_sem, Nat.reduceAdd, Nat.reduceMul, Nat.reduceSub, Nat.reduceLT, Nat.reduceLeDiff, Nat.reduceEqDiff, Nat.reduceBEq, Nat.reduceBeqDiff, Int.reduceEq, Int.reduceLT, Int.reduceLE, Int.reduceToNat, Int.reduceNeg, Int.reduceAdd, Int.reduceSub, Int.reduceMul, reduceIte, reduceCtorEq, Nat.reducePow, Nat.reduceDiv, Nat.reduceMod, Int.reduceBEq, Stk.dd, List.length_map]
  generalize hr : loopN _ _ _ _ _ = r
  obtain ⟨x, s1, rfl, hx, hJ⟩ : ∃ x s1, r = some (x, s1) ∧ leaves x ∧ ((∃ last, x = .exit 0 ∧ risesB 0 s.ctrls = some last ∧ s1 = ⟨[(1, V.ptr 128 0), (3, V.d (D.int .i64 last))], [(128, .cells [V.d (D.list (byt s.vals)), V.d (D.list (ctlds s.ctrls))])]⟩) ∨
      (x = .ret ∧ risesB 0 s.ctrls = none ∧ s1 = ⟨[(2, V.d (D.bool false))], []⟩)) := by
    rw [← hr]
    refine loop_inv (J := fun x s1 => ((∃ last, x = .exit 0 ∧ risesB 0 s.ctrls = some last ∧ s1 = ⟨[(1, V.ptr 128 0), (3, V.d (D.int .i64 last))], [(128, .cells [V.d (D.list (byt s.vals)), V.d (D.list (ctlds s.ctrls))])]⟩) ∨
      (x = .ret ∧ risesB 0 s.ctrls = none ∧ s1 = ⟨[(2, V.d (D.bool false))], []⟩)))
      s.ctrls.length (fun i z => ∃ last, risesB 0 (s.ctrls.take i) = some last ∧ z = ⟨[(1, V.ptr 128 0), (3, V.d (D.int .i64 last)), (7, V.d (D.list (ctlds s.ctrls))), (8, V.d (D.int .i64 s.ctrls.length)), (9, V.d (D.int .i64 i))], [(128, .cells [V.d (D.list (byt s.vals)), V.d (D.list (ctlds s.ctrls))])]⟩) ?_ ?_ fu _ hc ⟨0, rfl, rfl⟩
    · rintro i z hi ⟨last, hl, rfl⟩
      have hx : (ctlds s.ctrls)[i]? = some (s.ctrls.getD i ctl0).dd := getD_map hi
      have hk : s.ctrls[i]? = some (s.ctrls.getD i ctl0) := by simp [hi]
      have hs1 := rises_step hl hk
      generalize s.ctrls.getD i ctl0 = c at *
      have hL := leftS_ev fu (n+3) c.fin
      have hiI : (i : Int) < s.ctrls.length := by omega
      have W := wrap_i64 (show -9223372036854775808 ≤ (i : Int) + 1 by omega) (by omega)
      simp only [go_sem, Nat.reduceAdd, Nat.reduceMul, Nat.reduceSub, Nat.reduceLT, Nat.reduceLeDiff, Nat.reduceEqDiff, Nat.reduceBEq, Nat.reduceBeqDiff, Int.reduceEq, Int.reduceLT, Int.reduceLE, Int.reduceToNat, Int.reduceNeg, Int.reduceAdd, Int.reduceSub, Int.reduceMul, reduceIte, reduceCtorEq, Nat.reducePow, Nat.reduceDiv, Nat.reduceMod, Int.reduceBEq, hiI, idx, hx, Ctl.dd]
      cases hf : finB c.fin with
      | false =>
        rw [hf] at hL hs1
        simp only [go_sem, Nat.reduceAdd, Nat.reduceMul, Nat.reduceSub, Nat.reduceLT, Nat.reduceLeDiff, Nat.reduceEqDiff, Nat.reduceBEq, Nat.reduceBeqDiff, Int.reduceEq, Int.reduceLT, Int.reduceLE, Int.reduceToNat, Int.reduceNeg, Int.reduceAdd, Int.reduceSub, Int.reduceMul, reduceIte, reduceCtorEq, Nat.reducePow, Nat.reduceDiv, Nat.reduceMod, Int.reduceBEq, hL]
        exact ⟨_, _, rfl, .inr ⟨rfl, rises_none (k := i + 1) (by rw [hs1]; rfl), rfl⟩⟩
      | true =>
        rw [hf] at hL hs1
        by_cases hlt : c.ht < last
        · have : ¬ last ≤ c.ht := by omega
          simp only [go_sem, Nat.reduceAdd, Nat.reduceMul, Nat.reduceSub, Nat.reduceLT, Nat.reduceLeDiff, Nat.reduceEqDiff, Nat.reduceBEq, Nat.reduceBeqDiff, Int.reduceEq, Int.reduceLT, Int.reduceLE, Int.reduceToNat, Int.reduceNeg, Int.reduceAdd, Int.reduceSub, Int.reduceMul, reduceIte, reduceCtorEq, Nat.reducePow, Nat.reduceDiv, Nat.reduceMod, Int.reduceBEq, hL, hlt]
          exact ⟨_, _, rfl, .inr ⟨rfl, rises_none (k := i + 1) (by rw [hs1]; simp [this]), rfl⟩⟩
        · have : last ≤ c.ht := by omega
          simp only [go_sem, Nat.reduceAdd, Nat.reduceMul, Nat.reduceSub, Nat.reduceLT, Nat.reduceLeDiff, Nat.reduceEqDiff, Nat.reduceBEq, Nat.reduceBeqDiff, Int.reduceEq, Int.reduceLT, Int.reduceLE, Int.reduceToNat, Int.reduceNeg, Int.reduceAdd, Int.reduceSub, Int.reduceMul, reduceIte, reduceCtorEq, Nat.reducePow, Nat.reduceDiv, Nat.reduceMod, Int.reduceBEq, hL, hlt, W]
          exact ⟨_, _, rfl, c.ht, by rw [hs1]; simp [this], rfl⟩
    · rintro z ⟨last, hl, rfl⟩
      rw [List.take_length] at hl
      simp only [go_sem, Nat.reduceAdd, Nat.reduceMul, Nat.reduceSub, Nat.reduceLT, Nat.reduceLeDiff, Nat.reduceEqDiff, Nat.reduceBEq, Nat.reduceBeqDiff, Int.reduceEq, Int.reduceLT, Int.reduceLE, Int.reduceToNat, Int.reduceNeg, Int.reduceAdd, Int.reduceSub, Int.reduceMul, reduceIte, reduceCtorEq, Nat.reducePow, Nat.reduceDiv, Nat.reduceMod, Int.reduceBEq, Int.lt_irrefl]
      exact ⟨_, _, rfl, trivial, .inl ⟨last, rfl, hl, rfl⟩⟩
  rcases hJ with ⟨last, rfl, hl, rfl⟩ | ⟨rfl, hl, rfl⟩
  · unfold saneS
    simp only [hl]
    by_cases hle : last ≤ s.vals.length
    · simp only [go_sem, Nat.reduceAdd, Nat.reduceMul, Nat.reduceSub, Nat.reduceLT, Nat.reduceLeDiff, Nat.reduceEqDiff, Nat.reduceBEq, Nat.reduceBeqDiff, Int.reduceEq, Int.reduceLT, Int.reduceLE, Int.reduceToNat, Int.reduceNeg, Int.reduceAdd, Int.reduceSub, Int.reduceMul, reduceIte, reduceCtorEq, Nat.reducePow, Nat.reduceDiv, Nat.reduceMod, Int.reduceBEq, byt_len, hle, T]
    · simp only [go_sem, Nat.reduceAdd, Nat.reduceMul, Nat.reduceSub, Nat.reduceLT, Nat.reduceLeDiff, Nat.reduceEqDiff, Nat.reduceBEq, Nat.reduceBeqDiff, Int.reduceEq, Int.reduceLT, Int.reduceLE, Int.reduceToNat, Int.reduceNeg, Int.reduceAdd, Int.reduceSub, Int.reduceMul, reduceIte, reduceCtorEq, Nat.reducePow, Nat.reduceDiv, Nat.reduceMod, Int.reduceBEq, byt_len, hle]
  · unfold saneS
    simp only [go_sem, Nat.reduceAdd, Nat.reduceMul, Nat.reduceSub, Nat.reduceLT, Nat.reduceLeDiff, Nat.reduceEqDiff, Nat.reduceBEq, Nat.reduceBeqDiff, Int.reduceEq, Int.reduceLT, Int.reduceLE, Int.reduceToNat, Int.reduceNeg, Int.reduceAdd, Int.reduceSub, Int.reduceMul, reduceIte, reduceCtorEq, Nat.reducePow, Nat.reduceDiv, Nat.reduceMod, Int.reduceBEq, hl]
end Go.Proofs.YtfpioigggjnffaaDoor.E

/- The reading of stack.begin, pop. -/
set_option autoImplicit false
set_option maxRecDepth 100000
set_option maxHeartbeats 4000000
set_option linter.unusedSimpArgs false
set_option linter.unusedVariables false
set_option pp.maxSteps 20000
namespace Go.Proofs.YtfpioigggjnffaaDoor.E
open Go.Ev
theorem ctlds_sized (l : List Ctl) : sizedAll 4 (ctlds l) = true := sizedAll_map (fun x => ⟨_, rfl⟩) l
theorem cloneC_ev (fu n : Nat) (l : List Ctl) (h : l.length ≤ 1099511627776) : evF (G fu) (n+1) 32 [.d (.list (ctlds l))] [] = some (.row 0 0 0 l.length, [.row 4 (ctlds l) 0 false false]) := by
  rw [evF.eq_2, evX.eq_def, Gext, exts_32]
  cases l with
  | nil => rfl
  | cons x l =>
    have hs := ctlds_sized (x :: l)
    have hl := ctlds_len (x :: l)
    simp only [ctlds, List.map_cons] at hs hl ⊢
    simp only [cloneX, G0P, Tryd.func32]
    simp only [Tryd.f32, evB]
    have h' : l.length ≤ 1099511627775 := by simp at h; omega
    simp only [go_sem, Nat.reduceAdd, Nat.reduceMul, Nat.reduceSub, Nat.reduceLT, Nat.reduceLeDiff, Nat.reduceEqDiff, Nat.reduceBEq, Nat.reduceBeqDiff, Int.reduceEq, Int.reduceLT, Int.reduceLE, Int.reduceToNat, Int.reduceNeg, Int.reduceAdd, Int.reduceSub, Int.reduceMul, reduceIte, reduceCtorEq, Nat.reducePow, Nat.reduceDiv, Nat.reduceMod, Int.reduceBEq, hs, hl, h, h']
/-- a stack that is changed, as it lies -/
def wcells (lv lc j : Nat) : List V := [.row 1 0 0 lv, .row 2 0 0 lc, .eptr 2 0 j 0]
def beginR (s : Stk) : Option Res := match topC s with
  | .error e => some (.tup [.agg [.nilsl, .nilsl, .nilp], .d (.int .i64 e)], [])
  | .ok _ => some (.tup [.agg [.row 0 0 0 s.vals.length, .row 1 0 0 s.ctrls.length, .eptr 1 0 (s.ctrls.length - 1) 0], .d (.int .i64 0)], [.row 1 (byt s.vals) 0 false false, .row 4 (ctlds s.ctrls) 0 false false])
theorem begin_ev (fu n : Nat) (s : Stk) (h : s.vals.length < fu) (hc : s.ctrls.length < fu) (hs : s.vals.length < 1000000) (hcs : s.ctrls.length < 1000000) : evF (G fu) (n+7) 35 [.d s.dd] [] = beginR s := by
  have S := saneS_ev fu n s h hc hs hcs
  have C1 := clone_ev fu (n+5) s.vals (by omega)
  have C2 := cloneC_ev fu (n+5) s.ctrls (by omega)
  simp only [Stk.dd] at S
  unfold beginR topC
  rw [evF.eq_2, evX.eq_def, Gext, exts_no _ (f := 35) (by decide), GP, Tryd.func35]; simp only [Tryd.f35, evB]
  cases hsn : saneS s with
  | false =>
    rw [hsn] at S
    simp only [go_sem, Nat.reduceAdd, Nat.reduceMul, Nat.reduceSub, Nat.reduceLT, Nat.reduceLeDiff, Nat.reduceEqDiff, Nat.reduceBEq, Nat.reduceBeqDiff, Int.reduceEq, Int.reduceLT, Int.reduceLE, Int.reduceToNat, Int.reduceNeg, Int.reduceAdd, Int.reduceSub, Int.reduceMul, reduceIte, reduceCtorEq, Nat.reducePow, Nat.reduceDiv, Nat.reduceMod, Int.reduceBEq, Stk.dd, S]
  | true =>
    rw [hsn] at S
    cases hcl : s.ctrls.getLast? with
    | none =>
      have h0 : (s.ctrls.length : Int) = 0 := by rw [List.getLast?_eq_none_iff] at hcl; rw [hcl]; rfl
      simp only [go_sem, Nat.reduceAdd, Nat.reduceMul, Nat.reduceSub, Nat.reduceLT, Nat.reduceLeDiff, Nat.reduceEqDiff, Nat.reduceBEq, Nat.reduceBeqDiff, Int.reduceEq, Int.reduceLT, Int.reduceLE, Int.reduceToNat, Int.reduceNeg, Int.reduceAdd, Int.reduceSub, Int.reduceMul, reduceIte, reduceCtorEq, Nat.reducePow, Nat.reduceDiv, Nat.reduceMod, Int.reduceBEq, Stk.dd, S, ctlds_len, byt_len, C1, C2, h0]
    | some c => 
      have hpos : 0 < s.ctrls.length := by
        cases hh : s.ctrls with
        | nil => rw [hh] at hcl; cases hcl
        | cons _ _ => simp
      have hne : ¬ (s.ctrls.length : Int) = 0 := by omega
      have Wn : IntKind.wrap .i64 ((s.ctrls.length : Int) - 1) = ((s.ctrls.length - 1 : Nat) : Int) := by rw [wrap_i64 (by omega) (by omega)]; omega
      have hlt : ((s.ctrls.length - 1 : Nat) : Int) < s.ctrls.length := by omega
      simp only [go_sem, Nat.reduceAdd, Nat.reduceMul, Nat.reduceSub, Nat.reduceLT, Nat.reduceLeDiff, Nat.reduceEqDiff, Nat.reduceBEq, Nat.reduceBeqDiff, Int.reduceEq, Int.reduceLT, Int.reduceLE, Int.reduceToNat, Int.reduceNeg, Int.reduceAdd, Int.reduceSub, Int.reduceMul, reduceIte, reduceCtorEq, Nat.reducePow, Nat.reduceDiv, Nat.reduceMod, Int.reduceBEq, Stk.dd, S, ctlds_len, byt_len, C1, C2, hne]
      (rw [cond_free]; rotate_left; · rfl)
      simp only [go_sem, Nat.reduceAdd, Nat.reduceMul, Nat.reduceSub, Nat.reduceLT, Nat.reduceLeDiff, Nat.reduceEqDiff, Nat.reduceBEq, Nat.reduceBeqDiff, Int.reduceEq, Int.reduceLT, Int.reduceLE, Int.reduceToNat, Int.reduceNeg, Int.reduceAdd, Int.reduceSub, Int.reduceMul, reduceIte, reduceCtorEq, Nat.reducePow, Nat.reduceDiv, Nat.reduceMod, Int.reduceBEq, Wn, hlt]
      (rw [cond_free]; rotate_left; · rfl)
      simp only [go_sem, Nat.reduceAdd, Nat.reduceMul, Nat.reduceSub, Nat.reduceLT, Nat.reduceLeDiff, Nat.reduceEqDiff, Nat.reduceBEq, Nat.reduceBeqDiff, Int.reduceEq, Int.reduceLT, Int.reduceLE, Int.reduceToNat, Int.reduceNeg, Int.reduceAdd, Int.reduceSub, Int.reduceMul, reduceIte, reduceCtorEq, Nat.reducePow, Nat.reduceDiv, Nat.reduceMod, Int.reduceBEq]
theorem top_get {X : List D} {v : List Int} (hX : X.take v.length = byt v) (h : 0 < v.length) : X[v.length - 1]? = some (.int .u8 (v.getLastD 0)) := by
  have h1 : (X.take v.length)[v.length - 1]? = X[v.length - 1]? := by rw [List.getElem?_take, if_pos (by omega)]
  have hne : v ≠ [] := fun e => by rw [e] at h; simp at h
  rw [← h1, hX, List.getElem?_map, ← List.getLast?_eq_getElem?, List.getLast?_eq_some_getLast hne, List.getLastD_eq_getLast?, List.getLast?_eq_some_getLast hne]
  rfl
theorem pop_ev (fu n : Nat) (v : List Int) (lc j : Nat) (X Y : List D) (f1 g1 f2 g2 : Bool) (c : Ctl) (hX : X.take v.length = byt v) (hY : Y[j]? = some c.dd) (hh : 0 ≤ c.ht) (hl : v.length < 1000000) :
    evF (G fu) (n+1) 59 [.ptr 0 0] [.cells (wcells v.length lc j), .row 1 X 0 f1 g1, .row 4 Y 0 f2 g2] = some (match popV c.ht c.dead v with
      | .ok (t, v') => (.tup [.d (.int .u8 t), .d (.int .i64 0)], [.cells (wcells v'.length lc j), .row 1 X 0 f1 g1, .row 4 Y 0 f2 g2])
      | .error e => (.tup [.d (.int .u8 0), .d (.int .i64 e)], [.cells (wcells v.length lc j), .row 1 X 0 f1 g1, .row 4 Y 0 f2 g2])) := by
  rw [evF.eq_2, evX.eq_def, Gext, exts_no _ (f := 59) (by decide), GP, Tryd.func59]; simp only [Tryd.f59, evB]
  have Wn : IntKind.wrap .i64 ((v.length : Int) - 1) = (v.length : Int) - 1 := wrap_i64 (by omega) (by omega)
  unfold popV
  by_cases hlt : c.ht < v.length
  · have h1 : c.ht ≤ (v.length : Int) - 1 := by omega
    have h2 : (0 : Int) ≤ (v.length : Int) - 1 := by omega
    have h3 : (v.length : Int) - 1 < v.length := by omega
    have h4 : ((v.length : Int) - 1).toNat = v.length - 1 := by omega
    have h5 : (v.length : Int) - 1 ≤ v.length := by omega
    have hx := top_get hX (show 0 < v.length by omega)
    simp only [go_sem, Nat.reduceAdd, Nat.reduceMul, Nat.reduceSub, Nat.reduceLT, Nat.reduceLeDiff, Nat.reduceEqDiff, Nat.reduceBEq, Nat.reduceBeqDiff, Int.reduceEq, Int.reduceLT, Int.reduceLE, Int.reduceToNat, Int.reduceNeg, Int.reduceAdd, Int.reduceSub, Int.reduceMul, reduceIte, reduceCtorEq, Nat.reducePow, Nat.reduceDiv, Nat.reduceMod, Int.reduceBEq, wcells, Wn, hY, Ctl.dd, h1, h2, h3, h4, h5, hx, hlt, List.length_dropLast, Int.sub_zero]
  · have h1 : ¬ c.ht ≤ (v.length : Int) - 1 := by omega
    cases hd : c.dead with
    | true => simp only [go_sem, Nat.reduceAdd, Nat.reduceMul, Nat.reduceSub, Nat.reduceLT, Nat.reduceLeDiff, Nat.reduceEqDiff, Nat.reduceBEq, Nat.reduceBeqDiff, Int.reduceEq, Int.reduceLT, Int.reduceLE, Int.reduceToNat, Int.reduceNeg, Int.reduceAdd, Int.reduceSub, Int.reduceMul, reduceIte, reduceCtorEq, Nat.reducePow, Nat.reduceDiv, Nat.reduceMod, Int.reduceBEq, wcells, Wn, hY, Ctl.dd, h1, hlt, hd]
    | false => simp only [go_sem, Nat.reduceAdd, Nat.reduceMul, Nat.reduceSub, Nat.reduceLT, Nat.reduceLeDiff, Nat.reduceEqDiff, Nat.reduceBEq, Nat.reduceBeqDiff, Int.reduceEq, Int.reduceLT, Int.reduceLE, Int.reduceToNat, Int.reduceNeg, Int.reduceAdd, Int.reduceSub, Int.reduceMul, reduceIte, reduceCtorEq, Nat.reducePow, Nat.reduceDiv, Nat.reduceMod, Int.reduceBEq, wcells, Wn, hY, Ctl.dd, h1, hlt, hd]
theorem pop0_ev (fu n : Nat) (v : List Int) (lc j : Nat) (X Y : List D) (f1 g1 f2 g2 : Bool) (c : Ctl) (hX : X.take v.length = byt v) (hY : Y[j]? = some c.dd) (hh : 0 ≤ c.ht) (hl : v.length < 1000000) :
    evF (G0 fu) (n+1) 59 [.ptr 0 0] [.cells (wcells v.length lc j), .row 1 X 0 f1 g1, .row 4 Y 0 f2 g2] = some (match popV c.ht c.dead v with
      | .ok (t, v') => (.tup [.d (.int .u8 t), .d (.int .i64 0)], [.cells (wcells v'.length lc j), .row 1 X 0 f1 g1, .row 4 Y 0 f2 g2])
      | .error e => (.tup [.d (.int .u8 0), .d (.int .i64 e)], [.cells (wcells v.length lc j), .row 1 X 0 f1 g1, .row 4 Y 0 f2 g2])) := by
  rw [evF.eq_2, evX.eq_def, G0ext, G0P, Tryd.func59]; simp only [Tryd.f59, evB]
  have Wn : IntKind.wrap .i64 ((v.length : Int) - 1) = (v.length : Int) - 1 := wrap_i64 (by omega) (by omega)
  unfold popV
  by_cases hlt : c.ht < v.length
  · have h1 : c.ht ≤ (v.length : Int) - 1 := by omega
    have h2 : (0 : Int) ≤ (v.length : Int) - 1 := by omega
    have h3 : (v.length : Int) - 1 < v.length := by omega
    have h4 : ((v.length : Int) - 1).toNat = v.length - 1 := by omega
    have h5 : (v.length : Int) - 1 ≤ v.length := by omega
    have hx := top_get hX (show 0 < v.length by omega)
    simp only [go_sem, Nat.reduceAdd, Nat.reduceMul, Nat.reduceSub, Nat.reduceLT, Nat.reduceLeDiff, Nat.reduceEqDiff, Nat.reduceBEq, Nat.reduceBeqDiff, Int.reduceEq, Int.reduceLT, Int.reduceLE, Int.reduceToNat, Int.reduceNeg, Int.reduceAdd, Int.reduceSub, Int.reduceMul, reduceIte, reduceCtorEq, Nat.reducePow, Nat.reduceDiv, Nat.reduceMod, Int.reduceBEq, wcells, Wn, hY, Ctl.dd, h1, h2, h3, h4, h5, hx, hlt, List.length_dropLast, Int.sub_zero]
  · have h1 : ¬ c.ht ≤ (v.length : Int) - 1 := by omega
    cases hd : c.dead with
    | true => simp only [go_sem, Nat.reduceAdd, Nat.reduceMul, Nat.reduceSub, Nat.reduceLT, Nat.reduceLeDiff, Nat.reduceEqDiff, Nat.reduceBEq, Nat.reduceBeqDiff, Int.reduceEq, Int.reduceLT, Int.reduceLE, Int.reduceToNat, Int.reduceNeg, Int.reduceAdd, Int.reduceSub, Int.reduceMul, reduceIte, reduceCtorEq, Nat.reducePow, Nat.reduceDiv, Nat.reduceMod, Int.reduceBEq, wcells, Wn, hY, Ctl.dd, h1, hlt, hd]
    | false => simp only [go_sem, Nat.reduceAdd, Nat.reduceMul, Nat.reduceSub, Nat.reduceLT, Nat.reduceLeDiff, Nat.reduceEqDiff, Nat.reduceBEq, Nat.reduceBeqDiff, Int.reduceEq, Int.reduceLT, Int.reduceLE, Int.reduceToNat, Int.reduceNeg, Int.reduceAdd, Int.reduceSub, Int.reduceMul, reduceIte, reduceCtorEq, Nat.reducePow, Nat.reduceDiv, Nat.reduceMod, Int.reduceBEq, wcells, Wn, hY, Ctl.dd, h1, hlt, hd]
end Go.Proofs.YtfpioigggjnffaaDoor.E

/- Chapter 10, plain: what is made of a stack that may be is a stack that may be. -/
set_option autoImplicit false
namespace Go.Proofs.YtfpioigggjnffaaDoor.E
open Go.Ev

theorem saneS_iff (s : Stk) : saneS s = true ↔ ∃ h, risesB 0 s.ctrls = some h ∧ h ≤ s.vals.length ∧ typesB s.vals = true := by
  unfold saneS
  cases risesB 0 s.ctrls with
  | none => simp
  | some h => simp
theorem risesB_last {h : Int} {a : List Ctl} {k : Int} {c : Ctl} (e : risesB h a = some k) (hc : a.getLast? = some c) : k = c.ht ∧ finB c.fin = true := by
  obtain ⟨ys, rfl⟩ := List.getLast?_eq_some_iff.1 hc
  rw [risesB_append] at e
  cases hr : risesB h ys with
  | none => rw [hr] at e; cases e
  | some m =>
    rw [hr] at e
    simp only [risesB] at e
    split at e
    · rename_i hh
      simp only [Bool.and_eq_true] at hh
      cases e; exact ⟨rfl, hh.1⟩
    · cases e
theorem risesB_ge {h : Int} {a : List Ctl} {k : Int} (e : risesB h a = some k) : h ≤ k := by
  induction a generalizing h with
  | nil => cases e; exact Int.le_refl _
  | cons c a ih =>
    simp only [risesB] at e
    split at e
    · rename_i hh
      simp only [Bool.and_eq_true, decide_eq_true_eq] at hh
      have := ih e; omega
    · cases e
theorem risesB_dropLast {a : List Ctl} {k : Int} (e : risesB 0 a = some k) : ∃ m, risesB 0 a.dropLast = some m ∧ m ≤ k := by
  cases hl : a.getLast? with
  | none => rw [List.getLast?_eq_none_iff] at hl; subst hl; exact ⟨0, rfl, by cases e; exact Int.le_refl _⟩
  | some c =>
    obtain ⟨ys, rfl⟩ := List.getLast?_eq_some_iff.1 hl
    rw [List.dropLast_concat]
    rw [risesB_append] at e
    cases hr : risesB 0 ys with
    | none => rw [hr] at e; cases e
    | some m => rw [hr] at e; exact ⟨m, rfl, risesB_ge e⟩
theorem risesB_setLast {a : List Ctl} {k : Int} {c c' : Ctl} (e : risesB 0 a = some k) (hc : a.getLast? = some c) (h1 : c'.fin = c.fin) (h2 : c'.ht = c.ht) : risesB 0 (a.dropLast ++ [c']) = some k := by
  obtain ⟨ys, rfl⟩ := List.getLast?_eq_some_iff.1 hc
  rw [List.dropLast_concat, risesB_append]
  rw [risesB_append] at e
  cases hr : risesB 0 ys with
  | none => rw [hr] at e; cases e
  | some m => rw [hr] at e; simp only [risesB] at e ⊢; rw [h1, h2]; exact e

theorem topC_ok {s : Stk} {c : Ctl} (e : topC s = .ok c) : saneS s = true ∧ s.ctrls.getLast? = some c := by
  unfold topC at e
  cases hs : saneS s with
  | false => rw [hs] at e; cases e
  | true =>
    rw [hs] at e
    cases hc : s.ctrls.getLast? with
    | none => rw [hc] at e; cases e
    | some x => rw [hc] at e; cases e; exact ⟨rfl, rfl⟩
theorem topC_rises {s : Stk} {c : Ctl} (e : topC s = .ok c) : risesB 0 s.ctrls = some c.ht ∧ c.ht ≤ s.vals.length ∧ typesB s.vals = true ∧ finB c.fin = true ∧ 0 ≤ c.ht := by
  obtain ⟨hs, hc⟩ := topC_ok e
  obtain ⟨h, hr, hl, ht⟩ := (saneS_iff s).1 hs
  obtain ⟨rfl, hf⟩ := risesB_last hr hc
  exact ⟨hr, hl, ht, hf, risesB_ge hr⟩

theorem pushS_ok {s s' : Stk} {l : List Int} (e : pushS s l = .ok s') : saneS s' = true ∧ s'.ctrls = s.ctrls ∧ s'.vals = s.vals ++ l := by
  unfold pushS at e
  split at e
  · cases e
  · rename_i hn
    simp only [Bool.or_eq_true, Bool.not_eq_true', not_or, Bool.not_eq_false] at hn
    cases e
    obtain ⟨h, hr, hl, ht⟩ := (saneS_iff s).1 hn.1
    exact ⟨(saneS_iff _).2 ⟨h, hr, by simp only [List.length_append]; omega, by rw [typesB_append, ht, hn.2]; rfl⟩, rfl, rfl⟩
theorem wantS_ok {s s' : Stk} {l : List Int} (e : wantS s l = .ok s') : saneS s' = true ∧ s'.ctrls = s.ctrls ∧ s'.vals <+: s.vals := by
  unfold wantS at e
  split at e
  · rename_i hn
    simp only [Bool.and_eq_true] at hn
    cases e; exact ⟨hn.1, rfl, List.prefix_refl _⟩
  · cases ht : topC s with
    | error x => rw [ht] at e; cases e
    | ok c =>
      rw [ht] at e
      simp only at e
      cases hw : wantV c.ht c.dead l.reverse s.vals with
      | error x => rw [hw] at e; cases e
      | ok v =>
        rw [hw] at e; cases e
        obtain ⟨h1, h2, h3, _, _⟩ := topC_rises ht
        obtain ⟨a1, a2, a3⟩ := wantV_len hw h2 h3
        exact ⟨(saneS_iff _).2 ⟨c.ht, h1, a1, a2⟩, rfl, a3⟩
theorem popS_ok {s s' : Stk} {t : Int} (e : popS s = .ok (t, s')) : saneS s' = true ∧ s'.ctrls = s.ctrls ∧ s'.vals <+: s.vals := by
  unfold popS at e
  cases ht : topC s with
  | error x => rw [ht] at e; cases e
  | ok c =>
    rw [ht] at e
    simp only at e
    cases hw : popV c.ht c.dead s.vals with
    | error x => rw [hw] at e; cases e
    | ok r =>
      obtain ⟨t', v⟩ := r
      rw [hw] at e; cases e
      obtain ⟨h1, h2, h3, _, _⟩ := topC_rises ht
      obtain ⟨a1, a2, a3⟩ := popV_len hw h2 h3
      exact ⟨(saneS_iff _).2 ⟨c.ht, h1, a1, a2⟩, rfl, a3⟩
theorem openS_ok {s s' : Stk} {op : Int} {l : List Int} (e : openS s op l = .ok s') : saneS s' = true ∧ s'.ctrls = s.ctrls ++ [⟨op, l, s.vals.length, false⟩] ∧ s'.vals = s.vals := by
  unfold openS at e
  split at e
  · cases e
  · rename_i hn
    simp only [Bool.or_eq_true, Bool.not_eq_true', not_or, Bool.not_eq_false] at hn
    cases e
    obtain ⟨h, hr, hl, ht⟩ := (saneS_iff s).1 hn.1
    refine ⟨(saneS_iff _).2 ⟨s.vals.length, ?_, Int.le_refl _, ht⟩, rfl, rfl⟩
    rw [risesB_append, hr]
    simp only [risesB, hn.2, Bool.true_and]
    rw [if_pos (by simpa using hl)]
theorem closeS_ok {s s' : Stk} {c : Ctl} (e : closeS s = .ok (c, s')) : saneS s' = true ∧ s.ctrls.getLast? = some c ∧ s'.ctrls = s.ctrls.dropLast ∧ s'.vals <+: s.vals ∧ (s'.vals.length : Int) = c.ht ∧ finB c.fin = true := by
  unfold closeS at e
  cases ht : topC s with
  | error x => rw [ht] at e; cases e
  | ok d =>
    rw [ht] at e
    simp only at e
    cases hw : wantV d.ht d.dead d.fin.reverse s.vals with
    | error x => rw [hw] at e; cases e
    | ok v =>
      rw [hw] at e
      simp only at e
      split at e
      · cases e
      · rename_i hv
        cases e
        obtain ⟨h1, h2, h3, h4, _⟩ := topC_rises ht
        obtain ⟨a1, a2, a3⟩ := wantV_len hw h2 h3
        obtain ⟨m, hm, hle⟩ := risesB_dropLast h1
        simp only [ne_eq, Classical.not_not] at hv
        exact ⟨(saneS_iff _).2 ⟨m, hm, by simp only; omega, a2⟩, (topC_ok ht).2, rfl, a3, hv, h4⟩
theorem killS_ok {s s' : Stk} (e : killS s = .ok s') : saneS s' = true ∧ s'.ctrls.length = s.ctrls.length ∧ s'.vals <+: s.vals ∧
    ∃ c, s.ctrls.getLast? = some c ∧ s'.ctrls = s.ctrls.dropLast ++ [{ c with dead := true }] ∧ (s'.vals.length : Int) = c.ht := by
  unfold killS at e
  cases ht : topC s with
  | error x => rw [ht] at e; cases e
  | ok c =>
    rw [ht] at e
    cases e
    obtain ⟨h1, h2, h3, _, h5⟩ := topC_rises ht
    have hc := (topC_ok ht).2
    have hlen : ((s.vals.take c.ht.toNat).length : Int) = c.ht := by rw [List.length_take]; omega
    refine ⟨(saneS_iff _).2 ⟨c.ht, risesB_setLast h1 hc rfl rfl, by simp only; omega, typesB_take _ h3⟩, ?_, List.take_prefix _ _, c, hc, rfl, hlen⟩
    obtain ⟨ys, hy⟩ := List.getLast?_eq_some_iff.1 hc
    simp [hy]
end Go.Proofs.YtfpioigggjnffaaDoor.E

/- Chapter 10, plain: one instruction keeps a stack that may be, and opens or closes one thing at most. -/
set_option autoImplicit false
namespace Go.Proofs.YtfpioigggjnffaaDoor.E
open Go.Ev

/-- What work has kept: no error yet means a stack that may be, with so many things open. -/
def WOk (w : WkS) (n : Nat) : Prop := w.e = 0 → saneS w.s = true ∧ w.s.ctrls.length = n
theorem WOk.put {w : WkS} {n : Nat} {m : Nat} {r : Except Int Stk} (hr : ∀ s, r = .ok s → w.e = 0 → saneS s = true ∧ s.ctrls.length = m) (he : ∀ e, r = .error e → e ≠ 0) : WOk (w.put r) m := by
  intro h
  unfold WkS.put at h ⊢
  by_cases h0 : w.e ≠ 0
  · rw [if_pos h0] at h; exact absurd h h0
  · rw [if_neg h0] at h ⊢
    cases r with
    | ok s => exact hr s rfl (by simpa using h0)
    | error e => exact absurd h (he e rfl)
theorem popV_err {h : Int} {d : Bool} {v : List Int} {e : Int} (x : popV h d v = .error e) : e = 5 := by
  unfold popV at x; split at x
  · cases x
  · split at x
    · cases x
    · cases x; rfl
theorem wantV_err {h : Int} {d : Bool} {l v : List Int} {e : Int} (x : wantV h d l v = .error e) : e = 5 := by
  induction l generalizing v with
  | nil => cases x
  | cons t l ih =>
    simp only [wantV] at x
    cases hp : popV h d v with
    | error y => rw [hp] at x; cases x; exact popV_err hp
    | ok r =>
      rw [hp] at x
      simp only at x
      split at x
      · cases x; rfl
      · exact ih x
theorem topC_err {s : Stk} {e : Int} (x : topC s = .error e) : e = 1 ∨ e = 5 := by
  unfold topC at x; split at x
  · cases x; exact .inl rfl
  · split at x
    · cases x; exact .inr rfl
    · cases x
theorem wantS_err {s : Stk} {l : List Int} {e : Int} (x : wantS s l = .error e) : e = 1 ∨ e = 5 := by
  unfold wantS at x; split at x
  · cases x
  · cases ht : topC s with
    | error y => rw [ht] at x; cases x; exact topC_err ht
    | ok c =>
      rw [ht] at x
      simp only at x
      cases hw : wantV c.ht c.dead l.reverse s.vals with
      | error y => rw [hw] at x; cases x; exact .inr (wantV_err hw)
      | ok v => rw [hw] at x; cases x
theorem pushS_err {s : Stk} {l : List Int} {e : Int} (x : pushS s l = .error e) : e = 1 := by
  unfold pushS at x; split at x
  · cases x; rfl
  · cases x
theorem openS_err {s : Stk} {op : Int} {l : List Int} {e : Int} (x : openS s op l = .error e) : e = 1 := by
  unfold openS at x; split at x
  · cases x; rfl
  · cases x
theorem popS_err {s : Stk} {e : Int} (x : popS s = .error e) : e = 1 ∨ e = 5 := by
  unfold popS at x
  cases ht : topC s with
  | error y => rw [ht] at x; cases x; exact topC_err ht
  | ok c =>
    rw [ht] at x
    simp only at x
    cases hw : popV c.ht c.dead s.vals with
    | error y => rw [hw] at x; cases x; exact .inr (popV_err hw)
    | ok v => rw [hw] at x; cases x
theorem closeS_err {s : Stk} {e : Int} (x : closeS s = .error e) : e = 1 ∨ e = 5 := by
  unfold closeS at x
  cases ht : topC s with
  | error y => rw [ht] at x; cases x; exact topC_err ht
  | ok c =>
    rw [ht] at x
    simp only at x
    cases hw : wantV c.ht c.dead c.fin.reverse s.vals with
    | error y => rw [hw] at x; cases x; exact .inr (wantV_err hw)
    | ok v =>
      rw [hw] at x
      simp only at x
      split at x
      · cases x; exact .inr rfl
      · cases x
theorem killS_err {s : Stk} {e : Int} (x : killS s = .error e) : e = 1 ∨ e = 5 := by
  unfold killS at x
  cases ht : topC s with
  | error y => rw [ht] at x; cases x; exact topC_err ht
  | ok c => rw [ht] at x; cases x

theorem WOk.want {w : WkS} {n : Nat} (h : WOk w n) (l : List Int) : WOk (w.want l) n :=
  WOk.put (n := n) (fun s' e h0 => ⟨(wantS_ok e).1, by rw [(wantS_ok e).2.1]; exact (h h0).2⟩) (fun _ x => by have := wantS_err x; omega)
theorem WOk.push {w : WkS} {n : Nat} (h : WOk w n) (l : List Int) : WOk (w.push l) n :=
  WOk.put (n := n) (fun s' e h0 => ⟨(pushS_ok e).1, by rw [(pushS_ok e).2.1]; exact (h h0).2⟩) (fun _ x => by have := pushS_err x; omega)
theorem WOk.kill {w : WkS} {n : Nat} (h : WOk w n) : WOk w.kill n :=
  WOk.put (n := n) (fun s' e h0 => ⟨(killS_ok e).1, by rw [(killS_ok e).2.1]; exact (h h0).2⟩) (fun _ x => by have := killS_err x; omega)
theorem WOk.opens {w : WkS} {n : Nat} (h : WOk w n) (op : Int) (l : List Int) : WOk (w.opens op l) (n + 1) :=
  WOk.put (n := n) (fun s' e h0 => ⟨(openS_ok e).1, by rw [(openS_ok e).2.1, List.length_append]; have := (h h0).2; simp [this]⟩) (fun _ x => by have := openS_err x; omega)
theorem WOk.pop {w : WkS} {n : Nat} (h : WOk w n) : WOk w.pop.2 n := by
  unfold WkS.pop
  cases hp : popS w.s with
  | ok r => obtain ⟨t, s'⟩ := r; exact WOk.put (n := n) (fun s e h0 => by cases e; exact ⟨(popS_ok hp).1, by rw [(popS_ok hp).2.1]; exact (h h0).2⟩) (fun _ x => by cases x)
  | error e => exact WOk.put (n := n) (fun s x => by cases x) (fun e' x => by cases x; have := popS_err hp; omega)
theorem WOk.closed {w : WkS} {n : Nat} (h : WOk w (n + 1)) : WOk w.closed.2 n := by
  unfold WkS.closed
  cases hp : closeS w.s with
  | ok r =>
    obtain ⟨t, s'⟩ := r
    exact WOk.put (n := n) (fun s e h0 => by cases e; exact ⟨(closeS_ok hp).1, by rw [(closeS_ok hp).2.2.1, List.length_dropLast, (h h0).2]; rfl⟩) (fun _ x => by cases x)
  | error e => exact WOk.put (n := n) (fun s x => by cases x) (fun e' x => by cases x; have := closeS_err hp; omega)
theorem WOk.must {w : WkS} {n : Nat} (h : WOk w n) (b : Bool) (e : Int) : WOk (w.must b e) n := by
  unfold WkS.must
  split
  · rename_i hh
    simp only [Bool.and_eq_true, beq_iff_eq] at hh
    intro _; exact h hh.2
  · exact h
theorem WOk.label {w : WkS} {n : Nat} (h : WOk w n) (k : Int) : WOk (w.label k).2 n := by
  unfold WkS.label
  cases labelS w.s k with
  | ok l => exact h
  | error e => exact h.must _ _
theorem WOk.labels {w : WkS} {n : Nat} (h : WOk w n) (t l : List Int) : WOk (labelsS w t l) n := by
  induction l generalizing w with
  | nil => exact h
  | cons a l ih => exact ih ((h.label a).must _ _)

/-- how many are open behind an instruction, of so many ahead of it -/
def opensN (op : Int) (n : Nat) : Nat := if op = 2 ∨ op = 3 ∨ op = 4 then n + 1 else if op = 11 then n - 1 else n
theorem WOk.branch {env : TEnv} {w : WkS} {n : Nat} (h : WOk w n) (i : TInstr) : WOk (branchS env w i) n := by
  unfold branchS
  by_cases h15 : i.op = 15
  · rw [if_pos h15]; exact (h.want _).kill
  · rw [if_neg h15]
    have h1 := (h.label i.a).labels (w.label i.a).1 i.labels
    have h2 : WOk (if i.op = 12 then labelsS (w.label i.a).2 (w.label i.a).1 i.labels else (labelsS (w.label i.a).2 (w.label i.a).1 i.labels).want [127]) n := by
      split
      · exact h1
      · exact h1.want _
    simp only
    by_cases h13 : i.op = 13
    · rw [if_pos h13]; exact (h2.want _).push _
    · rw [if_neg h13]; exact (h2.want _).kill
theorem WOk.call {env : TEnv} {w : WkS} {n : Nat} (h : WOk w n) (i : TInstr) : WOk (callS env w i) n := by
  unfold callS
  simp only
  refine WOk.push (WOk.want ?_ _) _
  by_cases h17 : i.op = 17
  · rw [if_pos h17]; exact (h.must _ _).want _
  · rw [if_neg h17]; exact h.must _ _
theorem WOk.chosen {w : WkS} {n : Nat} (h : WOk w n) (i : TInstr) : WOk (chosenS w i) n := by
  unfold chosenS
  by_cases h26 : i.op = 26
  · rw [if_pos h26]; exact h.pop
  · rw [if_neg h26]; exact (((h.want _).pop.pop).must _ _).push _
theorem WOk.nested {w : WkS} {n : Nat} (h : WOk w (n + 1)) (i : TInstr) (hop : i.op = 2 ∨ i.op = 3 ∨ i.op = 4 ∨ i.op = 5 ∨ i.op = 11) : WOk (nestedS w i) (opensN i.op (n + 1)) := by
  unfold nestedS opensN
  by_cases h4 : i.op = 4
  · rw [if_pos h4, if_pos (by omega)]; exact (h.want _).opens _ _
  · rw [if_neg h4]
    by_cases h5 : i.op = 5
    · rw [if_pos h5, if_neg (by omega), if_neg (by omega)]; exact (h.must _ _).closed.opens _ _
    · rw [if_neg h5]
      by_cases h11 : i.op = 11
      · rw [if_pos h11, if_neg (by omega), if_pos h11]; exact ((h.must _ _).closed.must _ _).push _
      · rw [if_neg h11, if_pos (by omega)]; exact h.opens _ _
theorem WOk.vars {env : TEnv} {w : WkS} {n : Nat} (h : WOk w n) (i : TInstr) : WOk (variableS env w i) n := by
  unfold variableS
  simp only
  have key : ∀ r : Int × WkS, WOk r.2 n → WOk (if i.op = 32 ∨ i.op = 34 ∨ i.op = 35 then (if i.op ≠ 32 ∧ i.op ≠ 35 then r.2.want [r.1] else r.2).push [r.1] else (if i.op ≠ 32 ∧ i.op ≠ 35 then r.2.want [r.1] else r.2)) n := fun r hr => by
    have h1 : WOk (if i.op ≠ 32 ∧ i.op ≠ 35 then r.2.want [r.1] else r.2) n := by
      split
      · exact hr.want _
      · exact hr
    split
    · exact h1.push _
    · exact h1
  refine key _ ?_
  split
  · cases env.locs[i.a.toNat]? with
    | some t => exact h
    | none => exact h.must _ _
  · cases env.globals[i.a.toNat]? with
    | some t => exact h.must _ _
    | none => exact h.must _ _
theorem WOk.mem {acc : Int → Int × Int × Bool} {env : TEnv} {w : WkS} {n : Nat} (h : WOk w n) (i : TInstr) : WOk (memoryS acc env w i) n := by
  unfold memoryS
  simp only
  by_cases h63 : i.op = 63
  · rw [if_pos h63]; exact (h.must _ _).push _
  · rw [if_neg h63]
    by_cases h64 : i.op = 64
    · rw [if_pos h64]; exact ((h.must _ _).want _).push _
    · rw [if_neg h64]
      split
      · exact ((h.must _ _).must _ _).want _
      · exact (((h.must _ _).must _ _).want _).push _
end Go.Proofs.YtfpioigggjnffaaDoor.E
