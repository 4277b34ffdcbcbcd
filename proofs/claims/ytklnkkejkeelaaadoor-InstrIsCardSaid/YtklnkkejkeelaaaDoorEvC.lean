/- bytes.Clone: the one function that asks a slice whether it is nil. -/
import Derived.Test.YtklnkkejkeelaaaDoorEvP
import Derived.Test.YtklnkkejkeelaaaDoorEvM
set_option linter.unnecessarySimpa false
set_option linter.unusedSimpArgs false
set_option linter.unusedVariables false
set_option autoImplicit false
set_option maxRecDepth 100000
set_option maxHeartbeats 4000000
set_option linter.unusedSimpArgs false
set_option linter.unusedVariables false
namespace Go.Proofs.YtklnkkejkeelaaaDoor.E
open Go.Ev
theorem clone_is (fu : Nat) : IsClone (G0 fu) 57 Tryd.f57 := by
  refine ⟨by rw [G0P]; exact Tryd.func57, by decide, ?_⟩
  refine ⟨_, _, _, 1, 4, _, _, _, _, _, 5, 1, ⟨[(2, .nilsl), (0, .d (.list []))], []⟩, ⟨[(3, .d (.list [])), (2, .nilsl), (0, .d (.list []))], []⟩, ⟨[(4, .d (.bool true)), (3, .d (.list [])), (2, .nilsl), (0, .d (.list []))], []⟩,
    ⟨[(7, .row 384 1 0 0), (6, .d (.list [])), (5, .row 384 0 0 0), (4, .d (.bool false)), (3, .d (.list [])), (2, .row 384 1 0 0), (0, .d (.list []))], [(384, .row 1 [] 1 false true)]⟩, ⟨[], [], 0⟩, _, rfl, by unfold Tryd.f57; rfl, ?_, ?_, ?_, rfl, rfl, by decide, rfl, ?_, ?_, ?_, ?_, ?_, ?_, rfl⟩
  case refine_3 => intro d h; cases h; decide
  all_goals simp only [go_sem, Nat.reduceAdd, Nat.reduceMul, Nat.reduceSub, Nat.reduceLT, Nat.reduceLeDiff, Nat.reduceEqDiff, Nat.reduceBEq, Nat.reduceBeqDiff, Int.reduceEq, Int.reduceLT, Int.reduceLE, Int.reduceToNat, Int.reduceNeg, Int.reduceAdd, Int.reduceSub, Int.reduceMul, reduceIte, reduceCtorEq, Nat.reducePow, Nat.reduceDiv, Nat.reduceMod, Int.reduceBEq, and_self, and_true, true_and, and_false, false_and, or_true, true_or, or_false, false_or, Int.natCast_nonneg, Int.toNat_natCast, not_true_eq_false, not_false_eq_true, List.size_toArray, Array.size_empty, List.getElem?_nil, step, Tryd.f57]
theorem Ghext (hm : Tryd.prog.follows .mixedOrders = true) (fu : Nat) (f : FuncId) (x : List V → List Go.Ev.Obj → Option Res) (h : (G fu).ext f = some x) : FnOk Tryd.prog globs f x := by
  rw [Gext] at h
  by_cases e : f = 57
  · subst e
    rw [exts_is] at h
    obtain rfl := Option.some.inj h
    exact clone_ok (g := G0 fu) hm (clone_is fu)
  · rw [exts_no fu e] at h
    cases h
abbrev byt (l : List Int) : List D := l.map (D.int .u8)
theorem byt_len (l : List Int) : (byt l).length = l.length := List.length_map ..
theorem byt_sized (l : List Int) : sizedAll 1 (byt l) = true := sizedAll_map (fun x => ⟨_, rfl⟩) l
theorem clone_ev (fu n : Nat) (l : List Int) (h : l.length ≤ 1099511627776) : evF (G fu) (n+1) 57 [.d (.list (byt l))] [] = some (.row 0 0 0 l.length, [.row 1 (byt l) 0 false false]) := by
  rw [evF.eq_2, evX.eq_def, Gext, exts_is]
  cases l with
  | nil => rfl
  | cons x l =>
    have hs := byt_sized (x :: l)
    have hl := byt_len (x :: l)
    simp only [byt, List.map_cons] at hs hl ⊢
    simp only [cloneX, G0P, Tryd.func57]
    simp only [Tryd.f57, evB]
    have h' : l.length ≤ 1099511627775 := by simp at h; omega
    simp only [go_sem, Nat.reduceAdd, Nat.reduceMul, Nat.reduceSub, Nat.reduceLT, Nat.reduceLeDiff, Nat.reduceEqDiff, Nat.reduceBEq, Nat.reduceBeqDiff, Int.reduceEq, Int.reduceLT, Int.reduceLE, Int.reduceToNat, Int.reduceNeg, Int.reduceAdd, Int.reduceSub, Int.reduceMul, reduceIte, reduceCtorEq, Nat.reducePow, Nat.reduceDiv, Nat.reduceMod, Int.reduceBEq, and_self, and_true, true_and, and_false, false_and, or_true, true_or, or_false, false_or, Int.natCast_nonneg, Int.toNat_natCast, not_true_eq_false, not_false_eq_true, List.size_toArray, Array.size_empty, List.getElem?_nil, hs, hl, h, h']
end Go.Proofs.YtklnkkejkeelaaaDoor.E
