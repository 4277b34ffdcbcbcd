/- EvD, EvM, EvC, EvI. -/
import Derived.Test.YtklnkkejkeelaaaDoorEvR
import Derived.Test.YtklnkkejkeelaaaDoorETi
import Derived.Test.YtklnkkejkeelaaaDoorEvT
set_option linter.unnecessarySimpa false
set_option linter.unusedSimpArgs false
set_option linter.unusedVariables false
/- The structs of this seat, as Lean's: printed by mkD.py, a tool of this work. -/
set_option autoImplicit false
namespace Go.Proofs.YtklnkkejkeelaaaDoor.E
open Go.Ev
structure TInstr where
  op : Int
  a : Int
  b : Int
  k : Int
  labels : (List Int)
def TInstr.C : Cd TInstr := Cd.st (Cd.pair (Cd.int .i64) (Cd.pair (Cd.int .i64) (Cd.pair (Cd.int .i64) (Cd.pair (Cd.int .u64) (Cd.list (Cd.int .i64)))))) (fun x => (x.op, x.a, x.b, x.k, x.labels))
def TInstr.d (x : TInstr) : D := .agg [.int .i64 x.op, .int .i64 x.a, .int .i64 x.b, .int .u64 x.k, .list (x.labels.map (D.int .i64))]
theorem TInstr.dC : TInstr.C.d = TInstr.d := rfl
def TInstr.ok (x : TInstr) : Prop := rng .i64 x.op ∧ rng .i64 x.a ∧ rng .i64 x.b ∧ rng .u64 x.k ∧ (x.labels.length ≤ maxLen ∧ ∀ z ∈ x.labels, rng .i64 z)
theorem TInstr.reads : Reads Tryd.prog 33 TInstr.C TInstr.ok := by
  intro H enc w base spare held fuel cs y h
  obtain ⟨x, h1, h2⟩ := reads_struct (fun x : TInstr => (x.op, x.a, x.b, x.k, x.labels)) (fun p => (⟨p.1, p.2.1, p.2.2.1, p.2.2.2.1, p.2.2.2.2⟩ : TInstr)) (fun _ => rfl) Tryd.underlying33 (by kernel_rfl) (readsF_cons 0 rfl (by kernel_rfl) (reads_int Tryd.underlying3) (readsF_cons 1 rfl (by kernel_rfl) (reads_int Tryd.underlying3) (readsF_cons 2 rfl (by kernel_rfl) (reads_int Tryd.underlying3) (readsF_cons 3 rfl (by kernel_rfl) (reads_int Tryd.underlying31) (readsF_last 4 rfl (by kernel_rfl) (reads_slice Tryd.underlying28 (by kernel_rfl) (by decide) (reads_int Tryd.underlying3))))))) H enc w base spare held fuel cs y h
  exact ⟨x, h1, h2⟩
end Go.Proofs.YtklnkkejkeelaaaDoor.E

/- Laws on numbers' digits. -/
set_option autoImplicit false
set_option linter.unusedSimpArgs false
namespace Go.Ev
theorem ofInt_toNat {w : Nat} {x : Int} (h0 : 0 ≤ x) (h1 : x < 2 ^ w) : (BitVec.ofInt w x).toNat = x.toNat := by
  rw [BitVec.toNat_ofInt]
  congr 1
  exact Int.emod_eq_of_lt h0 (by exact_mod_cast h1)
theorem and_lt64 (a b : Nat) (h : a < 2 ^ 64) : a &&& b < 2 ^ 64 := Nat.lt_of_le_of_lt Nat.and_le_left h
theorem bits_and_u64 {x y : Int} (hx : 0 ≤ x) (hx' : x < 18446744073709551616) (hy : 0 ≤ y) (hy' : y < 18446744073709551616) : bits2 .and .u64 x y = ((x.toNat &&& y.toNat : Nat) : Int) := by
  show IntKind.wrap .u64 ((BitVec.ofInt 64 x &&& BitVec.ofInt 64 y).toNat : Int) = _
  rw [BitVec.toNat_and, ofInt_toNat hx (by simpa using hx'), ofInt_toNat hy (by simpa using hy'), wrap_u64 (by omega)]
  have := and_lt64 x.toNat y.toNat (by omega)
  omega
theorem and_mask32 {x : Int} (hx : 0 ≤ x) (hx' : x < 18446744073709551616) : bits2 .and .u64 x 4294967295 = x % 4294967296 := by
  rw [bits_and_u64 hx hx' (by omega) (by omega)]
  have : x.toNat &&& (4294967295 : Int).toNat = x.toNat % 2 ^ 32 := Nat.and_two_pow_sub_one_eq_mod x.toNat 32
  rw [this]
  omega
theorem shr_u64 {x : Int} (n : Nat) (hn : n ≤ 64) : shr .u64 x n = x / (2 ^ n : Int) := by
  simp only [shr, IntKind.bits, Int.toNat_natCast, Nat.min_eq_left hn]
  rw [Int.fdiv_eq_ediv_of_nonneg _ (by exact Int.le_of_lt (Int.pow_pos (by decide)))]
theorem shr32 {x : Int} : shr .u64 x 32 = x / 4294967296 := shr_u64 32 (by decide)
theorem sizedAll_of {sz : Nat} : ∀ {xs : List D}, (∀ x ∈ xs, ∃ cs, cellsOkD sz x = some cs) → sizedAll sz xs = true
  | [], _ => rfl
  | x :: xs, h => by
    obtain ⟨cs, hc⟩ := h x (by simp)
    simp only [sizedAll, hc, Bool.true_and]
    exact sizedAll_of (fun y hy => h y (by simp [hy]))
theorem sizedAll_map {α : Type} {sz : Nat} {f : α → D} (h : ∀ a, ∃ cs, cellsOkD sz (f a) = some cs) (xs : List α) : sizedAll sz (xs.map f) = true := sizedAll_of fun x hx => by
  obtain ⟨a, _, rfl⟩ := List.mem_map.1 hx
  exact h a
theorem sizedAll_rep {sz n : Nat} {x : D} {cs : List D} (h : cellsOkD sz x = some cs) : sizedAll sz (List.replicate n x) = true := sizedAll_of fun y hy => by
  rw [List.eq_of_mem_replicate hy]
  exact ⟨cs, h⟩
theorem and_low_i64 {x : Int} {n : Nat} (hn : n ≤ 62) : bits2 .and .i64 x (2 ^ n - 1 : Nat) = x % (2 ^ n : Nat) := by
  show IntKind.wrap .i64 ((BitVec.ofInt 64 x &&& BitVec.ofInt 64 ((2 ^ n - 1 : Nat) : Int)).toNat : Int) = _
  have hp : 2 ^ n ≤ 2 ^ 62 := Nat.pow_le_pow_right (by decide) hn
  have hp0 : 0 < 2 ^ n := Nat.pow_pos (by decide)
  have h1 : (BitVec.ofInt 64 ((2 ^ n - 1 : Nat) : Int)).toNat = 2 ^ n - 1 := by
    rw [ofInt_toNat (by omega) (by omega)]; omega
  rw [BitVec.toNat_and, h1, Nat.and_two_pow_sub_one_eq_mod, BitVec.toNat_ofInt]
  have h2 : ((x % ((2 ^ 64 : Nat) : Int)).toNat % 2 ^ n : Nat) = ((x % ((2 ^ n : Nat) : Int)).toNat) := by
    have hd : ((2 ^ n : Nat) : Int) ∣ ((2 ^ 64 : Nat) : Int) := by exact_mod_cast Nat.pow_dvd_pow 2 (by omega)
    have h3 : ((x % ((2 ^ 64 : Nat) : Int)) % ((2 ^ n : Nat) : Int)) = x % ((2 ^ n : Nat) : Int) := Int.emod_emod_of_dvd x hd
    have h4 : 0 ≤ x % ((2 ^ 64 : Nat) : Int) := Int.emod_nonneg _ (by decide)
    rw [← h3]
    generalize x % ((2 ^ 64 : Nat) : Int) = y at h4
    obtain ⟨m, rfl⟩ := Int.eq_ofNat_of_zero_le h4
    rw [Int.toNat_natCast, ← Int.natCast_emod, Int.toNat_natCast]
  rw [h2]
  have h5 : 0 ≤ x % ((2 ^ n : Nat) : Int) := Int.emod_nonneg _ (by omega)
  have h6 : x % ((2 ^ n : Nat) : Int) < ((2 ^ n : Nat) : Int) := Int.emod_lt_of_pos _ (by omega)
  rw [wrap_i64 (by omega) (by omega)]
  omega
theorem and_ffff {x : Int} : bits2 .and .i64 x 65535 = x % 65536 := and_low_i64 (x := x) (n := 16) (by decide)
theorem and_63 {x : Int} : bits2 .and .i64 x 63 = x % 64 := and_low_i64 (x := x) (n := 6) (by decide)
theorem bne_tt : (true != true) = false := rfl
theorem bne_ff : (false != false) = false := rfl
theorem bne_tf : (true != false) = true := rfl
theorem bne_ft : (false != true) = true := rfl
attribute [go_sem] bne_tt bne_ff bne_tf bne_ft
end Go.Ev

/- bytes.Clone: the one function that asks a slice whether it is nil. -/
set_option autoImplicit false
set_option maxRecDepth 100000
set_option maxHeartbeats 4000000
set_option linter.unusedSimpArgs false
set_option linter.unusedVariables false
namespace Go.Proofs.YtklnkkejkeelaaaDoor.E
open Go.Ev
theorem clone_is (fu : Nat) : IsClone (G0 fu) 57 Tryd.f57 := by
  refine ⟨by rw [G0P]; exact Tryd.func57, by decide, ?_⟩
  refine ⟨_, _, _, 1, 4, _, _, _, _, _, 5, 1, ⟨[(2, .nilsl), (0, .d (.list []))], []⟩, ⟨[(3, .d (.list [])), (2, .nilsl), (0, .d (.list []))], []⟩, ⟨[(4, .d (.bool true)), (3, .d (.list [])), (2, .nilsl), (0, .d (.list []))], []⟩,
    ⟨[(7, .row 384 1 0 0), (6, .d (.list [])), (5, .row 384 0 0 0), (4, .d (.bool false)), (3, .d (.list [])), (2, .row 384 1 0 0), (0, .d (.list []))], [(384, .row 1 [] 1 false true)]⟩, ⟨[], [], 0⟩, _, rfl, by unfold Tryd.f57; rfl, ?_, ?_, ?_, rfl, rfl, by decide, rfl, ?_, ?_, ?_, ?_, ?_, ?_, rfl⟩
  case refine_3 => intro d h; cases h; decide
  all_goals simp only [go_sem, Nat.reduceAdd, Nat.reduceMul, Nat.reduceSub, Nat.reduceLT, Nat.reduceLeDiff, Nat.reduceEqDiff, Nat.reduceBEq, Nat.reduceBeqDiff, Int.reduceEq, Int.reduceLT, Int.reduceLE, Int.reduceToNat, Int.reduceNeg, Int.reduceAdd, Int.reduceSub, Int.reduceMul, reduceIte, reduceCtorEq, Nat.reducePow, Nat.reduceDiv, Nat.reduceMod, Int.reduceBEq, step, Tryd.f57]
theorem Ghext (hm : Tryd.prog.follows .mixedOrders = true) (fu : Nat) (f : FuncId) (x : List V → List Go.Ev.Obj → Option Res) (h : (G fu).ext f = some x) : FnOk Tryd.prog globs f x := by
  rw [Gext] at h
  by_cases e : f = 57
  · subst e
    rw [exts_is] at h
    obtain rfl := Option.some.inj h
    exact clone_ok (g := G0 fu) hm (clone_is fu)
  · rw [exts_no fu e] at h
    cases h
abbrev byt (l : List Int) : List D := l.map (D.int .u8)
theorem byt_len (l : List Int) : (byt l).length = l.length := List.length_map ..
theorem byt_sized (l : List Int) : sizedAll 1 (byt l) = true := sizedAll_map (fun x => ⟨_, rfl⟩) l
theorem clone_ev (fu n : Nat) (l : List Int) (h : l.length ≤ 1099511627776) : evF (G fu) (n+1) 57 [.d (.list (byt l))] [] = some (.row 0 0 0 l.length, [.row 1 (byt l) 0 false false]) := by
  rw [evF.eq_2, evX.eq_def, Gext, exts_is]
  cases l with
  | nil => rfl
  | cons x l =>
    have hs := byt_sized (x :: l)
    have hl := byt_len (x :: l)
    simp only [byt, List.map_cons] at hs hl ⊢
    simp only [cloneX, G0P, Tryd.func57]
    simp only [Tryd.f57, evB]
    have h' : l.length ≤ 1099511627775 := by simp at h; omega
    simp only [go_sem, Nat.reduceAdd, Nat.reduceMul, Nat.reduceSub, Nat.reduceLT, Nat.reduceLeDiff, Nat.reduceEqDiff, Nat.reduceBEq, Nat.reduceBeqDiff, Int.reduceEq, Int.reduceLT, Int.reduceLE, Int.reduceToNat, Int.reduceNeg, Int.reduceAdd, Int.reduceSub, Int.reduceMul, reduceIte, reduceCtorEq, Nat.reducePow, Nat.reduceDiv, Nat.reduceMod, Int.reduceBEq, hs, hl, h, h']
end Go.Proofs.YtklnkkejkeelaaaDoor.E

/- Instructions are told apart. -/
set_option autoImplicit false
namespace Go.Proofs.YtklnkkejkeelaaaDoor.E
open Go.Ev
theorem TInstr.ext_iff (x y : TInstr) : (x.op = y.op ∧ x.a = y.a ∧ x.b = y.b ∧ x.k = y.k ∧ x.labels = y.labels) ↔ x = y := by
  constructor
  · cases x; cases y
    simp only
    rintro ⟨rfl, rfl, rfl, rfl, rfl⟩
    rfl
  · rintro rfl
    exact ⟨rfl, rfl, rfl, rfl, rfl⟩
instance : DecidableEq TInstr := fun x y => decidable_of_iff _ (TInstr.ext_iff x y)
end Go.Proofs.YtklnkkejkeelaaaDoor.E
