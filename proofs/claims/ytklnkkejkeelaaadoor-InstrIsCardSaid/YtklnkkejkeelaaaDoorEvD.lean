/- The structs of this seat, as Lean's: printed by mkD.py, a tool of this work. -/
import Derived.Test.YtklnkkejkeelaaaDoorEvR
import Derived.Test.YtklnkkejkeelaaaDoorEvP
set_option linter.unnecessarySimpa false
set_option linter.unusedSimpArgs false
set_option linter.unusedVariables false
set_option autoImplicit false
namespace Go.Proofs.YtklnkkejkeelaaaDoor.E
open Go.Ev
structure TInstr where
  op : Int
  a : Int
  b : Int
  k : Int
  labels : (List Int)
def TInstr.C : Cd TInstr := Cd.st (Cd.pair (Cd.int .i64) (Cd.pair (Cd.int .i64) (Cd.pair (Cd.int .i64) (Cd.pair (Cd.int .u64) (Cd.list (Cd.int .i64)))))) (fun x => (x.op, x.a, x.b, x.k, x.labels))
def TInstr.d (x : TInstr) : D := .agg [.int .i64 x.op, .int .i64 x.a, .int .i64 x.b, .int .u64 x.k, .list (x.labels.map (D.int .i64))]
theorem TInstr.dC : TInstr.C.d = TInstr.d := rfl
def TInstr.ok (x : TInstr) : Prop := rng .i64 x.op ∧ rng .i64 x.a ∧ rng .i64 x.b ∧ rng .u64 x.k ∧ (x.labels.length ≤ maxLen ∧ ∀ z ∈ x.labels, rng .i64 z)
theorem TInstr.reads : Reads Tryd.prog 33 TInstr.C TInstr.ok := by
  intro H enc w base spare held fuel cs y h
  obtain ⟨x, h1, h2⟩ := reads_struct (fun x : TInstr => (x.op, x.a, x.b, x.k, x.labels)) (fun p => (⟨p.1, p.2.1, p.2.2.1, p.2.2.2.1, p.2.2.2.2⟩ : TInstr)) (fun _ => rfl) Tryd.underlying33 (by kernel_rfl) (readsF_cons 0 rfl (by kernel_rfl) (reads_int Tryd.underlying3) (readsF_cons 1 rfl (by kernel_rfl) (reads_int Tryd.underlying3) (readsF_cons 2 rfl (by kernel_rfl) (reads_int Tryd.underlying3) (readsF_cons 3 rfl (by kernel_rfl) (reads_int Tryd.underlying31) (readsF_last 4 rfl (by kernel_rfl) (reads_slice Tryd.underlying28 (by kernel_rfl) (by decide) (reads_int Tryd.underlying3))))))) H enc w base spare held fuel cs y h
  exact ⟨x, h1, h2⟩
end Go.Proofs.YtklnkkejkeelaaaDoor.E
