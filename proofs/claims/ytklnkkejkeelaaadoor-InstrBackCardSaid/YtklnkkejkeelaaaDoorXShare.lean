import Derived.Test.YtklnkkejkeelaaaDoorXOpen
import Derived.Test.YtklnkkejkeelaaaDoorWMore
/- WHAT CAME IN, SHARED: that a row is of its kind is said of the heap alone; so it is what the print's shared rows ask. -/
namespace Go.Proofs.YtklnkkejkeelaaaDoor.X
open Go.RowKit Go.Proofs.YtklnkkejkeelaaaDoorW.PrintWords

/-- What is of kind d is said of the heap alone. -/
def HO {α : Type} (d : Kd α) : Prop := ∀ (w w1 : World) (x : α) (cs : List Value), w1.heap = w.heap → d.K w x cs → d.K w1 x cs
theorem HO_int {k : IntKind} : HO (Kd.int k) := fun _ _ _ _ _ h => h
theorem HO_bool : HO Kd.bool := fun _ _ _ _ _ h => h
theorem HO_string : HO Kd.string := fun _ _ _ _ _ h => h
theorem HO_pair {α β : Type} {a : Kd α} {b : Kd β} (ha : HO a) (hb : HO b) : HO (Kd.pair a b) := by
  rintro w w1 x cs hh ⟨c0, c1, rfl, h0, h1⟩
  exact ⟨c0, c1, rfl, ha _ _ _ _ hh h0, hb _ _ _ _ hh h1⟩
theorem HO_iso {α β : Type} {d : Kd α} {f : β → α} (h : HO d) : HO (Kd.iso d f) := fun w w1 x cs hh hK => h w w1 (f x) cs hh hK
theorem cell_heap {w w1 : World} (h : w1.heap = w.heap) (a : Addr) : w1.cell? a = w.cell? a := by
  unfold World.cell?
  rw [h]
theorem HO_C {α : Type} {d : Kd α} (hd : HO d) {w w1 : World} {A : Option Addr} {n : Nat} {xs : List α} (hh : w1.heap = w.heap) (h : d.C w A n xs) : d.C w1 A n xs := by
  obtain ⟨h1, h2, h3⟩ := h
  refine ⟨h1, h2, fun hn => ?_⟩
  obtain ⟨ad, e, h4⟩ := h3 hn
  refine ⟨ad, e, fun j p hj => ?_⟩
  obtain ⟨c, h5, h6, h7⟩ := h4 j p hj
  exact ⟨c, h5, hd _ _ _ _ hh h6, fun i u hu => (cell_heap hh _).trans (h7 i u hu)⟩
theorem HO_slice {α : Type} {e : Nat} {d : Kd α} (hd : HO d) : HO (Kd.slice e d) := by
  rintro w w1 x cs hh ⟨A, c, rfl, hl, hr⟩
  exact ⟨A, c, rfl, hl, HO_C hd hh hr⟩
theorem V_of_C {α : Type} {d : Kd α} (hd : HO d) {w : World} {e base : Nat} {A : Option Addr} {c : Nat} {xs : List α} (h : d.C w A xs.length xs) (hc : xs.length ≤ c) : Kd.V d e w base (fun _ => True) (.slice A xs.length c) xs := by
  refine Kd.V_mk hc fun W' hW => ?_
  have hsz : w.heap.size ≤ W'.heap.size := by
    rcases Nat.eq_zero_or_pos w.heap.size with h0 | h0
    · omega
    · have := heap_lt (hW (w.heap.size - 1) trivial (by omega)) (by omega)
      omega
  have hb : Below w.heap.size w { w with heap := W'.heap } := ⟨rfl, rfl, rfl, hsz, fun k hk => hW k trivial hk⟩
  exact HO_C hd (w := { w with heap := W'.heap }) rfl (Kd.C_below h hb)
end Go.Proofs.YtklnkkejkeelaaaDoor.X
