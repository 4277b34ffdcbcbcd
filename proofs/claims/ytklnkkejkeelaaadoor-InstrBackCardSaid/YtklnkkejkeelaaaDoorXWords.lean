import Derived.Test.YtklnkkejkeelaaaDoorProg
import Derived.Below
import Derived.Deep.Draws
import Derived.Laws.Rows
import Derived.WalkSpells
import Derived.Test.YtklnkkejkeelaaaDoorWWords
import Derived.Test.YtklnkkejkeelaaaDoorWMore
/- WORDS OF THIS WORK: what the two tables of package instr hold, and that nothing which is made behind them turns it. -/
namespace Go.Proofs.YtklnkkejkeelaaaDoor.X
open Go.RowKit Go.Proofs.YtklnkkejkeelaaaDoorW.PrintWords

/-- The table 'spans': from, to, kind. -/
def spansL : List (Int × Int × Int) := [(0, 1, 1), (2, 4, 2), (5, 5, 1), (11, 11, 1), (12, 13, 3), (14, 14, 4), (15, 15, 1), (16, 16, 3), (17, 17, 5), (26, 27, 1), (32, 36, 3), (40, 41, 6), (44, 55, 6), (58, 62, 6), (63, 64, 7), (65, 65, 8), (66, 66, 9), (69, 90, 1), (103, 138, 1), (167, 167, 1), (172, 173, 1)]
def spansC : List Value := spansL.flatMap fun p => [.int .i64 p.1, .int .i64 p.2.1, .int .i64 p.2.2]
/-- The table 'rows': value, size, sign, store. -/
def rowsL : List (Int × Int × Bool × Bool) := [(127, 4, false, false), (126, 8, false, false), (0, 0, false, false), (0, 0, false, false), (127, 1, true, false), (127, 1, false, false), (127, 2, true, false), (127, 2, false, false), (126, 1, true, false), (126, 1, false, false), (126, 2, true, false), (126, 2, false, false), (126, 4, true, false), (126, 4, false, false), (127, 4, false, true), (126, 8, false, true), (0, 0, false, false), (0, 0, false, false), (127, 1, false, true), (127, 2, false, true), (126, 1, false, true), (126, 2, false, true), (126, 4, false, true)]
def rowsC : List Value := rowsL.flatMap fun p => [.int .u8 p.1, .int .i64 p.2.1, .bool p.2.2.1, .bool p.2.2.2]
/-- The variable of block g holds these cells. -/
def Held (g : Nat) (cs : List Value) (w : World) : Prop := ∃ t fr, w.heap[g]? = some (.cells cs.toArray t fr)
theorem Held.lt {g : Nat} {cs : List Value} {w : World} (h : Held g cs w) : g < w.heap.size := by
  obtain ⟨t, fr, h⟩ := h
  exact (Array.getElem?_eq_some_iff.1 h).1
theorem Held.below {g : Nat} {cs : List Value} {w w1 : World} (h : Held g cs w) (hb : Below w.heap.size w w1) : Held g cs w1 := by
  have hl := h.lt
  obtain ⟨t, fr, h⟩ := h
  exact ⟨t, fr, (hb.block g hl).trans h⟩
theorem Held.cell {g : Nat} {cs : List Value} {w : World} (h : Held g cs w) (i : Nat) (v : Value) (hv : cs[i]? = some v) : w.cell? ⟨g, i, none⟩ = some v := by
  obtain ⟨t, fr, h⟩ := h
  simpa [World.cell?, h] using hv
def Glob (w : World) : Prop := Held 0 spansC w
theorem Glob.below {w w1 : World} (h : Glob w) (hb : Below w.heap.size w w1) : Glob w1 := Held.below h hb
theorem Glob.drewN {w : World} (h : Glob w) (n : Nat) : Glob (w.drewN n) := h
theorem Glob.drew {w : World} (h : Glob w) : Glob w.drew := h
theorem Glob.alloc {w : World} (h : Glob w) (o : Obj) : Glob (w.alloc o) := h.below (below_alloc (Below.refl _ _) o)
def GlobR (w : World) : Prop := Held 1 rowsC w
theorem GlobR.below {w w1 : World} (h : GlobR w) (hb : Below w.heap.size w w1) : GlobR w1 := Held.below h hb
theorem GlobR.drewN {w : World} (h : GlobR w) (n : Nat) : GlobR (w.drewN n) := h
theorem GlobR.drew {w : World} (h : GlobR w) : GlobR w.drew := h
theorem GlobR.alloc {w : World} (h : GlobR w) (o : Obj) : GlobR (w.alloc o) := h.below (below_alloc (Below.refl _ _) o)
/- What a printed proof shows again and again: the proof is found where the name stands, among the facts of that place (HB, HK). -/
theorem bl {B : Nat} {w W : World} (h : Below B w W := by repeat (first | (with_reducible first | exact HB.out | apply below_alloc | apply pw_below_drewN | apply below_drew1) | exact HB.out)) : Below B w W := h
theorem kl {w W : World} {g : Nat} (h : KeepBut w W g none := by repeat (first | (with_reducible first | exact HK.out | apply KeepBut.set_ | apply keep_drewN | apply keep_drew | apply keep_alloc) | exact HK.out)) : KeepBut w W g none := h
theorem asm {p : Prop} (h : p := by first | (with_reducible assumption) | assumption) : p := h
theorem am {p : Prop} (h : p := by (try simp only [List.map_toArray, List.map_cons, List.map_nil]); first | done | rfl | (simp only [List.length_drop, List.length_take]; rfl)) : p := h
theorem rs {p : Prop} (h : p := by first | rfl | (simp; done) | (simp [*]; done)) : p := h
theorem er {p : Prop} (h : p := by first | rfl | (simp [errW_none, errW_some] <;> rfl) | (simp [*, errW_none, errW_some] <;> rfl)) : p := h
theorem blx {B : Nat} {w W : World} (h : Below B w W := by repeat (first | (with_reducible first | exact HB.out | apply below_alloc | apply pw_below_drewN | apply below_drew1 | refine below_set ?_ (Aside0.out (by assumption))) | exact HB.out)) : Below B w W := h
theorem blg {B g : Nat} {w W : World} (hg : B ≤ g) (h : B ≤ g → Below B w W := by intro HGE_; repeat (first | (with_reducible first | exact HB.out | apply below_alloc | apply pw_below_drewN | apply below_drew1 | refine below_set ?_ HGE_ | refine below_set ?_ (Aside0.out (by assumption))) | exact HB.out)) : Below B w W := h hg
theorem bk {w W : World} {g : Nat} {o : Obj} (h : Aside0 (w.heap[g]? = some o)) (k : w.heap[g]? = some o → W.heap[g]? = some o := by intro h_; (with_reducible repeat (first | refine blk_drewN ?_ _ | refine blk_drew ?_ | refine blk_alloc ?_ _)); exact h_) : W.heap[g]? = some o := k h.out
theorem ca {α : Type} {d : Kd α} {w W W1 : World} {A : Option Addr} {n : Nat} {xs : List α} (h : Aside0 (d.C w A n xs)) (hb : Aside0 (Below w.heap.size w W)) (k : d.C W A n xs → d.C W1 A n xs := by intro h_; repeat (first | exact h_ | (with_reducible refine Kd.C_alloc ?_ _) | (with_reducible refine Kd.C_drewN ?_ _) | (with_reducible refine Kd.C_drew ?_))) : d.C W1 A n xs := k (Kd.C_below h.out hb.out)
theorem ra {α : Type} {d : Kd α} {e base : Nat} {ok : Nat → Prop} {v : Value} {xs : List α} {w W : World} (h : Aside0 (d.R e w base ok v xs)) (k : d.R e w base ok v xs → d.R e W base ok v xs := by intro h_; (with_reducible repeat (first | apply Kd.R_alloc | apply Kd.R_drewN | apply Kd.R_drew)); exact h_) : d.R e W base ok v xs := k h.out
theorem cells5 {w : World} {g : Nat} {t : TypeId} {a b c d e : Value} (h : w.heap[g]? = some (.cells #[a, b, c, d, e] t (0, 0))) : w.cell? ⟨g, 0, none⟩ = some a ∧ w.cell? ⟨g, 1, none⟩ = some b ∧ w.cell? ⟨g, 2, none⟩ = some c ∧ w.cell? ⟨g, 3, none⟩ = some d ∧ w.cell? ⟨g, 4, none⟩ = some e := ⟨(blk_cell h 0).trans rfl, (blk_cell h 1).trans rfl, (blk_cell h 2).trans rfl, (blk_cell h 3).trans rfl, (blk_cell h 4).trans rfl⟩
theorem froz5 {w : World} {g : Nat} {t : TypeId} {cs : Array Value} (h : w.heap[g]? = some (.cells cs t (0, 0))) : w.frozen? ⟨g, 0, none⟩ = false ∧ w.frozen? ⟨g, 1, none⟩ = false ∧ w.frozen? ⟨g, 2, none⟩ = false ∧ w.frozen? ⟨g, 3, none⟩ = false ∧ w.frozen? ⟨g, 4, none⟩ = false := ⟨blk_frozen h 0, blk_frozen h 1, blk_frozen h 2, blk_frozen h 3, blk_frozen h 4⟩
theorem ret_int {k : IntKind} {a b : Int} (h : a = b) : Ending.returned (.int k a) = .returned (.int k b) := by rw [h]
end Go.Proofs.YtklnkkejkeelaaaDoor.X
