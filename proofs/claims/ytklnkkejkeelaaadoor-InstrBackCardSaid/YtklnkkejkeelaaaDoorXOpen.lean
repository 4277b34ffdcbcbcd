import Derived.Test.YtklnkkejkeelaaaDoorXWords
import Derived.Deep.Slices
import Derived.DataReads
import Derived.ChangeArms
import Derived.WideShapes
import Derived.FnData
import Derived.OpenShut
/- WHAT CAME IN, OPENED: a value that reads as data of a type is of the print's kind for that type. Type by type; each once. -/
namespace Go.Proofs.YtklnkkejkeelaaaDoor.X
open Go.RowKit Go.Proofs.YtklnkkejkeelaaaDoorW.PrintWords

/-- Whatever reads as data of type t is of kind d; 'good' is what is known of it besides. -/
def Opens (P : Program) (t : TypeId) {α : Type} (d : Kd α) (good : α → Prop) : Prop :=
  ∀ (H : Type) (enc : TypeId × Value → H) (w : World) (base : Nat) (spare : Nat → Bool) (held : Bool) (fuel : Nat) (cs : List Value) (x : DataW H × List MemPlace),
    DataW.trod enc P w base spare held fuel t cs = some x → ∃ a : α, d.K w a cs ∧ good a
theorem opens_int {P : Program} {t : TypeId} {k : IntKind} (ht : P.underlying t = some (.int k)) : Opens P t (Kd.int k) (fun n => (Lit.int k n).wf = true) := by
  intro H enc w base spare held fuel cs x h
  obtain ⟨n, rfl, _, hw⟩ := DataW.trod_int ht h
  exact ⟨n, rfl, hw⟩
theorem opens_bool {P : Program} {t : TypeId} (ht : P.underlying t = some .bool) : Opens P t Kd.bool (fun _ => True) := by
  intro H enc w base spare held fuel cs x h
  obtain ⟨n, rfl, _⟩ := DataW.trod_bool ht h
  exact ⟨n, rfl, trivial⟩
theorem opens_string {P : Program} {t : TypeId} (ht : P.underlying t = some .string) : Opens P t Kd.string (fun s => s.size ≤ maxLen) := by
  intro H enc w base spare held fuel cs x h
  obtain ⟨s, rfl, _, hs⟩ := DataW.trod_string ht h
  exact ⟨s, rfl, hs⟩
theorem opens_slice {P : Program} {t e : TypeId} {α : Type} {d : Kd α} {good : α → Prop} (e' : Nat) (ht : P.underlying t = some (.slice e)) (hsz : d.sz = P.cellsOf e) (he : Opens P e d good) :
    Opens P t (Kd.slice e' d) (fun xs => xs.length ≤ maxLen ∧ ∀ x ∈ xs, good x) := by
  intro H enc w base spare held fuel cs x h
  rcases Deep.open_slice ht h with ⟨rfl, _⟩ | ⟨a, len, cap, m, n, D, Pl, rfl, hb, hl, hc, hm, _, hall⟩
  · exact ⟨[], ⟨none, 0, rfl, Nat.le_refl _, rfl, by simp, fun h0 => absurd h0 (by simp)⟩, by simp [maxLen], fun x hx => absurd hx (by simp)⟩
  · have hlm : len ≤ m := by rw [hm]; split <;> omega
    have hex : ∀ i, i < len → ∃ y : α × List Value, w.cells? base (a.add (i * P.cellsOf e)) (P.cellsOf e) = some y.2 ∧ d.K w y.1 y.2 ∧ good y.1 := fun i hi => by
      obtain ⟨cs', h1, h2⟩ := hall i (by omega)
      obtain ⟨y, h3, h4⟩ := he H enc w base spare held n cs' _ h2
      exact ⟨(y, cs'), h1, h3, h4⟩
    rcases Nat.eq_zero_or_pos len with h0 | h0
    · subst h0
      exact ⟨[], ⟨some a, cap, rfl, Nat.zero_le _, rfl, by simp, fun h0 => absurd h0 (by simp)⟩, by simp [maxLen], fun x hx => absurd hx (by simp)⟩
    · haveI : Inhabited (α × List Value) := ⟨Classical.choose (hex 0 h0)⟩
      obtain ⟨f, hf⟩ := Deep.choose_lt hex
      have hm9 : maxLen = 9223372036854775807 := rfl
      refine ⟨(List.range len).map (fun i => (f i).1), ⟨some a, cap, by simp, by simpa using hl, by simp, by simp; omega, fun _ => ⟨a, rfl, fun j p hj => ?_⟩⟩, by simp; omega, fun x hx => ?_⟩
      · have hj2 : j < len := by
          have := (List.getElem?_eq_some_iff.1 hj).1
          simpa using this
        have hp : p = (f j).1 := by
          simpa [List.getElem?_map, List.getElem?_range hj2] using hj.symm
        obtain ⟨h1, h2, _⟩ := hf j hj2
        subst hp
        refine ⟨(f j).2, d.K_len h2, h2, fun i u hu => ?_⟩
        have hi : i < P.cellsOf e := by
          have h5 := (List.getElem?_eq_some_iff.1 hu).1
          rw [d.K_len h2, hsz] at h5
          exact h5
        have h6 := (World.cells?_some h1).2.2 i hi
        rw [hu] at h6
        rw [hsz, ← Deep.add_add]
        exact h6
      · obtain ⟨i, hi, rfl⟩ := List.mem_map.1 hx
        exact (hf i (by simpa using hi)).2.2
/-- Fields in line: what stands from cell 'off' on is of kind d. -/
def OpensF (P : Program) (fs : List Field) (off : Nat) {α : Type} (d : Kd α) (good : α → Prop) : Prop :=
  ∀ (H : Type) (enc : TypeId × Value → H) (w : World) (base : Nat) (spare : Nat → Bool) (held : Bool) (n : Nat) (cs : List Value),
    (∀ f ∈ fs, ∃ y, DataW.trod enc P w base spare held n f.type ((cs.drop f.offset).take (P.cellsOf f.type)) = some y) → cs.length = off + d.sz → ∃ a : α, d.K w a (cs.drop off) ∧ good a
theorem opensF_last {P : Program} {f : Field} {α : Type} {d : Kd α} {good : α → Prop} (off : Nat) (ho : f.offset = off) (hsz : P.cellsOf f.type = d.sz) (hd : Opens P f.type d good) : OpensF P [f] off d good := by
  intro H enc w base spare held n cs hall hl
  obtain ⟨y, hy⟩ := hall f (by simp)
  rw [ho, hsz, List.take_of_length_le (by simp; omega)] at hy
  exact hd H enc w base spare held n _ y hy
theorem opensF_cons {P : Program} {f : Field} {fs : List Field} {α β : Type} {d : Kd α} {D : Kd β} {good : α → Prop} {Good : β → Prop} (off : Nat) (ho : f.offset = off) (hsz : P.cellsOf f.type = d.sz) (hd : Opens P f.type d good)
    (hD : OpensF P fs (off + d.sz) D Good) : OpensF P (f :: fs) off (Kd.pair d D) (fun x => good x.1 ∧ Good x.2) := by
  intro H enc w base spare held n cs hall hl
  have hl2 : cs.length = off + d.sz + D.sz := by
    have : (Kd.pair d D).sz = d.sz + D.sz := rfl
    omega
  obtain ⟨y, hy⟩ := hall f (by simp)
  rw [ho, hsz] at hy
  obtain ⟨a, h1, h2⟩ := hd H enc w base spare held n _ y hy
  obtain ⟨b, h3, h4⟩ := hD H enc w base spare held n cs (fun g hg => hall g (List.mem_cons_of_mem _ hg)) hl2
  refine ⟨(a, b), ⟨_, _, ?_, h1, h3⟩, h2, h4⟩
  rw [← List.drop_drop, List.take_append_drop]
theorem opens_struct {P : Program} {t : TypeId} {fs : Array Field} {α β : Type} {d : Kd α} {good : α → Prop} (f : β → α) (g : α → β) (hfg : ∀ x, f (g x) = x) (ht : P.underlying t = some (.struct fs)) (hsz : P.cellsOf t = d.sz) (hF : OpensF P fs.toList 0 d good) :
    Opens P t (Kd.iso d f) (fun x => good (f x)) := by
  intro H enc w base spare held fuel cs x h
  obtain ⟨xs, n, rfl, _, hl, hlen, hall⟩ := DataW.trod_struct ht h
  obtain ⟨a, h1, h2⟩ := hF H enc w base spare held n cs (fun f0 hf0 => by
    obtain ⟨i, hi, he⟩ := List.getElem_of_mem hf0
    have hi2 : i < xs.length := by rw [hlen]; simpa using hi
    refine ⟨xs[i], ?_⟩
    rw [hall i f0 (by rw [← he]; simp), List.getElem?_eq_getElem hi2]) (by omega)
  refine ⟨g a, ?_, by show good (f (g a)); rw [hfg]; exact h2⟩
  show d.K w (f (g a)) cs
  rw [hfg]
  simpa using h1
/-- A parameter that is a slice. -/
theorem open_slice_arg {H : Type} {enc : TypeId × Value → H} {P : Program} {t e : TypeId} {α : Type} {d : Kd α} {good : α → Prop} {w : World} {base : Nat} {spare : Nat → Bool} {held : Bool} {a : Option Addr} {len cap : Nat} {dd : DataW H} {p : List MemPlace} (e' : Nat) (ht : P.underlying t = some (.slice e)) (hsz : d.sz = P.cellsOf e) (he : Opens P e d good)
    (h : DataW.Trod enc P w base spare held t (.slice a len cap) dd p) : ∃ xs : List α, len = xs.length ∧ xs.length ≤ cap ∧ d.C w a xs.length xs ∧ xs.length ≤ maxLen ∧ ∀ x ∈ xs, good x := by
  obtain ⟨fuel, hf⟩ := h
  obtain ⟨xs, ⟨A, c, h1, h2, h3⟩, h4, h5⟩ := opens_slice e' ht hsz he H enc w base spare held fuel _ _ hf
  have h6 : [Value.slice a len cap] = [.slice A xs.length c] := h1
  simp only [List.cons.injEq, Value.slice.injEq, and_true] at h6
  obtain ⟨rfl, h7, rfl⟩ := h6
  exact ⟨xs, h7, h2, h3, h4, h5⟩
/-- A parameter that is a struct. -/
theorem open_struct_arg {H : Type} {enc : TypeId × Value → H} {P : Program} {t : TypeId} {α : Type} {d : Kd α} {good : α → Prop} {w : World} {base : Nat} {spare : Nat → Bool} {held : Bool} {cs : Array Value} {dd : DataW H} {p : List MemPlace} (he : Opens P t d good)
    (h : DataW.Trod enc P w base spare held t (.agg cs) dd p) : ∃ x : α, d.K w x cs.toList ∧ good x := by
  obtain ⟨fuel, hf⟩ := h
  exact he H enc w base spare held fuel _ _ hf
/-- What a listed variable reads as: its cells. Whole numbers and bools in line. -/
theorem held_of_laid {P : Program} {w : World} {n : String} {g : Nat} {cs : Array Value} {l : List Value} (hg : P.globalNamed n = some g) (hv : w.var? P n = some cs) (hl : cs.toList = l) : Held g l w := by
  subst hl
  simp only [World.var?, hg, Option.bind_some] at hv
  split at hv
  · rename_i c t fr hh
    obtain rfl := Option.some.inj hv
    exact ⟨t, fr, by simpa using hh⟩
  · cases hv
/-- The cell that a number, or a bool, is. -/
def litCell {H : Type} : DataW H → Value
  | .lit (.int k n) => .int k n
  | .lit (.bool b) => .bool b
  | _ => undef
/-- The cells of an aggregate of such. -/
def litCells {H : Type} : DataW H → List Value
  | .agg l => l.map litCell
  | _ => []
/-- A struct of numbers and bools, a cell each: its cells are what its datum says. -/
theorem row_exact {H : Type} {enc : TypeId × Value → H} {P : Program} {w : World} {base : Nat} {spare : Nat → Bool} {held : Bool} {fuel : Nat} {e : TypeId} {fs : Array Field} (hs : P.underlying e = some (.struct fs)) (hsz : P.cellsOf e = fs.size)
    (hf : ∀ (i : Nat) (f : Field), fs[i]? = some f → f.offset = i ∧ P.cellsOf f.type = 1 ∧ ((∃ k, P.underlying f.type = some (.int k)) ∨ P.underlying f.type = some .bool))
    {c : List Value} {x : DataW H × List MemPlace} (h : DataW.trod enc P w base spare held fuel e c = some x) : c = litCells x.1 := by
  obtain ⟨xs, n, rfl, rfl, hl, hlen, hall⟩ := DataW.trod_struct hs h
  refine List.ext_getElem? fun i => ?_
  simp only [litCells, List.map_map, List.getElem?_map]
  rcases Nat.lt_or_ge i fs.size with hi | hi
  · have hfi : fs[i]? = some fs[i] := Array.getElem?_eq_getElem hi
    obtain ⟨h1, h2, h3⟩ := hf i _ hfi
    have h4 := hall i _ hfi
    have hc : i < c.length := by omega
    have hx : i < xs.length := by omega
    rw [h1, h2, List.drop_eq_getElem_cons hc, List.take_succ_cons, List.take_zero, List.getElem?_eq_getElem hx] at h4
    rw [List.getElem?_eq_getElem hc, List.getElem?_eq_getElem hx]
    simp only [Option.map_some, Function.comp]
    rcases h3 with ⟨k, h3⟩ | h3
    · obtain ⟨m, h5, h6, _⟩ := DataW.trod_int h3 h4
      rw [h6]
      simpa [litCell] using h5
    · obtain ⟨m, h5, h6⟩ := DataW.trod_bool h3 h4
      rw [h6]
      simpa [litCell] using h5
  · rw [List.getElem?_eq_none (by omega), List.getElem?_eq_none (by omega)]
    rfl
theorem chunks_flat {l : List (List Value)} {cs : List Value} {sz : Nat} (hl : cs.length = l.length * sz) (h : ∀ (i : Nat) (c : List Value), l[i]? = some c → (cs.drop (i * sz)).take sz = c) : cs = l.flatten := by
  induction l generalizing cs with
  | nil => simpa using hl
  | cons a l ih =>
    have h0 := h 0 a rfl
    rw [Nat.zero_mul, List.drop_zero] at h0
    have h1 := ih (cs := cs.drop sz) (by simp [hl, Nat.add_mul]) (fun i c hc => by
      have := h (i + 1) c (by simpa using hc)
      rw [Nat.add_mul, Nat.one_mul, Nat.add_comm, ← List.drop_drop] at this
      exact this)
    rw [List.flatten_cons, ← h0, ← h1, List.take_append_drop]
/-- An array of such structs. -/
theorem arr_exact {H : Type} {enc : TypeId × Value → H} {P : Program} {w : World} {base : Nat} {spare : Nat → Bool} {held : Bool} {fuel n : Nat} {t e : TypeId} {fs : Array Field} (ht : P.underlying t = some (.array n e)) (hsz0 : P.cellsOf t = n * P.cellsOf e) (hs : P.underlying e = some (.struct fs)) (hsz : P.cellsOf e = fs.size)
    (hf : ∀ (i : Nat) (f : Field), fs[i]? = some f → f.offset = i ∧ P.cellsOf f.type = 1 ∧ ((∃ k, P.underlying f.type = some (.int k)) ∨ P.underlying f.type = some .bool))
    {cs : List Value} {l : List (DataW H)} {p : List MemPlace} (h : DataW.trod enc P w base spare held fuel t cs = some (.agg l, p)) : cs = (l.map litCells).flatten := by
  obtain ⟨xs, m, rfl, hx, hl, hlen, hall⟩ := DataW.trod_array ht h
  simp only [Prod.mk.injEq, DataW.agg.injEq] at hx
  obtain ⟨rfl, _⟩ := hx
  refine chunks_flat (sz := P.cellsOf e) (by simp [hl, hsz0, hlen]) fun i c hc => ?_
  simp only [List.map_map, List.getElem?_map] at hc
  obtain ⟨y, hy, rfl⟩ := Option.map_eq_some_iff.1 hc
  have hi : i < n := by rw [← hlen]; exact (List.getElem?_eq_some_iff.1 hy).1
  have h1 := hall i hi
  rw [hy] at h1
  exact row_exact hs hsz hf h1
end Go.Proofs.YtklnkkejkeelaaaDoor.X
