/- What comes in, read: a value that reads as data of a type is data of the reading; and a law's run, out of its reading. -/
import Derived.Test.YtklnkkejkeelaaaDoorEvSb
import Derived.Below
import Derived.Deep.Slices
import Derived.DataReads
import Derived.ChangeArms
import Derived.WideShapes
import Derived.FnData
import Derived.OpenShut
set_option linter.unnecessarySimpa false
set_option linter.unusedSimpArgs false
set_option linter.unusedVariables false
set_option autoImplicit false
set_option linter.unusedVariables false
namespace Go.Ev
open Go.RowKit

/-- Whatever stands when a law is called is turned by nobody. -/
def imAll (w : World) (b _o : Nat) : Prop := b < w.heap.size
/-- How things are told as data: their cells, and as one. -/
structure Cd (α : Type) where
  sz : Nat
  cells : α → List D
  d : α → D
  hd : ∀ a, cellsD (d a) = cells a
  len : ∀ a, (cells a).length = sz
def Cd.int (k : IntKind) : Cd Int := ⟨1, fun n => [.int k n], fun n => .int k n, fun _ => rfl, fun _ => rfl⟩
def Cd.bool : Cd Bool := ⟨1, fun b => [.bool b], fun b => .bool b, fun _ => rfl, fun _ => rfl⟩
def Cd.str : Cd (List UInt8) := ⟨1, fun s => [.str s], fun s => .str s, fun _ => rfl, fun _ => rfl⟩
def Cd.list {α : Type} (C : Cd α) : Cd (List α) := ⟨1, fun xs => [.list (xs.map C.d)], fun xs => .list (xs.map C.d), fun _ => rfl, fun _ => rfl⟩
def Cd.pair {α β : Type} (A : Cd α) (B : Cd β) : Cd (α × β) := ⟨A.sz + B.sz, fun p => A.cells p.1 ++ B.cells p.2, fun p => .agg (A.cells p.1 ++ B.cells p.2), fun _ => rfl, fun p => by simp [A.len, B.len]⟩
/-- A struct, by its fields. -/
def Cd.st {α β : Type} (C : Cd α) (f : β → α) : Cd β := ⟨C.sz, fun b => C.cells (f b), fun b => .agg (C.cells (f b)), fun _ => rfl, fun b => C.len _⟩

def CellsR (w : World) (ds : List D) (cs : List Value) : Prop := cs.length = ds.length ∧ ∀ (j : Nat) y u, ds[j]? = some y → cs[j]? = some u → flatD y ∧ DR w (imAll w) y u
theorem CellsR.one {w : World} {y : D} {u : Value} (hf : flatD y) (h : DR w (imAll w) y u) : CellsR w [y] [u] := ⟨rfl, fun j y' u' h1 h2 => by
  cases j with
  | zero =>
    obtain rfl := Option.some.inj h1
    obtain rfl := Option.some.inj h2
    exact ⟨hf, h⟩
  | succ j => simp at h1⟩
theorem CellsR.append {w : World} {ds es : List D} {cs us : List Value} (h : CellsR w ds cs) (k : CellsR w es us) : CellsR w (ds ++ es) (cs ++ us) := by
  refine ⟨by simp [h.1, k.1], fun j y u h1 h2 => ?_⟩
  by_cases hj : j < ds.length
  · rw [List.getElem?_append_left hj] at h1
    rw [List.getElem?_append_left (by rw [h.1]; exact hj)] at h2
    exact h.2 j y u h1 h2
  · rw [List.getElem?_append_right (by omega)] at h1
    rw [List.getElem?_append_right (by rw [h.1]; omega), h.1] at h2
    exact k.2 _ y u h1 h2

/-- Whatever reads as data of type t is told so. -/
def Reads (P : Program) (t : TypeId) {α : Type} (C : Cd α) (good : α → Prop) : Prop :=
  ∀ (H : Type) (enc : TypeId × Value → H) (w : World) (base : Nat) (spare : Nat → Bool) (held : Bool) (fuel : Nat) (cs : List Value) (x : DataW H × List MemPlace),
    DataW.trod enc P w base spare held fuel t cs = some x → ∃ a : α, CellsR w (C.cells a) cs ∧ good a
def rng (k : IntKind) (n : Int) : Prop := k.min ≤ n ∧ n ≤ k.max
theorem rng_i64 {n : Int} (h : rng .i64 n) : -9223372036854775808 ≤ n ∧ n ≤ 9223372036854775807 := ⟨h.1, h.2⟩
theorem rng_i32 {n : Int} (h : rng .i32 n) : -2147483648 ≤ n ∧ n ≤ 2147483647 := ⟨h.1, h.2⟩
theorem rng_u8 {n : Int} (h : rng .u8 n) : 0 ≤ n ∧ n ≤ 255 := ⟨h.1, h.2⟩
theorem rng_u32 {n : Int} (h : rng .u32 n) : 0 ≤ n ∧ n ≤ 4294967295 := ⟨h.1, h.2⟩
theorem rng_u64 {n : Int} (h : rng .u64 n) : 0 ≤ n ∧ n ≤ 18446744073709551615 := ⟨h.1, h.2⟩
theorem rng_wf {k : IntKind} {n : Int} (h : (Lit.int k n).wf = true) : rng k n := by
  simp only [Lit.wf, Bool.and_eq_true, decide_eq_true_eq] at h
  exact h
theorem reads_int {P : Program} {t : TypeId} {k : IntKind} (ht : P.underlying t = some (.int k)) : Reads P t (Cd.int k) (rng k) := by
  intro H enc w base spare held fuel cs x h
  obtain ⟨n, rfl, _, hw⟩ := DataW.trod_int ht h
  exact ⟨n, .one trivial (.int k n), rng_wf hw⟩
theorem reads_bool {P : Program} {t : TypeId} (ht : P.underlying t = some .bool) : Reads P t Cd.bool (fun _ => True) := by
  intro H enc w base spare held fuel cs x h
  obtain ⟨n, rfl, _⟩ := DataW.trod_bool ht h
  exact ⟨n, .one trivial (.bool n), trivial⟩
theorem reads_string {P : Program} {t : TypeId} (ht : P.underlying t = some .string) : Reads P t Cd.str (fun s => s.length ≤ maxLen) := by
  intro H enc w base spare held fuel cs x h
  obtain ⟨s, rfl, _, hs⟩ := DataW.trod_string ht h
  exact ⟨s.data.toList, .one trivial (.str s), by simpa using hs⟩
theorem reads_slice {P : Program} {t e : TypeId} {α : Type} {C : Cd α} {good : α → Prop} (ht : P.underlying t = some (.slice e)) (hsz : C.sz = P.cellsOf e) (hpos : C.sz ≠ 0) (he : Reads P e C good) :
    Reads P t (Cd.list C) (fun xs => xs.length ≤ maxLen ∧ ∀ x ∈ xs, good x) := by
  intro H enc w base spare held fuel cs x h
  rcases Deep.open_slice ht h with ⟨rfl, _⟩ | ⟨a, len, cap, m, n, D', Pl, rfl, hb, hl, hc, hm, _, hall⟩
  · exact ⟨[], .one trivial (.empty none 0), by simp [maxLen], fun x hx => absurd hx (by simp)⟩
  · have hlm : len ≤ m := by rw [hm]; split <;> omega
    have hex : ∀ i, i < len → ∃ y : α × List Value, w.cells? base (a.add (i * P.cellsOf e)) (P.cellsOf e) = some y.2 ∧ CellsR w (C.cells y.1) y.2 ∧ good y.1 := fun i hi => by
      obtain ⟨cs', h1, h2⟩ := hall i (by omega)
      obtain ⟨y, h3, h4⟩ := he H enc w base spare held n cs' _ h2
      exact ⟨(y, cs'), h1, h3, h4⟩
    rcases Nat.eq_zero_or_pos len with h0 | h0
    · subst h0
      exact ⟨[], .one trivial (.empty (some a) cap), by simp [maxLen], fun x hx => absurd hx (by simp)⟩
    · haveI : Inhabited (α × List Value) := ⟨Classical.choose (hex 0 h0)⟩
      obtain ⟨f, hf⟩ := Deep.choose_lt hex
      have hm9 : maxLen = 9223372036854775807 := rfl
      obtain ⟨b, o, sp⟩ := a
      have hcell : ∀ i, i < len → ∀ j, j < C.sz → w.cell? ((⟨b, o, sp⟩ : Addr).add (i * C.sz + j)) = (f i).2[j]? ∧ j < (f i).2.length := fun i hi j hj => by
        obtain ⟨h1, h2, _⟩ := hf i hi
        have h3 := (World.cells?_some h1).2.2 j (by omega)
        rw [Deep.add_add, ← hsz] at h3
        exact ⟨h3, by rw [h2.1, C.len]; exact hj⟩
      have hsp : sp = none := by
        obtain ⟨h1, h2⟩ := hcell 0 h0 0 (by omega)
        rw [Nat.zero_mul, Nat.zero_add, List.getElem?_eq_getElem h2] at h1
        simp only [Addr.add, if_true, World.cell?] at h1
        split at h1
        · split at h1
          · cases h1
          · rename_i hsp
            cases sp with
            | none => rfl
            | some s => exact absurd rfl hsp
        · cases h1
      subst hsp
      have hblk : b < w.heap.size := by
        obtain ⟨h1, h2⟩ := hcell 0 h0 0 (by omega)
        rw [Nat.zero_mul, Nat.zero_add, List.getElem?_eq_getElem h2] at h1
        simp only [Addr.add, if_true, World.cell?] at h1
        split at h1
        · rename_i hh
          exact (Array.getElem?_eq_some_iff.1 hh).1
        · cases h1
      have hget : ∀ (i : Nat) x, (((List.range len).map fun i => (f i).1).map C.d)[i]? = some x → i < len ∧ x = C.d (f i).1 := fun i x hx => by
        have hi : i < len := by simpa using (List.getElem?_eq_some_iff.1 hx).1
        refine ⟨hi, ?_⟩
        simp [hi] at hx
        exact hx.symm
      refine ⟨(List.range len).map (fun i => (f i).1), .one trivial ?_, by simp; omega, fun x hx => ?_⟩
      · have hlist := DR.list (w := w) (Im := imAll w) (((List.range len).map fun i => (f i).1).map C.d) b o C.sz cap (fun i j => ((f i).2[j]?).getD Go.undef) (by simpa using hl)
          (fun i x hx => by obtain ⟨hi, rfl⟩ := hget i x hx; rw [C.hd, C.len])
          (fun i x j y hx hy => by
            obtain ⟨hi, rfl⟩ := hget i x hx
            rw [C.hd] at hy
            have hj : j < C.sz := by rw [← C.len (f i).1]; exact (List.getElem?_eq_some_iff.1 hy).1
            obtain ⟨h1, h2⟩ := hcell i hi j hj
            rw [List.getElem?_eq_getElem h2] at h1
            obtain ⟨_, h4, _⟩ := hf i hi
            refine ⟨(h4.2 j y _ hy (List.getElem?_eq_getElem h2)).1, hblk, ?_⟩
            rw [List.getElem?_eq_getElem h2, Option.getD_some, ← h1]
            congr 1
            rw [Addr.add_lit, ← Nat.add_assoc])
          (fun i x j y hx hy => by
            obtain ⟨hi, rfl⟩ := hget i x hx
            rw [C.hd] at hy
            have hj : j < C.sz := by rw [← C.len (f i).1]; exact (List.getElem?_eq_some_iff.1 hy).1
            obtain ⟨h1, h2⟩ := hcell i hi j hj
            obtain ⟨_, h4, _⟩ := hf i hi
            have := (h4.2 j y _ hy (List.getElem?_eq_getElem h2)).2
            rw [List.getElem?_eq_getElem h2, Option.getD_some]
            exact this)
        simpa using hlist
      · obtain ⟨i, hi, rfl⟩ := List.mem_map.1 hx
        exact (hf i (by simpa using hi)).2.2
/-- Fields in line: what stands from cell 'off' on. -/
def ReadsF (P : Program) (fs : List Field) (off : Nat) {α : Type} (C : Cd α) (good : α → Prop) : Prop :=
  ∀ (H : Type) (enc : TypeId × Value → H) (w : World) (base : Nat) (spare : Nat → Bool) (held : Bool) (n : Nat) (cs : List Value),
    (∀ f ∈ fs, ∃ y, DataW.trod enc P w base spare held n f.type ((cs.drop f.offset).take (P.cellsOf f.type)) = some y) → cs.length = off + C.sz → ∃ a : α, CellsR w (C.cells a) (cs.drop off) ∧ good a
theorem readsF_last {P : Program} {f : Field} {α : Type} {C : Cd α} {good : α → Prop} (off : Nat) (ho : f.offset = off) (hsz : P.cellsOf f.type = C.sz) (hd : Reads P f.type C good) : ReadsF P [f] off C good := by
  intro H enc w base spare held n cs hall hl
  obtain ⟨y, hy⟩ := hall f (by simp)
  rw [ho, hsz, List.take_of_length_le (by simp; omega)] at hy
  exact hd H enc w base spare held n _ y hy
theorem readsF_cons {P : Program} {f : Field} {fs : List Field} {α β : Type} {A : Cd α} {B : Cd β} {good : α → Prop} {Good : β → Prop} (off : Nat) (ho : f.offset = off) (hsz : P.cellsOf f.type = A.sz) (hd : Reads P f.type A good)
    (hD : ReadsF P fs (off + A.sz) B Good) : ReadsF P (f :: fs) off (Cd.pair A B) (fun x => good x.1 ∧ Good x.2) := by
  intro H enc w base spare held n cs hall hl
  have hl2 : cs.length = off + A.sz + B.sz := by
    have : (Cd.pair A B).sz = A.sz + B.sz := rfl
    omega
  obtain ⟨y, hy⟩ := hall f (by simp)
  rw [ho, hsz] at hy
  obtain ⟨a, h1, h2⟩ := hd H enc w base spare held n _ y hy
  obtain ⟨b, h3, h4⟩ := hD H enc w base spare held n cs (fun g hg => hall g (List.mem_cons_of_mem _ hg)) hl2
  refine ⟨(a, b), ?_, h2, h4⟩
  have := h1.append h3
  rwa [← List.drop_drop, List.take_append_drop] at this
theorem reads_struct {P : Program} {t : TypeId} {fs : Array Field} {α β : Type} {C : Cd α} {good : α → Prop} (f : β → α) (g : α → β) (hfg : ∀ x, f (g x) = x) (ht : P.underlying t = some (.struct fs)) (hsz : P.cellsOf t = C.sz) (hF : ReadsF P fs.toList 0 C good) :
    Reads P t (Cd.st C f) (fun x => good (f x)) := by
  intro H enc w base spare held fuel cs x h
  obtain ⟨xs, n, rfl, _, hl, hlen, hall⟩ := DataW.trod_struct ht h
  obtain ⟨a, h1, h2⟩ := hF H enc w base spare held n cs (fun f0 hf0 => by
    obtain ⟨i, hi, he⟩ := List.getElem_of_mem hf0
    have hi2 : i < xs.length := by rw [hlen]; simpa using hi
    refine ⟨xs[i], ?_⟩
    rw [hall i f0 (by rw [← he]; simp), List.getElem?_eq_getElem hi2]) (by omega)
  refine ⟨g a, ?_, by show good (f (g a)); rw [hfg]; exact h2⟩
  show CellsR w (C.cells (f (g a))) cs
  rw [hfg]
  simpa using h1

/-! Parameters. -/
section
variable {H : Type} {enc : TypeId × Value → H} {P : Program} {w : World} {base : Nat} {spare : Nat → Bool} {held : Bool} {dd : DataW H} {p : List MemPlace}
theorem arg_one {t : TypeId} {α : Type} {C : Cd α} {good : α → Prop} {v : Value} (hone : v.cells = #[v]) (hc : ∀ a, C.cells a = [C.d a]) (he : Reads P t C good) (h : DataW.Trod enc P w base spare held t v dd p) : ∃ a, DR w (imAll w) (C.d a) v ∧ good a := by
  obtain ⟨fuel, hf⟩ := h
  rw [hone] at hf
  obtain ⟨a, h1, h2⟩ := he H enc w base spare held fuel _ _ hf
  refine ⟨a, ?_, h2⟩
  rw [hc] at h1
  exact (h1.2 0 _ _ rfl rfl).2
theorem arg_struct {t : TypeId} {α β : Type} {C : Cd α} {f : β → α} {good : β → Prop} {cs : Array Value} (he : Reads P t (Cd.st C f) good) (h : DataW.Trod enc P w base spare held t (.agg cs) dd p) : ∃ a, DR w (imAll w) ((Cd.st C f).d a) (.agg cs) ∧ good a := by
  obtain ⟨fuel, hf⟩ := h
  obtain ⟨a, h1, h2⟩ := he H enc w base spare held fuel _ _ hf
  refine ⟨a, ?_, h2⟩
  have h3 : cs.toList.length = (C.cells (f a)).length := h1.1
  exact .agg _ _ (by simpa using h3) (fun j y hy => by
    have hj : j < cs.toList.length := by rw [h3]; exact (List.getElem?_eq_some_iff.1 hy).1
    exact (h1.2 j y _ hy (List.getElem?_eq_getElem hj)).1) (fun j y u hy hu => (h1.2 j y u hy (by simpa [Value.cells] using hu)).2)
end

/-- A law's run, out of its reading. -/
theorem run_law {P : Program} {glob : Nat → Option (List D)} {call : Calling} (hC : CallOk P glob call) {f : FuncId} {ds : List D} (h : call f (ds.map V.d) [] = some (.d (.bool true), [])) {W : World} (hG : GlobOk glob W (imAll W)) {us : List Value}
    (hl : us.length = ds.length) (hd : ∀ (j : Nat) d u, ds[j]? = some d → us[j]? = some u → DR W (imAll W) d u) : Calls P f us.toArray W fun e W' => e = .returned (.bool true) ∧ Below W.heap.size W W' := by
  have hk : ∀ k, getM (keyed 0 ([] : List Obj)) k = none := fun k => rfl
  have hM : Mem W (imAll W) (fun _ => .none) (keyed 0 []) := ⟨(fun r o e => by rw [hk] at e; cases e), fun r _ => rfl, fun r r' b h => h.elim, fun b o h => h⟩
  obtain ⟨_, hc⟩ := hC f _ [] _ _ h (by simp) (fun i o e => by simp at e)
  refine (hc W (imAll W) (fun _ => .none) us hM hG ⟨by simpa using hl, fun j v u hv hu => ?_⟩).mono fun e W' hq => ?_
  · rw [List.getElem?_map] at hv
    obtain ⟨d, h1, rfl⟩ := Option.map_eq_some_iff.1 hv
    exact .d _ _ (hd j d u h1 hu)
  · obtain ⟨u, Im', loc', rfl, B, hu⟩ := hq
    refine ⟨?_, B.os, B.tape, B.output, B.size, fun k hk => B.old k hk (fun r h => h.elim)⟩
    cases hu with
    | d _ _ hx => cases hx; rfl

/-! Tables. -/
def valOf : D → Value
  | .int k n => .int k n
  | .bool b => .bool b
  | _ => Go.undef
def isLit : D → Bool
  | .int _ _ => true
  | .bool _ => true
  | _ => false
def Held (g : Nat) (cs : List Value) (w : World) : Prop := ∃ t fr, w.heap[g]? = some (.cells cs.toArray t fr)
theorem globOk {glob : Nat → Option (List D)} {W : World} (h : ∀ g cs, glob g = some cs → cs.all isLit = true ∧ Held g (cs.map valOf) W) : GlobOk glob W (imAll W) := by
  intro g cs e
  obtain ⟨h1, t, fr, h2⟩ := h g cs e
  have hlt := (Array.getElem?_eq_some_iff.1 h2).1
  have hf : ∀ (k : Nat) y, cs[k]? = some y → isLit y = true := fun k y hk => List.all_eq_true.1 h1 y (List.mem_of_getElem? hk)
  refine ⟨fun k => ((cs[k]?).map valOf).getD Go.undef, fun k y hk => ⟨?_, hlt, ?_⟩, fun k y hk => ?_⟩
  · have := hf k y hk
    cases y <;> first | trivial | cases this
  · simp [World.cell?, h2, hk]
  · have := hf k y hk
    simp only [hk, Option.map_some, Option.getD_some]
    cases y <;> first | exact .int _ _ | exact .bool _ | cases this
/-- What a listed variable reads as: its cells. Whole numbers and bools in line. -/
theorem held_of_laid {P : Program} {w : World} {n : String} {g : Nat} {cs : Array Value} {l : List Value} (hg : P.globalNamed n = some g) (hv : w.var? P n = some cs) (hl : cs.toList = l) : Held g l w := by
  subst hl
  simp only [World.var?, hg, Option.bind_some] at hv
  split at hv
  · rename_i c t fr hh
    obtain rfl := Option.some.inj hv
    exact ⟨t, fr, by simpa using hh⟩
  · cases hv
/-- The cell that a number, or a bool, is. -/
def litCell {H : Type} : DataW H → Value
  | .lit (.int k n) => .int k n
  | .lit (.bool b) => .bool b
  | _ => undef
/-- The cells of an aggregate of such. -/
def litCells {H : Type} : DataW H → List Value
  | .agg l => l.map litCell
  | _ => []
/-- A struct of numbers and bools, a cell each: its cells are what its datum says. -/
theorem row_exact {H : Type} {enc : TypeId × Value → H} {P : Program} {w : World} {base : Nat} {spare : Nat → Bool} {held : Bool} {fuel : Nat} {e : TypeId} {fs : Array Field} (hs : P.underlying e = some (.struct fs)) (hsz : P.cellsOf e = fs.size)
    (hf : ∀ (i : Nat) (f : Field), fs[i]? = some f → f.offset = i ∧ P.cellsOf f.type = 1 ∧ ((∃ k, P.underlying f.type = some (.int k)) ∨ P.underlying f.type = some .bool))
    {c : List Value} {x : DataW H × List MemPlace} (h : DataW.trod enc P w base spare held fuel e c = some x) : c = litCells x.1 := by
  obtain ⟨xs, n, rfl, rfl, hl, hlen, hall⟩ := DataW.trod_struct hs h
  refine List.ext_getElem? fun i => ?_
  simp only [litCells, List.map_map, List.getElem?_map]
  rcases Nat.lt_or_ge i fs.size with hi | hi
  · have hfi : fs[i]? = some fs[i] := Array.getElem?_eq_getElem hi
    obtain ⟨h1, h2, h3⟩ := hf i _ hfi
    have h4 := hall i _ hfi
    have hc : i < c.length := by omega
    have hx : i < xs.length := by omega
    rw [h1, h2, List.drop_eq_getElem_cons hc, List.take_succ_cons, List.take_zero, List.getElem?_eq_getElem hx] at h4
    rw [List.getElem?_eq_getElem hc, List.getElem?_eq_getElem hx]
    simp only [Option.map_some, Function.comp]
    rcases h3 with ⟨k, h3⟩ | h3
    · obtain ⟨m, h5, h6, _⟩ := DataW.trod_int h3 h4
      rw [h6]
      simpa [litCell] using h5
    · obtain ⟨m, h5, h6⟩ := DataW.trod_bool h3 h4
      rw [h6]
      simpa [litCell] using h5
  · rw [List.getElem?_eq_none (by omega), List.getElem?_eq_none (by omega)]
    rfl
theorem chunks_flat {l : List (List Value)} {cs : List Value} {sz : Nat} (hl : cs.length = l.length * sz) (h : ∀ (i : Nat) (c : List Value), l[i]? = some c → (cs.drop (i * sz)).take sz = c) : cs = l.flatten := by
  induction l generalizing cs with
  | nil => simpa using hl
  | cons a l ih =>
    have h0 := h 0 a rfl
    rw [Nat.zero_mul, List.drop_zero] at h0
    have h1 := ih (cs := cs.drop sz) (by simp [hl, Nat.add_mul]) (fun i c hc => by
      have := h (i + 1) c (by simpa using hc)
      rw [Nat.add_mul, Nat.one_mul, Nat.add_comm, ← List.drop_drop] at this
      exact this)
    rw [List.flatten_cons, ← h0, ← h1, List.take_append_drop]
/-- An array of such structs. -/
theorem arr_exact {H : Type} {enc : TypeId × Value → H} {P : Program} {w : World} {base : Nat} {spare : Nat → Bool} {held : Bool} {fuel n : Nat} {t e : TypeId} {fs : Array Field} (ht : P.underlying t = some (.array n e)) (hsz0 : P.cellsOf t = n * P.cellsOf e) (hs : P.underlying e = some (.struct fs)) (hsz : P.cellsOf e = fs.size)
    (hf : ∀ (i : Nat) (f : Field), fs[i]? = some f → f.offset = i ∧ P.cellsOf f.type = 1 ∧ ((∃ k, P.underlying f.type = some (.int k)) ∨ P.underlying f.type = some .bool))
    {cs : List Value} {l : List (DataW H)} {p : List MemPlace} (h : DataW.trod enc P w base spare held fuel t cs = some (.agg l, p)) : cs = (l.map litCells).flatten := by
  obtain ⟨xs, m, rfl, hx, hl, hlen, hall⟩ := DataW.trod_array ht h
  simp only [Prod.mk.injEq, DataW.agg.injEq] at hx
  obtain ⟨rfl, _⟩ := hx
  refine chunks_flat (sz := P.cellsOf e) (by simp [hl, hsz0, hlen]) fun i c hc => ?_
  simp only [List.map_map, List.getElem?_map] at hc
  obtain ⟨y, hy, rfl⟩ := Option.map_eq_some_iff.1 hc
  have hi : i < n := by rw [← hlen]; exact (List.getElem?_eq_some_iff.1 hy).1
  have h1 := hall i hi
  rw [hy] at h1
  exact row_exact hs hsz hf h1
end Go.Ev
