/-
  From a row's reading of an argument, of whatever type of ints, bools, strings, structs and slices, to the words of memory of this work ('Rep', 'SlR'). No program. No condition.
-/
import Derived.Test.YtpkajhmgkmkcgaaDoorG
import Derived.Deep.Slices
import Derived.OpenShut
namespace Go.Proofs.YtpkajhmgkmkcgaaDoor
open Go.RowKit Go.ChangeShapes Go.WideShapes Go.Deep

/-- whatever reads at type t, reads as R says -/
def Opens (P : Program) (t : TypeId) {α : Type} (R : Rep α) : Prop :=
  P.cellsOf t = R.k ∧ ∀ {H : Type} (enc : TypeId × Value → H) (w : World) (fuel : Nat) (cs : List Value) (x : DataW H × List MemPlace), DataW.trod enc P w 0 (fun _ => true) true fuel t cs = some x → ∃ y, R.rd (fun _ => True) w y cs
section
variable {P : Program} {t e : TypeId} {α β : Type}
theorem Opens.int (ht : P.underlying t = some (.int .i64)) (hc : P.cellsOf t = 1) : Opens P t Rep.int := ⟨hc, fun enc w fuel cs x h => by
  obtain ⟨n, rfl, _, hw⟩ := DataW.trod_int ht h
  exact ⟨n, rfl, bounds_i64 hw⟩⟩
theorem Opens.bool (ht : P.underlying t = some .bool) (hc : P.cellsOf t = 1) : Opens P t Rep.bool := ⟨hc, fun enc w fuel cs x h => by
  obtain ⟨n, rfl, _⟩ := DataW.trod_bool ht h
  exact ⟨n, rfl⟩⟩
/-- a string, with the bound of its length -/
def Rep.strB : Rep ByteArray where
  k := 1
  rd _ _ x cs := cs = [.string x] ∧ x.size ≤ maxLen
  len h := by rw [h.1]; rfl
  one h := by rw [h.1]; intro u hu; simp at hu; subst hu; rfl
  keep h _ _ := h
  mono h _ := h
theorem Opens.str (ht : P.underlying t = some .string) (hc : P.cellsOf t = 1) : Opens P t Rep.strB := ⟨hc, fun enc w fuel cs x h => by
  obtain ⟨n, rfl, _, hs⟩ := DataW.trod_string ht h
  exact ⟨n, rfl, hs⟩⟩
theorem list_of {p : Nat → α → Prop} : ∀ n, (∀ i, i < n → ∃ y, p i y) → ∃ ys : List α, ys.length = n ∧ ∀ j y, ys[j]? = some y → p j y
  | 0, _ => ⟨[], rfl, by simp⟩
  | n + 1, h => by
    obtain ⟨ys, hl, hy⟩ := list_of n (fun i hi => h i (by omega))
    obtain ⟨y, hp⟩ := h n (by omega)
    refine ⟨ys ++ [y], by simp [hl], fun j z hz => ?_⟩
    by_cases hj : j < ys.length
    · rw [List.getElem?_append_left hj] at hz; exact hy j z hz
    · have hl2 := (List.getElem?_eq_some_iff.1 hz).1
      rw [List.length_append, List.length_singleton] at hl2
      obtain rfl : j = n := by omega
      rw [← hl, List.getElem?_concat_length] at hz
      cases hz
      exact hp
theorem Opens.slice {R : Rep α} (he : Opens P e R) (ht : P.underlying t = some (.slice e)) (hc : P.cellsOf t = 1) (hk : 0 < R.k) : Opens P t (Rep.slice R) := ⟨hc, fun enc w fuel cs x h => by
  rcases open_slice ht h with ⟨rfl, _⟩ | ⟨a, len, cap, m, n, D, Pl, rfl, _, hl, hm, hmm, _, hx⟩
  · exact ⟨[], none, 0, 0, rfl, Nat.le_refl _, Nat.zero_le _, SlR.nil _ _ _ _⟩
  · simp only [if_true] at hmm

    have h1 : ∀ i, i < len → ∃ y, ∃ cs', R.rd (fun _ => True) w y cs' ∧ ∀ j, j < R.k → w.cell? (a.add (i * R.k + j)) = cs'[j]? := fun i hi => by
      obtain ⟨cs', h2, h3⟩ := hx i (by omega)
      obtain ⟨y, hy⟩ := he.2 enc w n cs' _ h3
      obtain ⟨_, h4, h5⟩ := World.cells?_some h2
      rw [he.1] at h4 h5
      exact ⟨y, cs', hy, fun j hj => by rw [← add_add]; exact h5 j hj⟩
    obtain ⟨ys, hy1, hy2⟩ := list_of len h1
    refine ⟨ys, some a, len, cap, rfl, hl, hm, hy1, fun hn => ?_⟩
    obtain ⟨b, o, sp⟩ := a
    have h0 := List.getElem?_eq_getElem (show 0 < ys.length by omega)
    obtain ⟨cs0, hr0, hc0⟩ := hy2 0 _ h0
    have hl0 := R.len hr0
    have hc00 := hc0 0 hk
    rw [Nat.zero_mul, List.getElem?_eq_getElem (by omega)] at hc00
    have hsp : sp = none := by simpa [Addr.add] using World.cell?_spot hc00
    subst hsp
    rw [Addr.add_lit] at hc00
    refine ⟨b, o, rfl, World.block_lt_of_cell? w _ hc00, trivial, fun j y hj => ?_⟩
    obtain ⟨cs', hr, hcc⟩ := hy2 j y hj
    refine ⟨cs', hr, fun i u hu => ?_⟩
    have hil := (List.getElem?_eq_some_iff.1 hu).1
    rw [R.len hr] at hil
    have := hcc i hil
    rw [Addr.add_lit] at this
    rw [Nat.add_assoc, this, hu]⟩
theorem opened_rep {R : Rep α} {H : Type} {enc : TypeId × Value → H} {w : World} {v : Value} {d : DataW H} {p : List MemPlace} (h : Opens P t R) (hd : DataW.Trod enc P w 0 (fun _ => true) true t v d p) : ∃ y, R.rd (fun _ => True) w y v.cells.toList := by
  obtain ⟨fuel, hf⟩ := hd
  exact h.2 enc w fuel _ _ hf
theorem opened_sl {R : Rep α} {H : Type} {enc : TypeId × Value → H} {w : World} {a : Option Addr} {n c : Nat} {d : DataW H} {p : List MemPlace} (h : Opens P t (Rep.slice R)) (hd : DataW.Trod enc P w 0 (fun _ => true) true t (.slice a n c) d p) : ∃ ys, SlR R (fun _ => True) w a n ys ∧ (n ≤ c ∧ c ≤ 9223372036854775807) := by
  obtain ⟨ys, a', n', c', hv, h1, h2, h3⟩ := opened_rep h hd
  simp [Value.cells] at hv
  obtain ⟨rfl, rfl, rfl⟩ := hv
  exact ⟨ys, h3, h1, by unfold maxLen at h2; exact h2⟩
/-! ### structs: a list of fields, each with its reading -/
/-- the fields fs, from cell o on, read as R -/
def OpensF (P : Program) (o : Nat) (fs : List Field) {α : Type} (R : Rep α) : Prop :=
  ∀ (H : Type) (enc : TypeId × Value → H) (w : World) (fuel : Nat) (cs : List Value) (xs : List (DataW H × List MemPlace)), cs.length = o + R.k → xs.length = fs.length →
    (∀ (i : Nat) (f : Field), fs[i]? = some f → DataW.trod enc P w 0 (fun _ => true) true fuel f.type ((cs.drop f.offset).take (P.cellsOf f.type)) = xs[i]?) → ∃ y, R.rd (fun _ => True) w y (cs.drop o)
theorem OpensF.one {o : Nat} {f : Field} {R : Rep α} (ho : f.offset = o) (h : Opens P f.type R) : OpensF P o [f] R := fun H enc w fuel cs xs hl hxl hx => by
  obtain ⟨x, rfl⟩ : ∃ x, xs = [x] := List.length_eq_one_iff.1 hxl
  have hx1 := hx 0 f rfl
  simp only [List.getElem?_cons_zero] at hx1
  obtain ⟨y, hy⟩ := h.2 enc w fuel _ x hx1
  refine ⟨y, ?_⟩
  rw [ho, h.1] at hy
  rwa [List.take_of_length_le (by rw [List.length_drop]; omega)] at hy
theorem OpensF.cons {o o' : Nat} {f : Field} {fs : List Field} {R : Rep α} {T : Rep β} (ho : f.offset = o) (h : Opens P f.type R) (ho' : o' = o + R.k) (h' : OpensF P o' fs T) : OpensF P o (f :: fs) (.prod R T) := fun H enc w fuel cs xs hl hxl hx => by
  have hl' : cs.length = o + (R.k + T.k) := hl
  match xs, hxl with
  | x :: ys, hxl =>
  have hx1 := hx 0 f rfl
  simp only [List.getElem?_cons_zero] at hx1
  have hx3 : ∀ (i : Nat) (g : Field), fs[i]? = some g → _ = ys[i]? := fun i g hg => by have := hx (i + 1) g (by simpa using hg); simpa using this
  obtain ⟨y, hy⟩ := h.2 enc w fuel _ x hx1
  obtain ⟨z, hz⟩ := h' H enc w fuel cs ys (by omega) (by simpa using hxl) hx3
  refine ⟨(y, z), (cs.drop o).take R.k, cs.drop o', ?_, ?_, hz⟩
  · rw [ho', ← List.drop_drop]; exact (List.take_append_drop _ _).symm
  · rw [ho, h.1] at hy; exact hy
theorem Opens.struct {fs : Array Field} {R : Rep α} (ht : P.underlying t = some (.struct fs)) (hc : P.cellsOf t = R.k) (h : OpensF P 0 fs.toList R) : Opens P t R := ⟨hc, fun enc w fuel cs x hx => by
  obtain ⟨xs, n, _, _, hl, hxl, hm⟩ := DataW.trod_struct ht hx
  obtain ⟨y, hy⟩ := h _ enc w n cs xs (by omega) (by simpa using hxl) (fun i f hf => hm i f (by simpa using hf))
  exact ⟨y, hy⟩⟩
theorem Opens.map {R : Rep α} (f : β → α) (g : α → β) (hg : ∀ x, f (g x) = x) (h : Opens P t R) : Opens P t (Rep.map f R) := ⟨h.1, fun enc w fuel cs x hx => by
  obtain ⟨y, hy⟩ := h.2 enc w fuel cs x hx
  exact ⟨g y, by show R.rd _ w (f (g y)) cs; rw [hg]; exact hy⟩⟩
end
end Go.Proofs.YtpkajhmgkmkcgaaDoor
