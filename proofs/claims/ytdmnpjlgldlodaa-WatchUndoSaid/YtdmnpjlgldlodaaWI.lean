/-
  watch: the plain law of what Set tells: folds over clauses in any order. No program.
-/
import Derived.Test.YtdmnpjlgldlodaaWH
namespace Go.Proofs.Ytdmnpjlgldlodaa
open Go.RowKit Go.Sort Go.Lib Go.Maps

def badL (S l : List Int) : Bool := !(l.length == 0) && (leftS S l).length == 0
def unitL (S l : List Int) : Bool := (leftS S l).length == 1 && valS S (nth (leftS S l) 0) == 0
def badAtC (C : List (Int × List Int)) (S : List Int) (id : Int) : Bool := match findC C id with
  | none => false
  | some l => badL S l
def unitAtC (C : List (Int × List Int)) (S : List Int) (id : Int) : Option Int := match findC C id with
  | none => none
  | some l => if unitL S l then some (nth (leftS S l) 0) else none
def stepC (C : List (Int × List Int)) (S : List Int) (r : Bool × Int) (id : Int) : Bool × Int := if badAtC C S id && (!r.1 || decide (id < r.2)) then (true, id) else r
def foldC (C : List (Int × List Int)) (S L : List Int) : Bool × Int := L.foldl (stepC C S) (false, 0)
def unitsC (C : List (Int × List Int)) (S L : List Int) : List Int := L.filterMap (unitAtC C S)
def idsC (C : List (Int × List Int)) : List Int := C.map (·.1)
def setC (C : List (Int × List Int)) (S : List Int) : Int := if (foldC C S (idsC C)).1 then (foldC C S (idsC C)).2 else -1
def setU (C : List (Int × List Int)) (S : List Int) : List Int := if (foldC C S (idsC C)).1 then [] else nrm (unitsC C S (idsC C))

def InvC (C : List (Int × List Int)) (S L : List Int) (r : Bool × Int) : Prop :=
  (r.1 = true → r.2 ∈ L ∧ badAtC C S r.2 = true ∧ ∀ y ∈ L, badAtC C S y = true → r.2 ≤ y) ∧ (r.1 = false → r.2 = 0 ∧ ∀ y ∈ L, badAtC C S y = false)
theorem InvC.step {C : List (Int × List Int)} {S L : List Int} {r : Bool × Int} (h : InvC C S L r) (id : Int) : InvC C S (L ++ [id]) (stepC C S r id) := by
  obtain ⟨b, c⟩ := r
  obtain ⟨h1, h2⟩ := h
  unfold stepC
  cases hb : badAtC C S id
  · refine ⟨fun h => ?_, fun h => ?_⟩
    · obtain ⟨g1, g2, g3⟩ := h1 h
      refine ⟨List.mem_append_left _ g1, g2, fun y hy hy2 => ?_⟩
      rcases List.mem_append.1 hy with hy | hy
      · exact g3 y hy hy2
      · simp at hy; subst hy; rw [hb] at hy2; cases hy2
    · obtain ⟨g1, g2⟩ := h2 h
      refine ⟨g1, fun y hy => ?_⟩
      rcases List.mem_append.1 hy with hy | hy
      · exact g2 y hy
      · simp at hy; subst hy; exact hb
  · cases b
    · refine ⟨fun _ => ⟨by simp, hb, fun y hy hy2 => ?_⟩, fun h => by cases h⟩
      rcases List.mem_append.1 hy with hy | hy
      · have := (h2 rfl).2 y hy; rw [this] at hy2; cases hy2
      · simp at hy; subst hy; exact Int.le_refl _
    · obtain ⟨g1, g2, g3⟩ := h1 rfl
      by_cases hlt : id < c
      · have : ((true && (!true || decide (id < c))) = true) := by simp [hlt]
        simp only [this, if_true]
        refine ⟨fun _ => ⟨by simp, hb, fun y hy hy2 => ?_⟩, fun h => by cases h⟩
        rcases List.mem_append.1 hy with hy | hy
        · have := g3 y hy hy2
          show id ≤ y
          have : c ≤ y := this
          omega
        · simp at hy; subst hy; exact Int.le_refl _
      · have : ((true && (!true || decide (id < c))) = false) := by simp [hlt]
        simp only [this]
        refine ⟨fun _ => ⟨List.mem_append_left _ g1, g2, fun y hy hy2 => ?_⟩, fun h => by cases h⟩
        rcases List.mem_append.1 hy with hy | hy
        · exact g3 y hy hy2
        · simp at hy; subst hy
          show c ≤ y
          omega
theorem InvC.fold {C : List (Int × List Int)} {S : List Int} : ∀ (L L0 : List Int) (r : Bool × Int), InvC C S L0 r → InvC C S (L0 ++ L) (L.foldl (stepC C S) r)
  | [], L0, r, h => by simpa using h
  | x :: L, L0, r, h => by
    have := InvC.fold L (L0 ++ [x]) _ (h.step x)
    rw [List.append_assoc] at this
    exact this
theorem foldC_inv (C : List (Int × List Int)) (S L : List Int) : InvC C S L (foldC C S L) := by
  have := InvC.fold (C := C) (S := S) L [] (false, 0) ⟨(fun h => by cases h), fun _ => ⟨rfl, by simp⟩⟩
  exact this
theorem foldC_congr {C : List (Int × List Int)} {S L L' : List Int} (h : ∀ x, x ∈ L ↔ x ∈ L') : foldC C S L = foldC C S L' := by
  obtain ⟨a1, a2⟩ := foldC_inv C S L
  obtain ⟨b1, b2⟩ := foldC_inv C S L'
  generalize foldC C S L = r at *
  generalize foldC C S L' = r' at *
  obtain ⟨x, y⟩ := r
  obtain ⟨x', y'⟩ := r'
  cases x
  · obtain ⟨c1, c2⟩ := a2 rfl
    cases x'
    · obtain ⟨d1, d2⟩ := b2 rfl
      simp at c1 d1; rw [c1, d1]
    · obtain ⟨d1, d2, d3⟩ := b1 rfl
      have := c2 _ ((h _).2 d1)
      rw [this] at d2; cases d2
  · obtain ⟨c1, c2, c3⟩ := a1 rfl
    cases x'
    · obtain ⟨d1, d2⟩ := b2 rfl
      have := d2 _ ((h _).1 c1)
      rw [this] at c2; cases c2
    · obtain ⟨d1, d2, d3⟩ := b1 rfl
      have e1 : y ≤ y' := c3 _ ((h _).2 d1) d2
      have e2 : y' ≤ y := d3 _ ((h _).1 c1) c2
      have : y = y' := by omega
      rw [this]
theorem foldC_snoc (C : List (Int × List Int)) (S L : List Int) (id : Int) : foldC C S (L ++ [id]) = stepC C S (foldC C S L) id := by
  unfold foldC; rw [List.foldl_append]; rfl
theorem unitsC_congr {C : List (Int × List Int)} {S L L' : List Int} (h : ∀ x, x ∈ L ↔ x ∈ L') : nrm (unitsC C S L) = nrm (unitsC C S L') :=
  nrm_congr fun x => by unfold unitsC; simp only [List.mem_filterMap, h]
theorem unitsC_snoc (C : List (Int × List Int)) (S L : List Int) (id : Int) : unitsC C S (L ++ [id]) = unitsC C S L ++ (unitAtC C S id).toList := by
  unfold unitsC; rw [List.filterMap_append]; congr 1
theorem unitsC_len (C : List (Int × List Int)) (S L : List Int) : (unitsC C S L).length ≤ L.length := List.length_filterMap_le _ _
theorem findC_ids {C : List (Int × List Int)} {id : Int} : (findC C id).isSome = true ↔ id ∈ idsC C := by
  unfold findC idsC
  rw [Option.isSome_map, List.find?_isSome]
  simp only [List.mem_map, beq_iff_eq]
theorem wf_unitsC {C : List (Int × List Int)} {S L : List Int} (h : ∀ id l, findC C id = some l → WfI l) : WfI (unitsC C S L) := fun x hx => by
  unfold unitsC at hx
  obtain ⟨id, _, h2⟩ := List.mem_filterMap.1 hx
  unfold unitAtC at h2
  split at h2
  · cases h2
  · rename_i l hl
    split at h2
    · rename_i hu
      cases h2
      unfold unitL at hu
      simp at hu
      exact h id l hl _ (List.mem_filter.1 (nth_mem (xs := leftS S l) (j := 0) (by omega))).1
    · cases h2
end Go.Proofs.Ytdmnpjlgldlodaa
