/-
  The plain law of clauses: the order of literals by size, the one form of a clause ('nrm', 'alw'), what two clauses resolve to. No program. No condition.
-/
import Derived.Lib.SlicesCompact
import Derived.Shelf.SlSortCmp.Insertion
namespace Go.Proofs.Ytglbdkjdglcncaa
open Go.Sort

/-- clause.Size (of every number: of an int it is its absolute value: 'sz_wf') -/
def sz (x : Int) : Int := if x < 0 then (-x) % 18446744073709551616 else x % 18446744073709551616
theorem sz_wf {x : Int} (h : -9223372036854775808 ≤ x ∧ x ≤ 9223372036854775807) : sz x = x.natAbs := by unfold sz; split <;> omega
theorem sz_bd (x : Int) : 0 ≤ sz x ∧ sz x ≤ 18446744073709551615 := by unfold sz; split <;> omega
def ltC (a b : Int) : Bool := decide (sz a < sz b ∨ (sz a = sz b ∧ b < a))
/-- clause.Order -/
def cfC (a b : Int) : Int := if Lib.compareInt (sz a) (sz b) = 0 then Lib.compareInt b a else Lib.compareInt (sz a) (sz b)

theorem lt_cf (a b : Int) : ltOf cfC a b = ltC a b := by
  unfold ltOf cfC ltC Lib.compareInt
  rw [decide_eq_decide]
  repeat' split
  all_goals omega
theorem ltC_iff {a b : Int} : ltC a b = true ↔ (sz a < sz b ∨ (sz a = sz b ∧ b < a)) := by simp [ltC]
theorem ltC_irrefl (a : Int) : ltC a a = false := by simp [ltC]
theorem ltC_trans {a b c : Int} (h1 : ltC a b = true) (h2 : ltC b c = true) : ltC a c = true := by rw [ltC_iff] at *; omega
theorem ltC_asymm {a b : Int} (h1 : ltC a b = true) (h2 : ltC b a = true) : False := by rw [ltC_iff] at *; omega
theorem ltC_total {a b : Int} (h1 : ltC a b = false) (h2 : ltC b a = false) : a = b := by
  have p := mt (ltC_iff (a := a) (b := b)).2 (by simp [h1])
  have q := mt (ltC_iff (a := b) (b := a)).2 (by simp [h2])
  omega
theorem swoC : SWO (ltOf cfC) where
  irrefl x := by rw [lt_cf]; exact ltC_irrefl x
  trans x y z h1 h2 := by rw [lt_cf] at *; exact ltC_trans h1 h2
  ntrans x y z h1 h2 := by
    rw [lt_cf] at *
    unfold ltC at *
    simp only [decide_eq_false_iff_not] at *
    omega
theorem totC (x y : Int) (h1 : ltOf cfC x y = false) (h2 : ltOf cfC y x = false) : x = y := by rw [lt_cf] at *; exact ltC_total h1 h2

/-- put in its place, once -/
def ins (x : Int) : List Int → List Int
  | [] => [x]
  | y :: l => if x = y then y :: l else if ltC x y then x :: y :: l else y :: ins x l
/-- in order, each once -/
def nrm : List Int → List Int
  | [] => []
  | x :: l => ins x (nrm l)
def StrictC (l : List Int) : Prop := l.Pairwise fun a b => ltC a b = true

theorem mem_ins (x y : Int) (l : List Int) : y ∈ ins x l ↔ y = x ∨ y ∈ l := by
  induction l with
  | nil => simp [ins]
  | cons z l ih =>
    unfold ins
    split
    · subst_vars; simp
    · split
      · simp
      · simp only [List.mem_cons, ih]
        constructor <;> (intro h; rcases h with h | h | h <;> simp [h])
theorem mem_nrm (y : Int) (l : List Int) : y ∈ nrm l ↔ y ∈ l := by
  induction l with
  | nil => simp [nrm]
  | cons x l ih => simp [nrm, mem_ins, ih]
theorem strict_ins (x : Int) (l : List Int) (h : StrictC l) : StrictC (ins x l) := by
  induction l with
  | nil => simp [ins, StrictC]
  | cons z l ih =>
    unfold ins
    obtain ⟨h1, h2⟩ := List.pairwise_cons.1 h
    split
    · exact h
    · rename_i hne
      split
      · rename_i hlt
        refine List.pairwise_cons.2 ⟨fun a ha => ?_, h⟩
        rcases List.mem_cons.1 ha with rfl | ha
        · exact hlt
        · exact ltC_trans hlt (h1 a ha)
      · rename_i hlt
        refine List.pairwise_cons.2 ⟨fun a ha => ?_, ih h2⟩
        rcases (mem_ins x a l).1 ha with rfl | ha
        · cases hz : ltC z a
          · exact absurd (ltC_total hz (by simpa using hlt)).symm hne
          · rfl
        · exact h1 a ha
theorem strict_nrm (l : List Int) : StrictC (nrm l) := by
  induction l with
  | nil => simp [nrm, StrictC]
  | cons x l ih => exact strict_ins x _ ih
/-- The same literals in strict order are the same list. -/
theorem strict_unique : ∀ (l m : List Int), StrictC l → StrictC m → (∀ x, x ∈ l ↔ x ∈ m) → l = m
  | [], [], _, _, _ => rfl
  | [], y :: m, _, _, h => by have := (h y).2 (by simp); simp at this
  | x :: l, [], _, _, h => by have := (h x).1 (by simp); simp at this
  | x :: l, y :: m, h1, h2, h => by
    obtain ⟨p1, q1⟩ := List.pairwise_cons.1 h1
    obtain ⟨p2, q2⟩ := List.pairwise_cons.1 h2
    have hxy : x = y := by
      rcases List.mem_cons.1 ((h x).1 (by simp)) with e | e
      · exact e
      · rcases List.mem_cons.1 ((h y).2 (by simp)) with e' | e'
        · exact e'.symm
        · exact (ltC_asymm (p1 y e') (p2 x e)).elim
    subst hxy
    rw [strict_unique l m q1 q2 fun z => ?_]
    constructor
    · intro hz
      rcases List.mem_cons.1 ((h z).1 (by simp [hz])) with e | e
      · subst e; have := p1 z hz; rw [ltC_irrefl] at this; cases this
      · exact e
    · intro hz
      rcases List.mem_cons.1 ((h z).2 (by simp [hz])) with e | e
      · subst e; have := p2 z hz; rw [ltC_irrefl] at this; cases this
      · exact e
theorem nrm_congr {l m : List Int} (h : ∀ x, x ∈ l ↔ x ∈ m) : nrm l = nrm m :=
  strict_unique _ _ (strict_nrm l) (strict_nrm m) fun x => by rw [mem_nrm, mem_nrm]; exact h x

/-- place i holds a nought, or a literal of the size of the one before -/
def badAt (l : List Int) (i : Nat) : Bool := l.getD i 0 == 0 || (decide (0 < i) && sz (l.getD i 0) == sz (l.getD (i - 1) 0))
def bad (l : List Int) : Bool := (List.range l.length).any (badAt l)
theorem bad_none {l : List Int} (h : ∀ j, j < l.length → badAt l j = false) : bad l = false := by
  unfold bad
  rw [List.any_eq_false]
  intro j hj
  simp [h j (by simpa using hj)]
theorem bad_some {l : List Int} {j : Nat} (hj : j < l.length) (h : badAt l j = true) : bad l = true := by
  unfold bad
  rw [List.any_eq_true]
  exact ⟨j, by simpa using hj, h⟩
def alw (l : List Int) : Bool := bad (nrm l)
/-- what Norm hands back -/
def nout (l : List Int) : List Int := if alw l then [] else nrm l

/-! ### slices.Compact behind a sort -/
theorem compact_snoc (zs : List Int) (z : Int) : Lib.compact (zs ++ [z]) = Lib.compact zs ++ (if zs.getLast? = some z then [] else [z]) := by
  unfold Lib.compact
  rw [List.length_append, List.length_singleton, Lib.compactUpTo_succ]
  congr 1
  · unfold Lib.compactUpTo
    rw [List.filter_congr (q := Lib.keeps zs.toArray)]
    · apply List.map_congr_left
      intro j hj
      have : j < zs.length := by simpa using (List.mem_filter.1 hj).1
      simp [List.getElem?_append_left this]
    · intro j hj
      have : j < zs.length := by simpa using hj
      unfold Lib.keeps
      simp [List.getElem?_append_left this, List.getElem?_append_left (show j - 1 < zs.length by omega)]
  · rcases List.eq_nil_or_concat zs with rfl | ⟨ys, y, rfl⟩
    · simp [Lib.keeps]
    · simp only [List.concat_eq_append, List.length_append, List.length_singleton, List.getLast?_append, List.getLast?_singleton, Option.some_or, Option.some.injEq]
      by_cases e : y = z
      · subst e
        rw [if_pos rfl, if_neg]
        simp [Lib.keeps]
      · rw [if_neg e, if_pos]
        · simp
        · simp [Lib.keeps]
          intro e'; exact e e'.symm
theorem last_compact (zs : List Int) : (Lib.compact zs).getLast? = zs.getLast? := by
  rcases List.eq_nil_or_concat zs with rfl | ⟨ys, y, rfl⟩
  · rfl
  · have ih := last_compact ys
    rw [List.concat_eq_append, compact_snoc]
    split
    · rename_i h; simp [ih, h]
    · simp
  termination_by zs.length
  decreasing_by subst_vars; simp
theorem mem_compact (x : Int) (zs : List Int) : x ∈ Lib.compact zs ↔ x ∈ zs := by
  rcases List.eq_nil_or_concat zs with rfl | ⟨ys, y, rfl⟩
  · simp [Lib.compact, Lib.compactUpTo]
  · have ih := mem_compact x ys
    rw [List.concat_eq_append, compact_snoc]
    split
    · rename_i h
      have := List.mem_of_getLast? h
      simp [ih]
      rintro rfl; exact this
    · simp [ih]
  termination_by zs.length
  decreasing_by subst_vars; simp
theorem strict_compact (zs : List Int) (h : zs.Pairwise fun a b => ltC b a = false) : StrictC (Lib.compact zs) := by
  rcases List.eq_nil_or_concat zs with rfl | ⟨ys, y, rfl⟩
  · simp [Lib.compact, Lib.compactUpTo, StrictC]
  · rw [List.concat_eq_append] at *
    have h' := List.pairwise_append.1 h
    have ih := strict_compact ys h'.1
    rw [compact_snoc]
    split
    · simpa using ih
    · rename_i hl
      refine List.pairwise_append.2 ⟨ih, by simp, fun a ha b hb => ?_⟩
      simp at hb
      subst hb
      have hay := (mem_compact a ys).1 ha
      have h3 := h'.2.2 a hay b (by simp)
      cases hab : ltC a b
      · have e := ltC_total hab h3
        subst e
        -- the last of compact ys is not a, so a stands before it
        exfalso
        rcases List.eq_nil_or_concat ys with rfl | ⟨vs, v, rfl⟩
        · simp at hay
        · rw [List.concat_eq_append] at *
          have hv : v ≠ a := by intro e; subst e; simp at hl
          have hva := h'.2.2 v (by simp) a (by simp)
          have hav : a ∈ vs := by simpa [Ne.symm hv] using hay
          have hav2 := (List.pairwise_append.1 h'.1).2.2 a hav v (by simp)
          exact hv (ltC_total (by
            cases hx : ltC v a
            · rfl
            · rw [hx] at hav2; cases hav2) hva)
      · rfl
  termination_by zs.length
  decreasing_by subst_vars; simp

/-- what the row holds behind the sort and Compact -/
theorem compact_sorted (l : List Int) : Lib.compact (l.mergeSort fun x y => !(ltOf cfC) y x) = nrm l := by
  have hp : (l.mergeSort fun x y => !(ltOf cfC) y x).Pairwise fun a b => ltC b a = false := by
    have := List.pairwise_mergeSort (le := fun x y => !(ltOf cfC) y x) (fun a b c h1 h2 => by
      simp only [Bool.not_eq_true'] at *
      exact swoC.ntrans _ _ _ h2 h1) (fun a b => by
      simp only [lt_cf]
      cases h1 : ltC b a <;> cases h2 : ltC a b <;> simp
      exact ltC_asymm h1 h2) l
    refine this.imp ?_
    intro a b h
    simpa [lt_cf] using h
  refine strict_unique _ _ (strict_compact _ hp) (strict_nrm l) fun x => ?_
  rw [mem_compact, mem_nrm, List.mem_mergeSort]
end Go.Proofs.Ytglbdkjdglcncaa
