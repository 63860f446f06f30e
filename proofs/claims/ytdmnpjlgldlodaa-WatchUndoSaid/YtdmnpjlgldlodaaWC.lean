/-
  watch: the plain law of what follows at once: rounds end, what they add, soundness. No program.
-/
import Derived.Test.YtdmnpjlgldlodaaWB
namespace Go.Proofs.Ytdmnpjlgldlodaa
open Go.RowKit Go.Sort Go.Lib

/-- how many of these are not yet true -/
def meas (all S : List Int) : Nat := (all.filter fun x => !hasI S x).length
theorem meas_le (all S : List Int) : meas all S ≤ all.length := List.length_filter_le _ _
theorem meas_cons (y : Int) (l S : List Int) : meas (y :: l) S = (if hasI S y then 0 else 1) + meas l S := by
  unfold meas
  rw [List.filter_cons]
  cases hasI S y <;> simp <;> omega
theorem meas_add_le (all S : List Int) (x : Int) : meas all (addS S x) ≤ meas all S := by
  induction all with
  | nil => simp [meas]
  | cons y l ih =>
    rw [meas_cons, meas_cons, has_addS]
    cases hasI S y <;> cases (y == x) <;> simp <;> omega
theorem meas_add_lt {all S : List Int} {x : Int} (hx : x ∈ all) (h : hasI S x = false) : meas all (addS S x) + 1 ≤ meas all S := by
  induction all with
  | nil => cases hx
  | cons y l ih =>
    have hle := meas_add_le l S x
    rw [meas_cons, meas_cons, has_addS]
    by_cases e : y = x
    · subst e
      simp [h]
      omega
    · have hm : x ∈ l := by
        rcases List.mem_cons.1 hx with h1 | h1
        · exact absurd h1.symm e
        · exact h1
      have := ih hm
      have hyx : (y == x) = false := by simpa using e
      simp only [hyx, Bool.or_false]
      cases hasI S y <;> simp <;> omega
theorem len_add (S : List Int) (x : Int) : (addS S x).length = if hasI S x then S.length else S.length + 1 := by
  unfold addS; split <;> simp
theorem unit_facts {S c : List Int} (h : unitB S c = true) : nth (leftS S c) 0 ∈ c ∧ hasI S (nth (leftS S c) 0) = false ∧ hasI S (negL (nth (leftS S c) 0)) = false ∧ nth (leftS S c) 0 ≠ 0 ∧ leftS S c = [nth (leftS S c) 0] := by
  unfold unitB at h
  simp only [Bool.and_eq_true, beq_iff_eq, bne_iff_ne, ne_eq] at h
  obtain ⟨h1, h2, h3⟩ := h
  have hm : nth (leftS S c) 0 ∈ leftS S c := nth_mem (by omega)
  refine ⟨(List.mem_filter.1 hm).1, ?_, ?_, h2, ?_⟩
  · unfold valS at h3
    cases hh : hasI S (nth (leftS S c) 0)
    · rfl
    · rw [hh] at h3; cases h3
  · unfold valS at h3
    cases hh : hasI S (nth (leftS S c) 0)
    · rw [hh] at h3
      cases hh2 : hasI S (negL (nth (leftS S c) 0))
      · rfl
      · rw [hh2] at h3; cases h3
    · rw [hh] at h3; cases h3
  · obtain ⟨x, hx⟩ := List.length_eq_one_iff.1 h1
    rw [hx]; rfl

theorem rdS_meas (all : List Int) : ∀ (ls : List (List Int)) (S : List Int) (m : Bool), (∀ c ∈ ls, ∀ x ∈ c, x ∈ all) →
    meas all (rdS ls S m).1 ≤ meas all S ∧ ((rdS ls S m).2.1 = true → m = true ∨ meas all (rdS ls S m).1 + 1 ≤ meas all S) ∧ (rdS ls S m).1.length + meas all (rdS ls S m).1 ≤ S.length + meas all S
  | [], S, m, _ => ⟨Nat.le_refl _, fun h => .inl h, Nat.le_refl _⟩
  | c :: cs, S, m, h => by
    unfold rdS
    split
    · exact ⟨Nat.le_refl _, (fun h => by cases h), Nat.le_refl _⟩
    · split
      · rename_i hu
        obtain ⟨hc, hn, _⟩ := unit_facts hu
        have hlt := meas_add_lt (h c (by simp) _ hc) hn
        have ⟨h1, h2, h3⟩ := rdS_meas all cs (addS S (nth (leftS S c) 0)) true (fun c hc => h c (by simp [hc]))
        have hl := len_add S (nth (leftS S c) 0)
        rw [hn] at hl
        simp at hl
        exact ⟨by omega, fun _ => .inr (by omega), by omega⟩
      · exact rdS_meas all cs S m (fun c hc => h c (by simp [hc]))

/-- the rounds -/
def closeA (ls : List (List Int)) : Nat → List Int × Bool × Bool → Option (List Int)
  | f, (S, more, ok) => if ok == false then none else if more then (match f with | 0 => none | g + 1 => closeA ls g (rdS ls S false)) else some S
def givS : List Int → List Int → Option (List Int)
  | [], S => some S
  | x :: xs, S => if x == 0 then givS xs S else if valS S x == -1 then none else givS xs (addS S x)
def closeS (ls : List (List Int)) (given : List Int) : Option (List Int) :=
  match givS given [] with
  | none => none
  | some S => closeA ls (ls.flatten.length + 1) (rdS ls S false)
theorem mem_flat {ls : List (List Int)} : ∀ c ∈ ls, ∀ x ∈ c, x ∈ ls.flatten := fun c hc _ hx => List.mem_flatten.2 ⟨c, hc, hx⟩

/-! ### soundness: a truth of literals that makes all clauses true makes all that follows true -/
theorem left_true {S c : List Int} {T : Int → Bool} (hS : ∀ x ∈ S, T x = true) (hneg : ∀ x ∈ c, T x = true → T (negL x) = false) {x : Int} (hx : x ∈ c) (ht : T x = true) : x ∈ leftS S c := by
  unfold leftS
  rw [List.mem_filter]
  refine ⟨hx, ?_⟩
  unfold keepL valS
  cases h1 : hasI S x
  · cases h2 : hasI S (negL x)
    · simp
    · have := hS _ (hasI_iff.1 h2)
      rw [hneg x hx ht] at this
      cases this
  · simp
theorem rdS_sound (T : Int → Bool) : ∀ (ls : List (List Int)) (S : List Int) (m : Bool), (∀ c ∈ ls, ∀ x ∈ c, T x = true → T (negL x) = false) → (∀ c ∈ ls, ∃ x ∈ c, T x = true) → (∀ x ∈ S, T x = true) →
    (rdS ls S m).2.2 = true ∧ ∀ x ∈ (rdS ls S m).1, T x = true
  | [], S, m, _, _, hS => ⟨rfl, hS⟩
  | c :: cs, S, m, hn, hc, hS => by
    obtain ⟨x, hx, ht⟩ := hc c (by simp)
    have hl := left_true hS (hn c (by simp)) hx ht
    unfold rdS
    split
    · rename_i h0
      have : (leftS S c) = [] := List.eq_nil_of_length_eq_zero (by simpa using h0)
      rw [this] at hl; cases hl
    · split
      · rename_i hu
        obtain ⟨_, _, _, _, he⟩ := unit_facts hu
        rw [he] at hl
        have e : x = nth (leftS S c) 0 := by simpa using hl
        refine rdS_sound T cs _ _ (fun c hc' => hn c (by simp [hc'])) (fun c hc' => hc c (by simp [hc'])) (fun y hy => ?_)
        have hy' := hasI_iff.2 hy
        rw [has_addS] at hy'
        rcases Bool.or_eq_true_iff.1 hy' with h1 | h1
        · exact hS y (hasI_iff.1 h1)
        · have : y = nth (leftS S c) 0 := by simpa using h1
          rw [this, ← e]; exact ht
      · exact rdS_sound T cs _ _ (fun c hc' => hn c (by simp [hc'])) (fun c hc' => hc c (by simp [hc'])) hS
theorem givS_sound (T : Int → Bool) : ∀ (xs S : List Int), (∀ x ∈ xs, T x = true → T (negL x) = false) → (∀ x ∈ xs, x ≠ 0 → T x = true) → (∀ x ∈ S, T x = true) → ∃ S', givS xs S = some S' ∧ ∀ x ∈ S', T x = true
  | [], S, _, _, hS => ⟨S, rfl, hS⟩
  | x :: xs, S, hn, hx, hS => by
    unfold givS
    split
    · exact givS_sound T xs S (fun y hy => hn y (by simp [hy])) (fun y hy => hx y (by simp [hy])) hS
    · rename_i h0
      have ht := hx x (by simp) (by simpa using h0)
      split
      · rename_i hv
        exfalso
        have hv' : valS S x = -1 := by simpa using hv
        unfold valS at hv'
        cases h1 : hasI S x
        · rw [h1] at hv'
          cases h2 : hasI S (negL x)
          · rw [h2] at hv'; cases hv'
          · have := hS _ (hasI_iff.1 h2)
            rw [hn x (by simp) ht] at this
            cases this
        · rw [h1] at hv'; cases hv'
      · refine givS_sound T xs _ (fun y hy => hn y (by simp [hy])) (fun y hy => hx y (by simp [hy])) (fun y hy => ?_)
        have hy' := hasI_iff.2 hy
        rw [has_addS] at hy'
        rcases Bool.or_eq_true_iff.1 hy' with h1 | h1
        · exact hS y (hasI_iff.1 h1)
        · have : y = x := by simpa using h1
          rw [this]; exact ht
theorem closeA_sound (T : Int → Bool) (ls : List (List Int)) (hn : ∀ c ∈ ls, ∀ x ∈ c, T x = true → T (negL x) = false) (hc : ∀ c ∈ ls, ∃ x ∈ c, T x = true) :
    ∀ (f : Nat) (r : List Int × Bool × Bool), r.2.2 = true → (r.2.1 = true → meas ls.flatten r.1 + 1 ≤ f) → (∀ x ∈ r.1, T x = true) → ∃ S, closeA ls f r = some S ∧ ∀ x ∈ S, T x = true
  | f, (S, more, ok), hok, hf, hS => by
    dsimp only at hok hf hS
    subst hok
    unfold closeA
    cases more with
    | false => exact ⟨S, rfl, hS⟩
    | true =>
      have hf' := hf rfl
      cases f with
      | zero => omega
      | succ g =>
        have h1 := rdS_sound T ls S false hn hc hS
        have h2 := rdS_meas ls.flatten ls S false mem_flat
        refine closeA_sound T ls hn hc g (rdS ls S false) h1.1 (fun hm => ?_) h1.2
        rcases h2.2.1 hm with h3 | h3
        · cases h3
        · omega
theorem closeS_sound (T : Int → Bool) (ls : List (List Int)) (given : List Int) (hn : ∀ c ∈ ls, ∀ x ∈ c, T x = true → T (negL x) = false) (hc : ∀ c ∈ ls, ∃ x ∈ c, T x = true)
    (hgn : ∀ x ∈ given, T x = true → T (negL x) = false) (hg : ∀ x ∈ given, x ≠ 0 → T x = true) : ∃ S, closeS ls given = some S ∧ ∀ x ∈ S, T x = true := by
  obtain ⟨S0, h0, hS0⟩ := givS_sound T given [] hgn hg (by simp)
  unfold closeS
  rw [h0]
  have h1 := rdS_sound T ls S0 false hn hc hS0
  have h2 := rdS_meas ls.flatten ls S0 false mem_flat
  refine closeA_sound T ls hn hc _ _ h1.1 (fun hm => ?_) h1.2
  have := meas_le ls.flatten S0
  rcases h2.2.1 hm with h3 | h3
  · cases h3
  · omega
end Go.Proofs.Ytdmnpjlgldlodaa
