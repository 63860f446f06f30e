/-
  SortsFuns: the plain law: letters, the table as the law fills it, the sorted row told by the counts. No program in sight. No condition.
-/
import Derived.Test.YtpkajhmgkmkcgaaDoorSP
import Derived.Test.YtpkajhmgkmkcgaaDoorSL
namespace Go.Proofs.YtpkajhmgkmkcgaaDoor
open Go.RowKit Go.Sort Go.Lib

def letter (k : Nat) : ByteArray := ⟨#[UInt8.ofNat (97 + k)]⟩
def mkF (k : Nat) : FunD := ⟨letter k, [1], ((k % 2 : Nat) : Int)⟩
def fT (ks : List Nat) : TabD := ⟨[], ks.map mkF, []⟩
theorem letter_data (k : Nat) : (letter k).data.toList = [UInt8.ofNat (97 + k)] := rfl
theorem letter_may : ∀ k, k < 26 → mayB (letter k) = true := by
  have h : ∀ k, k < 26 → (!(letter k).data.toList.isEmpty && (decide ((letter k).size ≤ 200) && !resB (letter k))) = true := by decide +kernel
  intro k hk; rw [mayB_data]; exact h k hk
theorem letter_eq : ∀ j, j < 26 → ∀ k, k < 26 → eqS (letter j) (letter k) = decide (j = k) := by
  have h : ∀ j, j < 26 → ∀ k, k < 26 → ((letter j).data.toList == (letter k).data.toList) = decide (j = k) := by decide +kernel
  intro j hj k hk; rw [eqS_data]; exact h j hj k hk
theorem letter_lt : ∀ j, j < 26 → ∀ k, k < 26 → ltS (letter j) (letter k) = decide (j < k) := by
  have h : ∀ j, j < 26 → ∀ k, k < 26 → Op.bytesLess (letter j).data.toList (letter k).data.toList = decide (j < k) := by decide +kernel
  intro j hj k hk; unfold ltS; rw [toL, toL]; exact h j hj k hk
theorem findF_no {ks : List Nat} {k : Nat} (hk : k < 26) (hb : ∀ x ∈ ks, x < 26) (h : k ∉ ks) : findF (fT ks) (letter k) = none := by
  unfold findF fT
  rw [List.find?_eq_none]
  intro f hf
  obtain ⟨x, hx, rfl⟩ := List.mem_map.1 hf
  have hxk : x ≠ k := fun e => h (e ▸ hx)
  simp [mkF, letter_eq x (hb x hx) k hk, hxk]
theorem findF_yes {ks : List Nat} {k : Nat} (hk : k < 26) (h : k ∈ ks) : (findF (fT ks) (letter k)).isSome = true := by
  unfold findF fT
  rw [List.find?_isSome]
  exact ⟨mkF k, List.mem_map.2 ⟨k, h, rfl⟩, by simp [mkF, letter_eq k hk k hk]⟩
theorem fun_old {ks : List Nat} {k : Nat} (hk : k < 26) (h : k ∈ ks) : errFun (fT ks) (mkF k) = 1 ∧ addFun (fT ks) (mkF k) = fT ks := by
  have e : errFun (fT ks) (mkF k) = 1 := by
    unfold errFun mayFunB
    have := findF_yes hk h
    have hn : (mkF k).name = letter k := rfl
    rw [hn, this]
    simp
  exact ⟨e, by unfold addFun; rw [e]; simp⟩
theorem fun_new {ks : List Nat} {k : Nat} (hk : k < 26) (hb : ∀ x ∈ ks, x < 26) (h : k ∉ ks) (hl : ks.length ≤ 20) : errFun (fT ks) (mkF k) = 0 ∧ addFun (fT ks) (mkF k) = fT (ks ++ [k]) := by
  have e : errFun (fT ks) (mkF k) = 0 := by
    have h1 := findF_no hk hb h
    have h2 := letter_may k hk
    have h3 : isB 0 ((k : Int) % 2) = true := by unfold isB; simp; omega
    have h4 : argBad 0 1 = false := by decide
    have h5 : ¬ 1000 ≤ ks.length := by omega
    unfold errFun mayFunB
    simp only [mkF, h1, h2]
    simp [fT, h3, h4, h5]
  exact ⟨e, by unfold addFun; rw [e]; simp [fT]⟩
theorem fT_small {ks : List Nat} (hl : ks.length ≤ 20) : Small (fT ks) :=
  ⟨by simp [fT], by simp [fT]; omega, by simp [fT], fun f hf => by obtain ⟨x, _, rfl⟩ := List.mem_map.1 hf; simp [mkF]⟩

/-- the law's row of flags -/
def haveV (ks : List Nat) : Array Value := ((List.range 26).map fun k => Value.bool (decide (k ∈ ks))).toArray
theorem haveV_nil : haveV [] = (List.replicate 26 (Value.bool false)).toArray := by unfold haveV; simp; rfl
theorem haveV_at {ks : List Nat} {k : Nat} (h : k < 26) : (haveV ks)[k]? = some (.bool (decide (k ∈ ks))) := by simp [haveV, h]
theorem haveV_set {ks : List Nat} {k : Nat} (h : k < 26) : (haveV ks).set! k (.bool true) = haveV (ks ++ [k]) := by
  apply Array.ext_getElem?
  intro i
  rw [Array.set!_eq_setIfInBounds, Array.getElem?_setIfInBounds]
  by_cases hi : i < 26
  · rw [haveV_at hi, haveV_at hi]
    by_cases e : k = i
    · subst e
      have : k < (haveV ks).size := by simp [haveV, hi]
      simp [this]
    · have e' : i ≠ k := Ne.symm e
      simp [e, e']
  · have h1 : (haveV ks)[i]? = none := by rw [Array.getElem?_eq_none_iff]; simp [haveV]; omega
    have h2 : (haveV (ks ++ [k]))[i]? = none := by rw [Array.getElem?_eq_none_iff]; simp [haveV]; omega
    rw [h1, h2, if_neg (by omega)]
theorem haveV_same {ks : List Nat} {k : Nat} (h : k < 26) (hm : k ∈ ks) : (haveV ks).set! k (.bool true) = haveV ks := by
  rw [haveV_set h]
  unfold haveV
  congr 1
  apply List.map_congr_left
  intro i _
  by_cases e : i ∈ ks
  · simp [e]
  · have : i ≠ k := fun e2 => e (e2 ▸ hm)
    simp [e, this]

/-- all letters below n that stand, in order -/
def upTo (ks : List Nat) (n : Nat) : List Nat := (List.range n).filter fun k => decide (k ∈ ks)
theorem upTo_succ (ks : List Nat) (n : Nat) : upTo ks (n + 1) = upTo ks n ++ if n ∈ ks then [n] else [] := by
  unfold upTo
  rw [List.range_succ, List.filter_append]
  by_cases h : n ∈ ks <;> simp [h]
theorem upTo_at (ks : List Nat) : ∀ (n k : Nat), k < n → k ∈ ks → (upTo ks n)[(upTo ks k).length]? = some k
  | 0, k, h, _ => by omega
  | n + 1, k, h, hm => by
    rw [upTo_succ]
    by_cases e : k < n
    · have h1 := upTo_at ks n k e hm
      have h2 := (List.getElem?_eq_some_iff.1 h1).1
      rw [List.getElem?_append_left h2]; exact h1
    · obtain rfl : k = n := by omega
      rw [List.getElem?_append_right (Nat.le_refl _)]
      simp [hm]
theorem upTo_perm {ks : List Nat} (hn : ks.Nodup) (hb : ∀ x ∈ ks, x < 26) : (upTo ks 26).Perm ks := by
  have h1 : (upTo ks 26).Nodup := List.Pairwise.filter _ List.nodup_range
  rw [List.perm_iff_count]
  intro a
  rw [h1.count, hn.count]
  have : a ∈ upTo ks 26 ↔ a ∈ ks := by
    unfold upTo
    simp only [List.mem_filter, List.mem_range, decide_eq_true_eq]
    exact ⟨fun h => h.2, fun h => ⟨hb a h, h⟩⟩
  simp only [this]
theorem upTo_lt {ks : List Nat} {n x : Nat} (h : x ∈ upTo ks n) : x < n := by
  unfold upTo at h
  exact List.mem_range.1 (List.mem_filter.1 h).1
theorem upTo_sorted (ks : List Nat) : ByName ((upTo ks 26).map mkF) := by
  unfold ByName
  rw [List.pairwise_map]
  have h : (upTo ks 26).Pairwise (· < ·) := List.Pairwise.filter _ List.pairwise_lt_range
  refine List.Pairwise.imp_of_mem ?_ h
  intro a b ha hb hab
  show ltS (letter b) (letter a) = false
  rw [letter_lt b (upTo_lt hb) a (upTo_lt ha)]
  simp; omega
theorem sorted_is {ks : List Nat} (hn : ks.Nodup) (hb : ∀ x ∈ ks, x < 26) {gs : List FunD} (hp : gs.Perm (ks.map mkF)) (hs : ByName gs) : gs = (upTo ks 26).map mkF := by
  have hp2 : gs.Perm ((upTo ks 26).map mkF) := hp.trans ((upTo_perm hn hb).map mkF).symm
  have hs1 : gs.Pairwise (fun a b => ltS b.name a.name = false) := hs
  have hs2 : ((upTo ks 26).map mkF).Pairwise (fun a b => ltS b.name a.name = false) := upTo_sorted ks
  refine List.Perm.eq_of_pairwise (le := fun a b : FunD => ltS b.name a.name = false) ?_ hs1 hs2 hp2
  intro a b ha hb2 h1 h2
  obtain ⟨y, hy, rfl⟩ := List.mem_map.1 hb2
  obtain ⟨x, hx, rfl⟩ := List.mem_map.1 (hp2.mem_iff.1 ha)
  have hx' := upTo_lt hx
  have hy' := upTo_lt hy
  change ltS (letter y) (letter x) = false at h1
  change ltS (letter x) (letter y) = false at h2
  rw [letter_lt y hy' x hx'] at h1
  rw [letter_lt x hx' y hy'] at h2
  simp at h1 h2
  obtain rfl : x = y := by omega
  rfl
theorem upTo_len {ks : List Nat} (hn : ks.Nodup) (hb : ∀ x ∈ ks, x < 26) : (upTo ks 26).length = ks.length := (upTo_perm hn hb).length_eq
end Go.Proofs.YtpkajhmgkmkcgaaDoor
