/-
  SortsLevels: the plain law: the names S.. and f.., the table as the law fills it level by level, what Pop leaves. No program in sight. No condition.
-/
import Derived.Test.YtpkajhmgkmkcgaaDoorSP
import Derived.Test.YtpkajhmgkmkcgaaDoorSQ
namespace Go.Proofs.YtpkajhmgkmkcgaaDoor
open Go.RowKit Go.Sort Go.Lib

abbrev sN (j : Nat) : ByteArray := (⟨#[83]⟩ : ByteArray) ++ letter j
abbrev fN (j : Nat) : ByteArray := (⟨#[102]⟩ : ByteArray) ++ letter j
def sNew : ByteArray := ⟨#[110, 101, 119]⟩
def lF (j : Nat) : FunD := ⟨fN j, [(j : Int) + 2], (j : Int) + 2⟩
def lT (a b : Nat) (ms : List (Nat × Nat)) : TabD := ⟨(List.range a).map sN, (List.range b).map lF, ms⟩
theorem sN_data : ∀ j, (sN j).data.toList = [83, UInt8.ofNat (97 + j)] := by
  intro j; simp [sN, letter]
theorem fN_data : ∀ j, (fN j).data.toList = [102, UInt8.ofNat (97 + j)] := by
  intro j; simp [fN, letter]
theorem sN_may : ∀ j, j < 33 → mayB (sN j) = true := by
  have h : ∀ j, j < 33 → (!(sN j).data.toList.isEmpty && (decide ((sN j).size ≤ 200) && !resB (sN j))) = true := by decide +kernel
  intro j hj; rw [mayB_data]; exact h j hj
theorem fN_may : ∀ j, j < 33 → mayB (fN j) = true := by
  have h : ∀ j, j < 33 → (!(fN j).data.toList.isEmpty && (decide ((fN j).size ≤ 200) && !resB (fN j))) = true := by decide +kernel
  intro j hj; rw [mayB_data]; exact h j hj
theorem new_may : mayB sNew = true := by
  have h : (!sNew.data.toList.isEmpty && (decide (sNew.size ≤ 200) && !resB sNew)) = true := by decide +kernel
  rw [mayB_data]; exact h
theorem byte_inj {j k : Nat} (hj : j < 33) (hk : k < 33) (h : UInt8.ofNat (97 + j) = UInt8.ofNat (97 + k)) : j = k := by
  have h1 := congrArg UInt8.toNat h
  simp at h1
  omega
theorem sN_inj {j k : Nat} (hj : j < 33) (hk : k < 33) (h : sN j = sN k) : j = k := by
  have h1 := congrArg (fun s : ByteArray => s.data.toList) h
  simp only [sN_data] at h1
  simp at h1
  exact byte_inj hj hk (by rw [UInt8.ofNat_add, UInt8.ofNat_add, h1])
theorem fN_eq {j k : Nat} (hj : j < 33) (hk : k < 33) : eqS (fN j) (fN k) = decide (j = k) := by
  rw [eqS_data, fN_data, fN_data]
  by_cases e : j = k
  · subst e; simp
  · have : UInt8.ofNat (97 + j) ≠ UInt8.ofNat (97 + k) := fun h => e (byte_inj hj hk h)
    rw [show decide (j = k) = false by simpa using e]
    rw [beq_eq_false_iff_ne]
    intro h
    exact this (by injection h with _ h; injection h)
theorem new_ne (j : Nat) : sN j ≠ sNew := fun h => by
  have h1 := congrArg (fun s : ByteArray => s.data.toList) h
  simp only [sN_data] at h1
  exact absurd h1 (by simp [sNew])
theorem sorts_len (a b : Nat) (ms : List (Nat × Nat)) : (lT a b ms).sorts.length = a := by simp [lT]
theorem funs_len (a b : Nat) (ms : List (Nat × Nat)) : (lT a b ms).funs.length = b := by simp [lT]
theorem small_l {a b : Nat} {ms : List (Nat × Nat)} (ha : a ≤ 40) (hb : b ≤ 40) (hm : ms.length ≤ 40) : Small (lT a b ms) :=
  ⟨by rw [sorts_len]; omega, by rw [funs_len]; omega, by show ms.length < _; omega, fun f hf => by obtain ⟨x, _, rfl⟩ := List.mem_map.1 hf; simp [lF]⟩
theorem has_s {a b : Nat} {ms : List (Nat × Nat)} {k : Nat} (_ha : a ≤ 32) (hk : k < 33) : Lib.containsS (lT a b ms).sorts (sN k) = decide (k < a) := by
  by_cases h : k < a
  · have hin : sN k ∈ (lT a b ms).sorts := List.mem_map.2 ⟨k, List.mem_range.2 h, rfl⟩
    rw [(Lib.containsS_iff _ _).2 hin]; simp [h]
  · have : ¬ Lib.containsS (lT a b ms).sorts (sN k) = true := fun hc => by
      obtain ⟨j, hj, e⟩ := List.mem_map.1 ((Lib.containsS_iff _ _).1 hc)
      have hj := List.mem_range.1 hj
      have := sN_inj (by omega) hk e
      omega
    simp [h]
    simpa using this
theorem bad_s {a b : Nat} {ms : List (Nat × Nat)} (ha : a ≤ 32) : badSort (lT a b ms) (sN a) = false := by
  unfold badSort
  rw [has_s ha (by omega), sN_may a (by omega)]
  simp
theorem bad_new {a b : Nat} {ms : List (Nat × Nat)} : badSort (lT a b ms) sNew = false := by
  unfold badSort
  have : ¬ Lib.containsS (lT a b ms).sorts sNew = true := fun hc => by
    obtain ⟨j, _, e⟩ := List.mem_map.1 ((Lib.containsS_iff _ _).1 hc)
    exact new_ne j e
  rw [new_may]
  simpa using this
theorem add_s {a b : Nat} {ms : List (Nat × Nat)} : ({ lT a b ms with sorts := (lT a b ms).sorts ++ [sN a] } : TabD) = lT (a + 1) b ms := by
  unfold lT; simp [List.range_succ]
theorem find_l {a b : Nat} {ms : List (Nat × Nat)} {k : Nat} (_hb : b ≤ 33) (hk : k < 33) : (findF (lT a b ms) (fN k)).isSome = decide (k < b) := by
  unfold findF lT
  by_cases h : k < b
  · rw [show decide (k < b) = true by simpa using h, List.find?_isSome]
    exact ⟨lF k, List.mem_map.2 ⟨k, List.mem_range.2 h, rfl⟩, by show eqS (fN k) (fN k) = true; rw [fN_eq hk hk]; simp⟩
  · rw [show decide (k < b) = false by simpa using h]
    rw [Option.isSome_eq_false_iff, Option.isNone_iff_eq_none, List.find?_eq_none]
    intro f hf
    obtain ⟨j, hj, rfl⟩ := List.mem_map.1 hf
    have hj := List.mem_range.1 hj
    show ¬ eqS (fN j) (fN k) = true
    rw [fN_eq (by omega) hk]
    simp; omega
theorem add_f {m : Nat} {ms : List (Nat × Nat)} (hm : m ≤ 31) : errFun (lT (m + 1) m ms) (lF m) = 0 ∧ addFun (lT (m + 1) m ms) (lF m) = lT (m + 1) (m + 1) ms := by
  have e : errFun (lT (m + 1) m ms) (lF m) = 0 := by
    have h1 := find_l (a := m + 1) (b := m) (ms := ms) (k := m) (by omega) (by omega)
    have h2 := fN_may m (by omega)
    have h3 : isB (m + 1) ((m : Int) + 2) = true := by unfold isB; simp; omega
    have h4 : argBad (m + 1) ((m : Int) + 2) = false := by unfold argBad; rw [h3]; simp; omega
    have h5 : ¬ 1000 ≤ m := by omega
    have hn : (lF m).name = fN m := rfl
    have hr : (lF m).res = (m : Int) + 2 := rfl
    have ha : (lF m).args = [(m : Int) + 2] := rfl
    unfold errFun mayFunB
    rw [hn, hr, ha, h1, h2, sorts_len, funs_len, h3]
    simp [h4, h5]
  exact ⟨e, by unfold addFun; rw [e, if_pos rfl]; unfold lT; simp [List.range_succ]⟩
/-- where a word is: the numbers of sorts -/
theorem idx_l {a : Nat} {k : Nat} (ha : a ≤ 32) (hk : k < 33) : ∀ i, i ≤ a → (∀ j, j < i → j ≠ k) → Lib.idxFromS (((List.range a).map sN).drop i) (sN k) i = if k < a then (k : Int) else -1
  | i, hi, hne => by
    by_cases h : i = a
    · subst h
      rw [List.drop_of_length_le (by simp)]
      have : ¬ k < i := fun hh => hne k hh rfl
      rw [if_neg this]; rfl
    · have hil : i < ((List.range a).map sN).length := by simp; omega
      rw [List.drop_eq_getElem_cons hil]
      have e : ((List.range a).map sN)[i] = sN i := by simp
      rw [e]
      unfold Lib.idxFromS
      by_cases hik : i = k
      · subst hik
        rw [if_pos (by omega : i < a)]
        simp
      · have hn : ¬ sN i = sN k := fun hh => hik (sN_inj (by omega) hk hh)
        have := idx_l ha hk (i + 1) (by omega) (fun j hj => by
          by_cases e2 : j = i
          · subst e2; exact hik
          · exact hne j (by omega))
        simp only [hn, if_false, this]
  termination_by i => a - i
theorem findSort_l {a b : Nat} {ms : List (Nat × Nat)} {k : Nat} (ha : a ≤ 32) (hk : k < 33) : findSort (lT a b ms) (sN k) = if k < a then ((k : Int) + 2, true) else (0, false) := by
  have h := idx_l (a := a) (k := k) ha hk 0 (Nat.zero_le _) (by intro j hj; omega)
  rw [List.drop_zero] at h
  have e : Lib.idxOfS (lT a b ms).sorts (sN k) = if k < a then (k : Int) else -1 := h
  unfold findSort
  rw [toL, sN_data, e]
  by_cases hka : k < a
  · rw [if_pos hka, if_pos hka]
    have : ¬ ((k : Int) < 0) := by omega
    simp [this, Int.add_comm]
  · rw [if_neg hka, if_neg hka]
    simp
/-- the marks of levels that began at these counts -/
def mk2 (ats : List Nat) : List (Nat × Nat) := ats.map fun a => (a, a)
structure Ats (m : Nat) (ats : List Nat) : Prop where
  mono : ats.Pairwise (· ≤ ·)
  top : ∀ a ∈ ats, a ≤ m
theorem Ats.push {m : Nat} {ats : List Nat} (h : Ats m ats) : Ats m (ats ++ [m]) :=
  ⟨by rw [List.pairwise_append]; exact ⟨h.mono, by simp, fun a ha b hb => by simp at hb; subst hb; exact h.top a ha⟩, fun a ha => by
    rcases List.mem_append.1 ha with ha | ha
    · exact h.top a ha
    · simp at ha; omega⟩
theorem Ats.more {m m' : Nat} {ats : List Nat} (h : Ats m ats) (hm : m ≤ m') : Ats m' ats := ⟨h.mono, fun a ha => Nat.le_trans (h.top a ha) hm⟩
theorem mk2_push {ats : List Nat} {m : Nat} : mk2 ats ++ [(m, m)] = mk2 (ats ++ [m]) := by unfold mk2; simp
theorem wf_l {m : Nat} {ats : List Nat} (h : Ats m ats) : WfT (lT m m (mk2 ats)) :=
  ⟨by unfold lT mk2; rw [List.pairwise_map]; exact h.mono.imp fun h => ⟨h, h⟩, fun x hx => by
    obtain ⟨a, ha, rfl⟩ := List.mem_map.1 hx
    rw [sorts_len, funs_len]
    exact ⟨h.top a ha, h.top a ha⟩⟩
/-- how many are left -/
def leftOf (m : Nat) (ats : List Nat) (k : Nat) : Nat := if 0 < k then ats.getD (ats.length - k) 0 else m
theorem pop_l {m : Nat} {ats : List Nat} {k : Nat} (h : Ats m ats) (hk : k ≤ ats.length) : errPop (lT m m (mk2 ats)) k = 0 ∧ popT (lT m m (mk2 ats)) k = lT (leftOf m ats k) (leftOf m ats k) (mk2 (ats.take (ats.length - k))) ∧ leftOf m ats k ≤ m := by
  have hl : (mk2 ats).length = ats.length := by simp [mk2]
  refine ⟨by unfold errPop; rw [if_neg (by omega), if_neg (by show ¬ (((mk2 ats).length : Int) < k); rw [hl]; omega)], ?_, ?_⟩
  · unfold popT leftOf
    by_cases h0 : 0 < k
    · rw [if_pos (by refine ⟨by omega, ?_⟩; show (k : Int) ≤ ((mk2 ats).length : Int); rw [hl]; omega), if_pos h0]
      have hi : ats.length - k < ats.length := by omega
      have e1 : (lT m m (mk2 ats)).marks.length - (k : Int).toNat = ats.length - k := by show (mk2 ats).length - (k : Int).toNat = _; rw [hl]; omega
      rw [e1]
      have e2 : markAt (lT m m (mk2 ats)) (ats.length - k) = (ats.getD (ats.length - k) 0, ats.getD (ats.length - k) 0) := by
        show (mk2 ats).getD _ _ = _
        unfold mk2
        simp [List.getD, hi]
      rw [e2]
      have ht := h.top (ats.getD (ats.length - k) 0) (by simp [List.getD, hi])
      generalize ats.getD (ats.length - k) 0 = x at *
      have r1 : ∀ {α : Type} (f : Nat → α), ((List.range m).map f).take x = (List.range x).map f := fun f => by
        rw [← List.map_take, List.take_range, Nat.min_eq_left ht]
      unfold lT
      simp only [r1]
      congr 1
      unfold mk2
      rw [List.map_take]
    · obtain rfl : k = 0 := by omega
      rw [if_neg (by omega), if_neg (by omega), Nat.sub_zero, List.take_length]
  · unfold leftOf
    split
    · have hi : ats.length - k < ats.length := by omega
      exact h.top _ (by simp [List.getD, hi])
    · exact Nat.le_refl _
theorem Ats.left {m : Nat} {ats : List Nat} {k : Nat} (h : Ats m ats) (hk : k ≤ ats.length) : Ats (leftOf m ats k) (ats.take (ats.length - k)) := by
  refine ⟨List.Pairwise.sublist (List.take_sublist _ _) h.mono, fun a ha => ?_⟩
  unfold leftOf
  obtain ⟨j, hj, rfl⟩ := List.getElem_of_mem ha
  rw [List.length_take] at hj
  rw [List.getElem_take]
  by_cases h0 : 0 < k
  · rw [if_pos h0]
    have hi : ats.length - k < ats.length := by omega
    have e : ats.getD (ats.length - k) 0 = ats[ats.length - k] := by simp [List.getD, hi]
    rw [e]
    exact List.pairwise_iff_getElem.1 h.mono j (ats.length - k) (by omega) hi (by omega)
  · rw [if_neg h0]
    exact h.top _ (List.getElem_mem _)
/-- the table with one sort more, at the end -/
def endT (L : Nat) (ms : List (Nat × Nat)) : TabD := { lT L L ms with sorts := (lT L L ms).sorts ++ [sNew] }
theorem end_small {L : Nat} {ms : List (Nat × Nat)} (hL : L ≤ 40) (hm : ms.length ≤ 40) : Small (endT L ms) :=
  ⟨by simp [endT, lT]; omega, by simp [endT, lT]; omega, by show ms.length < _; omega, fun f hf => by obtain ⟨x, _, rfl⟩ := List.mem_map.1 hf; simp [lF]⟩
theorem end_wf {L : Nat} {ats : List Nat} (h : Ats L ats) : WfT (endT L (mk2 ats)) :=
  ⟨(wf_l h).mono, fun x hx => by
    have := (wf_l h).top x hx
    rw [sorts_len, funs_len] at this
    refine ⟨?_, ?_⟩
    · show x.1 ≤ ((lT L L (mk2 ats)).sorts ++ [sNew]).length
      rw [List.length_append, sorts_len]; omega
    · show x.2 ≤ (lT L L (mk2 ats)).funs.length
      rw [funs_len]; exact this.2⟩
theorem end_pop {L : Nat} {ats : List Nat} {z : Int} (hz : (ats.length : Int) < z) : errPop (endT L (mk2 ats)) z = 5 ∧ popT (endT L (mk2 ats)) z = endT L (mk2 ats) := by
  have hl : (endT L (mk2 ats)).marks.length = ats.length := by show (mk2 ats).length = _; simp [mk2]
  have : (0 : Int) ≤ (ats.length : Int) := by omega
  exact ⟨by unfold errPop; rw [if_neg (by omega), if_pos (by rw [hl]; exact hz)], by unfold popT; rw [if_neg (by rw [hl]; omega)]⟩
end Go.Proofs.YtpkajhmgkmkcgaaDoor
