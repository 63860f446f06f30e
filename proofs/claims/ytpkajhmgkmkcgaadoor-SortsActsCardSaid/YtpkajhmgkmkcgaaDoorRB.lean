/-
  theodoliteref6.Sorts: Reserved, name, Levels, Is, FindSort, Find; the law's same. Conditions: a table in memory of fewer than 2^40 entries.
-/
import Derived.Test.YtpkajhmgkmkcgaaDoorRA
import Derived.Test.YtpkajhmgkmkcgaaDoorSP
namespace Go.Proofs.YtpkajhmgkmkcgaaDoor
open Go.RowKit Go.Sort Go.Lib
variable {X : Nat → Prop}

theorem toList_inj {a b : ByteArray} (h : a.toList = b.toList) : a = b := by
  rw [Lib.toList_data, Lib.toList_data] at h
  cases a; cases b
  simp at h
  rw [ByteArray.mk.injEq]
  exact h
theorem eqb_iff {a b : ByteArray} : (a.toList == b.toList) = true ↔ a = b := ⟨fun h => toList_inj (by simpa using h), fun h => by subst h; simp⟩
theorem eqb_no {a b : ByteArray} (h : (a.toList == b.toList) = false) : a ≠ b := fun e => by subst e; simp at h
theorem resB_iff (s : ByteArray) : resB s = true ↔ s ∈ resWords := Lib.containsS_iff resWords s
set_option maxRecDepth 100000 in
set_option maxHeartbeats 4000000 in
theorem rreserved_any (s : ByteArray) (w : World) : Calls Tryd.prog 32 #[.string s] w fun e w' => e = .returned (.bool (resB s)) ∧ Below w.heap.size w w' := by
  have hri := Lib.hid (resB_iff s)
  have hl : resWords.length = 27 := by decide
  have hl' := Lib.hid hl
  have hc := Lib.hid (show ∀ k, k < 27 → (w.alloc (.cells (resWords.map Value.string).toArray 9)).cell? ⟨w.heap.size, k, none⟩ = some (.string (resWords.getD k ByteArray.empty)) from fun k hk => by
    rw [World.cell?_alloc_new]
    simp [List.getD, hl, hk])
  clear hl
  go_enter Tryd.func32, Tryd.ntmps32
  go_wp2
  go_loopw [2, 4] (fun _ i wr => ∃ k : Nat, k ≤ 27 ∧ i = .int .i64 k ∧ wr = w.alloc (.cells (resWords.map Value.string).toArray 9) ∧ Hid (∀ j, j < k → resWords.getD j ByteArray.empty ≠ s)) (fun _ i _ => 27 - (intOf i).toNat)
  case atStart => exact ⟨0, Nat.zero_le _, rfl, by rfl, by intro j hj; omega⟩
  case round =>
    obtain ⟨k, hk, rfl, rfl, hne⟩ := hrel
    have hB : Below w.heap.size w (w.alloc (.cells (resWords.map Value.string).toArray 9)) := (Below.refl _ _).alloc (Nat.le_refl _) _
    have hB' := Lib.hid hB
    clear hB
    by_cases hlt : k < 27
    · have h1 := hc.out k hlt
      have hmem := Lib.hid (show resWords.getD k ByteArray.empty ∈ resWords by
        have : k < resWords.length := by rw [hl'.out]; exact hlt
        simp [List.getD, this])
      have hnx := Lib.hid (fun (h : resWords.getD k ByteArray.empty ≠ s) => show ∀ j, j < k + 1 → resWords.getD j ByteArray.empty ≠ s from fun j hj => by
        by_cases e : j = k
        · subst e; exact h
        · exact hne.out j (by omega))
      generalize resWords.getD k ByteArray.empty = z at *
      generalize w.alloc (.cells (resWords.map Value.string).toArray 9) = w1 at *
      cases he : (z.toList == s.toList)
      · have hv := Lib.hid (hnx.out (eqb_no he))
        go_wp2
        go_roundw
        case rel => exact ⟨k + 1, by omega, by go_num, by trivial, hv.out⟩
        case measure => simp [intOf]; omega
      · have hv := @Lib.hid (true = resB s) (by symm; rw [hri.out, ← eqb_iff.1 he]; exact hmem.out)
        go_wp2
        go_ret
        exact ⟨ret_bool hv.out, hB'.out⟩
    · have hv := @Lib.hid (false = resB s) (by
        symm
        cases hr : resB s
        · rfl
        · have hm := hri.out.1 hr
          obtain ⟨j, hj, e⟩ := List.getElem_of_mem hm
          have hj2 : j < 27 := by rw [← hl'.out]; exact hj
          exact absurd (show resWords.getD j ByteArray.empty = s by simp [List.getD, hj, e]) (hne.out j (by omega)))
      go_wp2
      go_ret
      exact ⟨ret_bool hv.out, hB'.out⟩
set_option maxHeartbeats 400000 in
theorem rname_any (s : ByteArray) (w : World) : Calls Tryd.prog 44 #[.string s] w fun e w' => e = .returned (.bool (mayB s)) ∧ Below w.heap.size w w' := by
  have hd := @Lib.hid (mayB s = (!s.toList.isEmpty && (decide (s.size ≤ 200) && !resB s))) rfl
  have hem := @Lib.hid (s.toList.isEmpty = decide (s.size = 0)) (by
    rw [Lib.toList_data]
    have : s.size = s.data.toList.length := by simp
    rw [this]
    cases s.data.toList <;> simp)
  have hr := Lib.hid (rreserved_any s w)
  by_cases h0 : 1 ≤ s.size
  · by_cases h2 : s.size ≤ 200
    · have hv := @Lib.hid (mayB s = !resB s) (by rw [hd.out, hem.out]; simp [h2, show ¬ s.size = 0 by omega])
      go_enter Tryd.func44, Tryd.ntmps44
      go_wp2_with fail
      refine hr.out.mono ?_; rintro e w1 ⟨rfl, hb⟩
      have hb' := Lib.hid hb
      clear hb
      go_wp2
      go_ret
      exact ⟨ret_bool hv.out.symm, hb'.out⟩
    · have hv := @Lib.hid (false = mayB s) (by rw [hd.out]; simp [h2])
      go_enter Tryd.func44, Tryd.ntmps44
      go_wp2
      go_ret
      exact ⟨ret_bool hv.out, Below.refl _ _⟩
  · have hv := @Lib.hid (false = mayB s) (by rw [hd.out, hem.out]; simp [show s.size = 0 by omega])
    go_enter Tryd.func44, Tryd.ntmps44
    go_wp2
    go_ret
    exact ⟨ret_bool hv.out, Below.refl _ _⟩
set_option maxHeartbeats 400000 in
theorem rlevels_any (B p : Nat) (T : TabD) (w : World) (h : RefX X B p T w) : Calls Tryd.prog 31 #[.pointer (some ⟨p, 0, none⟩)] w fun e w' => e = .returned (.int .i64 T.marks.length) ∧ w = w' := by
  obtain ⟨a1, c1, a2, c2, a3, c3, hb, _⟩ := h.look
  have k2 : w.cell? ⟨p, 2, none⟩ = some (.slice a3 T.marks.length c3) := cell_p hb 2
  clear hb h
  go_enter Tryd.func31, Tryd.ntmps31
  go_wp2
  go_ret
  exact ⟨rfl, rfl⟩
set_option maxHeartbeats 400000 in
theorem ris_any (B p : Nat) (T : TabD) (s : Int) (w : World) (h : RefX X B p T w) (hl : T.sorts.length < 1099511627776) : Calls Tryd.prog 45 #[.pointer (some ⟨p, 0, none⟩), .int .i64 s] w fun e w' => e = .returned (.bool (isB T.sorts.length s)) ∧ w = w' := by
  obtain ⟨a1, c1, a2, c2, a3, c3, hb, _⟩ := h.look
  have k0 : w.cell? ⟨p, 0, none⟩ = some (.slice a1 T.sorts.length c1) := cell_p hb 0
  have hd := @Lib.hid (isB T.sorts.length s = (decide (0 ≤ s) && decide (s < 2 + (T.sorts.length : Int)))) rfl
  clear hb h
  generalize T.sorts.length = n at *
  by_cases h1 : 0 ≤ s
  · have hv := @Lib.hid (decide (s < (n : Int) + 2) = isB n s) (by rw [hd.out, Int.add_comm]; simp [h1])
    go_enter Tryd.func45, Tryd.ntmps45
    go_wp2
    go_ret
    exact ⟨ret_bool hv.out, rfl⟩
  · have hv := @Lib.hid (false = isB n s) (by rw [hd.out]; simp [h1])
    go_enter Tryd.func45, Tryd.ntmps45
    go_wp2
    go_ret
    exact ⟨ret_bool hv.out, rfl⟩
/-! ### FindSort -/
theorem idxS_skip {x : ByteArray} : ∀ {zs : List ByteArray} {k i : Nat}, (∀ j, j < k → zs.getD j ByteArray.empty ≠ x) → k ≤ zs.length → Lib.idxFromS zs x i = Lib.idxFromS (zs.drop k) x (i + k)
  | zs, 0, i, _, _ => by simp
  | [], k + 1, i, _, hk => by simp at hk
  | z :: zs, k + 1, i, h, hk => by
    have h0 : z ≠ x := h 0 (by omega)
    rw [List.drop_succ_cons, ← Nat.add_assoc, Nat.add_right_comm, ← idxS_skip (zs := zs) (k := k) (i := i + 1) (fun j hj => by simpa using h (j + 1) (by omega)) (by simpa using hk)]
    rw [Lib.idxFromS]
    simp [h0]
theorem idxS_hit {zs : List ByteArray} {x : ByteArray} {k : Nat} (h : ∀ j, j < k → zs.getD j ByteArray.empty ≠ x) (hk : k < zs.length) (hx : zs.getD k ByteArray.empty = x) : Lib.idxOfS zs x = k := by
  show Lib.idxFromS zs x 0 = k
  rw [idxS_skip h (Nat.le_of_lt hk), Nat.zero_add, List.drop_eq_getElem_cons hk]
  have e : zs[k] = x := by simpa [List.getD, hk] using hx
  rw [Lib.idxFromS]
  simp [e]
theorem idxS_miss {zs : List ByteArray} {x : ByteArray} (h : ∀ j, j < zs.length → zs.getD j ByteArray.empty ≠ x) : Lib.idxOfS zs x = -1 := by
  show Lib.idxFromS zs x 0 = -1
  rw [idxS_skip h (Nat.le_refl _), List.drop_length]; rfl
set_option maxHeartbeats 1000000 in
theorem rfindSort_any (B p : Nat) (T : TabD) (s : ByteArray) (w : World) (h : RefX X B p T w) (hl : T.sorts.length < 1099511627776) :
    Calls Tryd.prog 26 #[.pointer (some ⟨p, 0, none⟩), .string s] w fun e w' => e = .returned (.tuple #[.int .i64 (findSort T s).1, .bool (findSort T s).2]) ∧ w = w' := by
  obtain ⟨a1, c1, a2, c2, a3, c3, hb, o1, _⟩ := h.look
  have k0 : w.cell? ⟨p, 0, none⟩ = some (.slice a1 T.sorts.length c1) := cell_p hb 0
  have hrd := Lib.hid (o1.read (S' := fun _ => True) (fun _ _ _ => trivial) (fun _ _ => trivial))
  have hd := @Lib.hid (findSort T s = if s.toList == [66, 111, 111, 108] then (0, true) else if s.toList == [82, 101, 97, 108] then (1, true) else if Lib.idxOfS T.sorts s < 0 then (0, false) else (2 + Lib.idxOfS T.sorts s, true)) rfl
  clear hb h o1
  cases e1 : (s.toList == [66, 111, 111, 108])
  case true =>
    have hv := @Lib.hid (findSort T s = (0, true)) (by rw [hd.out, e1]; rfl)
    go_enter Tryd.func26, Tryd.ntmps26
    go_wp2
    go_ret2
    exact ⟨by rw [hv.out] <;> rfl, rfl⟩
  case false =>
  cases e2 : (s.toList == [82, 101, 97, 108])
  case true =>
    have hv := @Lib.hid (findSort T s = (1, true)) (by rw [hd.out, e1, e2]; rfl)
    go_enter Tryd.func26, Tryd.ntmps26
    go_wp2
    go_ret2
    exact ⟨by rw [hv.out] <;> rfl, rfl⟩
  case false =>
  have hd2 := @Lib.hid (findSort T s = if Lib.idxOfS T.sorts s < 0 then (0, false) else (2 + Lib.idxOfS T.sorts s, true)) (by rw [hd.out, e1, e2]; rfl)
  clear hd
  generalize T.sorts = zs at *
  go_enter Tryd.func26, Tryd.ntmps26
  go_wp2
  go_loopw [4, 5, 6] (fun _ _ i wr => ∃ k : Nat, k ≤ zs.length ∧ i = .int .i64 k ∧ wr = w ∧ Hid (∀ j, j < k → zs.getD j ByteArray.empty ≠ s)) (fun _ _ i _ => zs.length - (intOf i).toNat)
  case atStart => exact ⟨0, Nat.zero_le _, rfl, rfl, by intro j hj; omega⟩
  case round =>
    obtain ⟨k, hk, rfl, rfl, hne⟩ := hrel
    by_cases hlt : k < zs.length
    · obtain ⟨b, o, rfl, hc⟩ := hrd.out.strs (by omega)
      have h1 := hc k hlt
      have hnx := Lib.hid (fun (h : zs.getD k ByteArray.empty ≠ s) => show ∀ j, j < k + 1 → zs.getD j ByteArray.empty ≠ s from fun j hj => by
        by_cases e : j = k
        · subst e; exact h
        · exact hne.out j (by omega))
      have hhit := Lib.hid (fun h => idxS_hit (x := s) (fun j hj => hne.out j hj) hlt h)
      clear hc
      generalize zs.getD k ByteArray.empty = z at *
      cases he : (z.toList == s.toList)
      · have hv := Lib.hid (hnx.out (eqb_no he))
        go_wp2
        go_roundw
        case rel => exact ⟨k + 1, by omega, by go_num, by trivial, hv.out⟩
        case measure => simp [intOf]; omega
      · have hv := @Lib.hid (findSort T s = ((k : Int) + 2, true)) (by rw [hd2.out, hhit.out (eqb_iff.1 he), if_neg (by omega), Int.add_comm])
        go_wp2
        go_ret2
        exact ⟨by rw [hv.out] <;> rfl, rfl⟩
    · have hv := @Lib.hid (findSort T s = (0, false)) (by rw [hd2.out, idxS_miss (fun j hj => hne.out j (by omega))]; rfl)
      go_wp2
      go_ret2
      exact ⟨by rw [hv.out] <;> rfl, rfl⟩
end Go.Proofs.YtpkajhmgkmkcgaaDoor
