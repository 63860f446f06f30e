/-
  theodoliteref19: size, before, opposite, has; how a literal is put in its place in a row in order. Conditions: ints; fewer than 2^62 of them.
-/
import Derived.Test.YtglbdkjdglcncaaC5
namespace Go.Proofs.Ytglbdkjdglcncaa
open Go.RowKit Go.Sort Go.Lib

set_option maxHeartbeats 400000 in
theorem size19_any (x : Int) (w : World) : Calls Try.prog 40 #[.int .i64 x] w fun e w' => e = .returned (.int .u64 (sz x)) ∧ w = w' := by
  by_cases h : x < 0
  · have e := Lib.hid (sz_neg h)
    go_enter Try.func40, Try.ntmps40
    go_wp2
    go_ret
    exact ⟨ret_int e.out, rfl⟩
  · have e := Lib.hid (sz_pos h)
    go_enter Try.func40, Try.ntmps40
    go_wp2
    go_ret
    exact ⟨ret_int e.out, rfl⟩
set_option maxHeartbeats 400000 in
theorem before_any (x y : Int) (w : World) : Calls Try.prog 30 #[.int .i64 x, .int .i64 y] w fun e w' => e = .returned (.bool (ltC x y)) ∧ w = w' := by
  have hd := @Lib.hid (ltC x y = decide (sz x < sz y ∨ (sz x = sz y ∧ y < x))) rfl
  have hx := Lib.hid (fun w => size19_any x w)
  have hy := Lib.hid (fun w => size19_any y w)
  generalize sz x = a at *
  generalize sz y = b at *
  by_cases h : a = b
  · have hv := @Lib.hid (decide (x > y) = ltC x y) (by rw [hd.out]; simp [h])
    have h1 : (a != b) = false := by simp [h]
    clear hd h
    go_enter Try.func30, Try.ntmps30
    go_wp2_with fail
    refine (hx.out _).mono ?_; rintro e w' ⟨rfl, rfl⟩
    go_wp2_with fail
    refine (hy.out _).mono ?_; rintro e w' ⟨rfl, rfl⟩
    go_wp2
    go_ret
    exact ⟨ret_bool hv.out, rfl⟩
  · have hv := @Lib.hid (decide (a < b) = ltC x y) (by rw [hd.out]; simp [h])
    have h1 : (a != b) = true := by simpa using h
    clear hd h
    go_enter Try.func30, Try.ntmps30
    go_wp2_with fail
    refine (hx.out _).mono ?_; rintro e w' ⟨rfl, rfl⟩
    go_wp2_with fail
    refine (hy.out _).mono ?_; rintro e w' ⟨rfl, rfl⟩
    go_wp2_with fail
    refine (hx.out _).mono ?_; rintro e w' ⟨rfl, rfl⟩
    go_wp2_with fail
    refine (hy.out _).mono ?_; rintro e w' ⟨rfl, rfl⟩
    go_wp2
    go_ret
    exact ⟨ret_bool hv.out, rfl⟩
def oppB (x y : Int) : Bool := x != y && sz x == sz y
set_option maxHeartbeats 400000 in
theorem opposite_any (x y : Int) (w : World) : Calls Try.prog 31 #[.int .i64 x, .int .i64 y] w fun e w' => e = .returned (.bool (oppB x y)) ∧ w = w' := by
  have hd := @Lib.hid (oppB x y = (x != y && sz x == sz y)) rfl
  have hx := Lib.hid (fun w => size19_any x w)
  have hy := Lib.hid (fun w => size19_any y w)
  generalize sz x = a at *
  generalize sz y = b at *
  cases h : (x != y)
  · have hv := @Lib.hid (false = oppB x y) (by rw [hd.out, h]; rfl)
    go_enter Try.func31, Try.ntmps31
    go_wp2
    go_ret
    exact ⟨ret_bool hv.out, rfl⟩
  · have hv := @Lib.hid ((a == b) = oppB x y) (by rw [hd.out, h]; rfl)
    go_enter Try.func31, Try.ntmps31
    go_wp2_with fail
    refine (hx.out _).mono ?_; rintro e w' ⟨rfl, rfl⟩
    go_wp2_with fail
    refine (hy.out _).mono ?_; rintro e w' ⟨rfl, rfl⟩
    go_wp2
    go_ret
    exact ⟨ret_bool hv.out, rfl⟩
theorem hasI_no {xs : List Int} {x : Int} (h : ∀ j, j < xs.length → (nth xs j == x) = false) : false = hasI xs x := by
  symm
  cases hh : hasI xs x
  · rfl
  · rw [hasI_iff] at hh
    obtain ⟨j, hj, rfl⟩ := List.getElem_of_mem hh
    have := h j hj
    rw [nth_eq hj] at this
    simp at this
theorem hasI_at {xs : List Int} {x : Int} {j : Nat} (hj : j < xs.length) (h : (nth xs j == x) = true) : true = hasI xs x := by
  symm; rw [hasI_iff, ← (by simpa using h : nth xs j = x)]; exact nth_mem hj
set_option maxHeartbeats 400000 in
theorem has19_any (a : Option Addr) (n c : Nat) (xs : List Int) (x : Int) (w : World) (hx : RdI w a n xs) (hn : n < 4611686018427387904) :
    Calls Try.prog 29 #[.slice a n c, .int .i64 x] w fun e w' => e = .returned (.bool (hasI xs x)) ∧ w = w' := by
  have lx := Lib.hid hx.len
  have hx' := Lib.hid hx
  clear hx
  go_enter Try.func29, Try.ntmps29
  go_wp2
  go_loopw [4, 5] (fun _ i wr => ∃ k : Nat, k ≤ n ∧ i = .int .i64 k ∧ wr = w ∧ Hid (∀ j, j < k → (nth xs j == x) = false)) (fun _ i _ => n - (intOf i).toNat)
  case atStart => exact ⟨0, Nat.zero_le _, rfl, rfl, by intro j hj; omega⟩
  case round =>
    obtain ⟨k, hk, rfl, rfl, heq⟩ := hrel
    by_cases hlt : k < n
    · obtain ⟨b1, o1, rfl, h1⟩ := hx'.out.at k hlt
      cases he : (nth xs k == x)
      · have hs := @Lib.hid (∀ j, j < k + 1 → (nth xs j == x) = false) (fun j hj => by
          by_cases e : j = k
          · subst e; exact he
          · exact heq.out j (by omega))
        generalize nth xs k = y at *
        go_wp2
        go_roundw
        case rel => exact ⟨k + 1, by omega, by go_num, by trivial, hs.out⟩
        case measure => simp [intOf]; omega
      · have hv := Lib.hid (hasI_at (xs := xs) (x := x) (j := k) (by rw [lx.out]; exact hlt) he)
        generalize nth xs k = y at *
        go_wp2
        go_ret
        exact ⟨ret_bool hv.out, rfl⟩
    · have hv := Lib.hid (hasI_no (xs := xs) (x := x) (fun j hj => heq.out j (by have := lx.out; omega)))
      go_wp2
      go_ret
      exact ⟨ret_bool hv.out, rfl⟩

/-! ### in its place -/
theorem take_succ_nth0 {xs : List Int} {k : Nat} (hk : k < xs.length) : xs.take (k + 1) = xs.take k ++ [nth xs k] := by
  rw [List.take_succ_eq_append_getElem hk, nth_eq hk]
theorem nth_take {xs : List Int} {k j : Nat} (h : j < k) (hk : k ≤ xs.length) : nth (xs.take k) j = nth xs j := by
  rw [nth_eq (by rw [List.length_take]; omega), nth_eq (by omega), List.getElem_take]
theorem strict_nth {l : List Int} (h : StrictC l) {i j : Nat} (hij : i < j) (hj : j < l.length) : ltC (nth l i) (nth l j) = true := by
  rw [nth_eq (by omega), nth_eq hj]
  exact List.pairwise_iff_getElem.1 h i j (by omega) hj hij
/-- put in its place: what the reference's Norm does to its row -/
def putAt (out : List Int) (k : Nat) (x : Int) : List Int := out.take k ++ [x] ++ out.drop k
theorem mem_putAt {out : List Int} {k : Nat} {x y : Int} : y ∈ putAt out k x ↔ y = x ∨ y ∈ out := by
  unfold putAt
  have h : y ∈ out ↔ y ∈ out.take k ∨ y ∈ out.drop k := by rw [← List.mem_append, List.take_append_drop]
  rw [List.mem_append, List.mem_append, List.mem_singleton, h]
  constructor
  · rintro ((h | h) | h)
    · exact .inr (.inl h)
    · exact .inl h
    · exact .inr (.inr h)
  · rintro (h | h | h)
    · exact .inl (.inr h)
    · exact .inl (.inl h)
    · exact .inr h
theorem strict_putAt {out : List Int} {k : Nat} {x : Int} (hs : StrictC out) (hx : hasI out x = false) (hk : k ≤ out.length) (h1 : ∀ j, k ≤ j → j < out.length → ltC x (nth out j) = true) (h2 : k = 0 ∨ ltC x (nth out (k - 1)) = false) : StrictC (putAt out k x) := by
  unfold putAt StrictC
  have hd : ∀ y ∈ out.drop k, ltC x y = true := fun y hy => by
    obtain ⟨j, hj, rfl⟩ := List.getElem_of_mem hy
    rw [List.length_drop] at hj
    have := h1 (k + j) (by omega) (by omega)
    rw [nth_eq (by omega)] at this
    simpa using this
  have ht : ∀ y ∈ out.take k, ltC y x = true := fun y hy => by
    obtain ⟨j, hj, rfl⟩ := List.getElem_of_mem hy
    rw [List.length_take] at hj
    rcases h2 with h2 | h2
    · omega
    · have hkl : ltC (nth out (k - 1)) x = true := by
        cases hc : ltC (nth out (k - 1)) x
        · have e := ltC_total hc h2
          have hm : x ∈ out := by rw [← e]; exact nth_mem (by omega)
          rw [← hasI_iff, hx] at hm; cases hm
        · rfl
      have e : (out.take k)[j]'(by rw [List.length_take]; omega) = nth out j := by rw [nth_eq (by omega), List.getElem_take]
      rw [e]
      by_cases hj1 : j = k - 1
      · rw [hj1]; exact hkl
      · exact ltC_trans (strict_nth hs (by omega) (by omega)) hkl
  rw [List.append_assoc, List.pairwise_append]
  refine ⟨List.Pairwise.sublist (List.take_sublist _ _) hs, ?_, fun y hy z hz => ?_⟩
  · rw [List.singleton_append, List.pairwise_cons]
    exact ⟨hd, List.Pairwise.sublist (List.drop_sublist _ _) hs⟩
  · rw [List.singleton_append, List.mem_cons] at hz
    rcases hz with rfl | hz
    · exact ht y hy
    · exact ltC_trans (ht y hy) (hd z hz)
theorem nrm_old {xs : List Int} {k : Nat} (hk : k < xs.length) (h : hasI (nrm (xs.take k)) (nth xs k) = true) : nrm (xs.take (k + 1)) = nrm (xs.take k) := by
  refine nrm_congr fun y => ?_
  rw [take_succ_nth0 hk, List.mem_append, List.mem_singleton]
  rw [hasI_iff, mem_nrm] at h
  exact ⟨fun h' => h'.elim id (fun e => e ▸ h), .inl⟩
theorem nrm_new {xs : List Int} {k q : Nat} (hk : k < xs.length) (hx : hasI (nrm (xs.take k)) (nth xs k) = false) (hq : q ≤ (nrm (xs.take k)).length) (h1 : ∀ j, q ≤ j → j < (nrm (xs.take k)).length → ltC (nth xs k) (nth (nrm (xs.take k)) j) = true) (h2 : q = 0 ∨ ltC (nth xs k) (nth (nrm (xs.take k)) (q - 1)) = false) :
    nrm (xs.take (k + 1)) = putAt (nrm (xs.take k)) q (nth xs k) := by
  refine strict_unique _ _ (strict_nrm _) (strict_putAt (strict_nrm _) hx hq h1 h2) fun y => ?_
  rw [mem_nrm, mem_putAt, mem_nrm, take_succ_nth0 hk, List.mem_append, List.mem_singleton]
  exact or_comm
theorem alw_zero {xs : List Int} {k : Nat} (hk : k < xs.length) (h : nth xs k = 0) : alw xs = true := by
  have hm : (0 : Int) ∈ nrm xs := by rw [mem_nrm, ← h]; exact nth_mem hk
  obtain ⟨j, hj, e⟩ := List.getElem_of_mem hm
  refine bad_some hj ?_
  unfold badAt
  simp [List.getD, hj, e]
theorem badAt_opp {xs : List Int} {j : Nat} (hj : j < (nrm xs).length) (h0 : ∀ i, i < xs.length → nth xs i ≠ 0) : badAt (nrm xs) j = (decide (0 < j) && oppB (nth (nrm xs) (j - 1)) (nth (nrm xs) j)) := by
  have hn : nth (nrm xs) j ≠ 0 := fun e => by
    have hm : (0 : Int) ∈ xs := by rw [← mem_nrm, ← e]; exact nth_mem hj
    obtain ⟨i, hi, e2⟩ := List.getElem_of_mem hm
    exact h0 i hi (by rw [nth_eq hi, e2])
  have hb : badAt (nrm xs) j = (nth (nrm xs) j == 0 || (decide (0 < j) && sz (nth (nrm xs) j) == sz (nth (nrm xs) (j - 1)))) := rfl
  rw [hb, show (nth (nrm xs) j == 0) = false by simpa using hn, Bool.false_or]
  by_cases hj0 : 0 < j
  · have hne : nth (nrm xs) (j - 1) ≠ nth (nrm xs) j := fun e => by
      have := strict_nth (strict_nrm xs) (show j - 1 < j by omega) hj
      rw [e, ltC_irrefl] at this; cases this
    unfold oppB
    rw [show (nth (nrm xs) (j - 1) != nth (nrm xs) j) = true by simpa using hne]
    simp [hj0]
    exact BEq.comm
  · simp [hj0]
end Go.Proofs.Ytglbdkjdglcncaa
