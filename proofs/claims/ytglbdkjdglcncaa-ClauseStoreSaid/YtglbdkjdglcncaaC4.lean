/-
  The contracts of theodolitealike.Round, slices.Contains, clause.Within's closure, slices.IndexFunc and ContainsFunc at it, and clause.Within.
-/
import Derived.Test.YtglbdkjdglcncaaC2
import Derived.Test.YtglbdkjdglcncaaS
namespace Go.Proofs.Ytglbdkjdglcncaa
open Go.RowKit Go.Sort Go.Lib

theorem contains_any (a : Option Addr) (n c : Nat) (xs : List Int) (x : Int) (w : World) (hx : RdI w a n xs) (hn : n < 4611686018427387904) :
    Calls Try.prog 26 #[.slice a n c, .int .i64 x] w fun e w' => e = .returned (.bool (hasI xs x)) ∧ w = w' := by
  by_cases h0 : 0 < n
  · obtain ⟨b, o, rfl, _, hc⟩ := hx.cells h0
    refine (Try.slices_Contains_int b o n c xs x w (by rw [hx.len]; exact Nat.le_refl _) (by omega) (fun j hj => hc j (by rw [← hx.len]; exact hj))).mono ?_
    rintro e w' ⟨he, hw⟩
    rw [← hx.len, List.take_length] at he
    exact ⟨he, hw.symm⟩
  · obtain rfl : n = 0 := by omega
    have : xs = [] := List.eq_nil_of_length_eq_zero hx.len
    subst this
    exact (Try.slices_Contains_int_empty a c x w).mono fun e w' ⟨he, hw⟩ => ⟨by simpa [hasI] using he, hw.symm⟩

set_option maxHeartbeats 400000 in
/-- Within's closure: is x not in the boxed slice? -/
theorem notin_any (bx : Nat) (a : Option Addr) (n c : Nat) (ys : List Int) (x : Int) (w : World) (hb : w.cell? ⟨bx, 0, none⟩ = some (.slice a n c)) (hy : RdI w a n ys) (hn : n < 4611686018427387904) :
    Calls Try.prog 28 #[.int .i64 x, .pointer (some ⟨bx, 0, none⟩)] w fun e w' => e = .returned (.bool (!hasI ys x)) ∧ w = w' := by
  have hy' := Lib.hid hy
  clear hy
  go_enter Try.func28, Try.ntmps28
  go_wp2_with fail
  refine (contains_any _ _ _ ys x _ hy'.out hn).mono ?_; rintro e w' ⟨rfl, rfl⟩
  go_wp2
  go_ret
  exact ⟨rfl, rfl⟩

/-- the first place at which the closure says yes, or -1 -/
def firstNotIn (xs ys : List Int) : Int := match xs.findIdx? (fun x => !hasI ys x) with | some i => (i : Int) | none => -1
theorem firstNotIn_none {xs ys : List Int} (h : ∀ j, j < xs.length → (!hasI ys (nth xs j)) = false) : (-1 : Int) = firstNotIn xs ys := by
  unfold firstNotIn
  rw [List.findIdx?_eq_none_iff.2]
  intro x hx
  obtain ⟨j, hj, rfl⟩ := List.getElem_of_mem hx
  have := h j hj
  rwa [nth_eq hj] at this
theorem firstNotIn_some {xs ys : List Int} {k : Nat} (hk : k < xs.length) (h : ∀ j, j < k → (!hasI ys (nth xs j)) = false) (h2 : (!hasI ys (nth xs k)) = true) : (k : Int) = firstNotIn xs ys := by
  unfold firstNotIn
  rw [List.findIdx?_eq_some_iff_getElem.2 ⟨hk, by rw [← nth_eq hk]; exact h2, fun j hj => by
    have := h j hj
    rw [nth_eq (by omega)] at this
    simp only [this, Bool.false_eq_true, not_false_iff]⟩]

set_option maxHeartbeats 1000000 in
theorem indexFunc_any (bx : Nat) (a b : Option Addr) (n m c d : Nat) (xs ys : List Int) (w : World) (hb : w.cell? ⟨bx, 0, none⟩ = some (.slice b m d)) (hx : RdI w a n xs) (hy : RdI w b m ys) (hn : n < 4611686018427387904) (hm : m < 4611686018427387904) :
    Calls Try.prog 39 #[.slice a n c, .func (.func 28) #[] #[.pointer (some ⟨bx, 0, none⟩)]] w fun e w' => e = .returned (.int .i64 (firstNotIn xs ys)) ∧ ∃ q, w' = w.drewN q := by
  have lx := Lib.hid hx.len
  have hx' := Lib.hid hx
  have hy' := Lib.hid hy
  clear hx hy
  go_enter Try.func39, Try.ntmps39
  go_wp2
  go_loopw [8] (fun i wr => ∃ k : Nat, k ≤ n ∧ i = .int .i64 k ∧ Hid (∀ j, j < k → (!hasI ys (nth xs j)) = false) ∧ ∃ q, wr = w.drewN q) (fun i _ => n - (intOf i).toNat)
  case atStart => exact ⟨0, Nat.zero_le _, rfl, by intro j hj; omega, 0, rfl⟩
  case round =>
    obtain ⟨k, hk, rfl, heq, q, rfl⟩ := hrel
    by_cases hlt : k < n
    · obtain ⟨b1, o1, rfl, h1⟩ := hx'.out.at k hlt
      generalize hgx : nth xs k = x at *
      have hgx' := Lib.hid hgx
      clear hgx
      cases hc : (!hasI ys x)
      · have hv : Hid (∀ j, j < k + 1 → (!hasI ys (nth xs j)) = false) := by
          intro j hj
          by_cases hj' : j < k
          · exact heq.out j hj'
          · obtain rfl : j = k := by omega
            rw [hgx'.out]; exact hc
        have hcall := notin_any bx b m d ys x (w.drewN q) hb (hy'.out.drewN q) hm
        rw [hc] at hcall
        have hcall' := Lib.hid hcall
        clear hcall hc
        go_wp2_with fail
        refine hcall'.out.mono ?_; rintro e w' ⟨rfl, rfl⟩
        go_wp2
        go_roundw
        case rel => exact ⟨k + 1, by omega, by go_num, hv, _, rfl⟩
        case measure => simp [intOf]; omega
      · have hv := Lib.hid (firstNotIn_some (xs := xs) (ys := ys) (k := k) (by rw [lx.out]; exact hlt) heq.out (by rw [hgx'.out]; exact hc))
        have hcall := notin_any bx b m d ys x (w.drewN q) hb (hy'.out.drewN q) hm
        rw [hc] at hcall
        have hcall' := Lib.hid hcall
        clear hcall hc
        go_wp2_with fail
        refine hcall'.out.mono ?_; rintro e w' ⟨rfl, rfl⟩
        go_wp2
        go_ret
        exact ⟨ret_int hv.out, _, rfl⟩
    · go_wp2
      go_ret
      exact ⟨ret_int (firstNotIn_none fun j hj => heq.out j (by have := lx.out; omega)), _, rfl⟩

/-- is each of one in the other? -/
def withinB (xs ys : List Int) : Bool := xs.all fun x => hasI ys x
theorem withinB_eq (xs ys : List Int) : (!decide (0 ≤ firstNotIn xs ys)) = withinB xs ys := by
  unfold firstNotIn withinB
  cases h : xs.findIdx? (fun x => !hasI ys x) with
  | none =>
    have h' := List.findIdx?_eq_none_iff.1 h
    have : xs.all (fun x => hasI ys x) = true := by
      rw [List.all_eq_true]; intro x hx; simpa using h' x hx
    rw [this]; rfl
  | some i =>
    obtain ⟨hi, h1, _⟩ := List.findIdx?_eq_some_iff_getElem.1 h
    have : xs.all (fun x => hasI ys x) = false := by
      rw [List.all_eq_false]; exact ⟨xs[i], List.getElem_mem hi, by simpa using h1⟩
    rw [this]; simp

set_option maxHeartbeats 400000 in
theorem containsFunc_any (bx : Nat) (a b : Option Addr) (n m c d : Nat) (xs ys : List Int) (w : World) (hb : w.cell? ⟨bx, 0, none⟩ = some (.slice b m d)) (hx : RdI w a n xs) (hy : RdI w b m ys) (hn : n < 4611686018427387904) (hm : m < 4611686018427387904) :
    Calls Try.prog 27 #[.slice a n c, .func (.func 28) #[] #[.pointer (some ⟨bx, 0, none⟩)]] w fun e w' => e = .returned (.bool (!withinB xs ys)) ∧ ∃ q, w' = w.drewN q := by
  have hx' := Lib.hid hx
  have hy' := Lib.hid hy
  have hv := Lib.hid (withinB_eq xs ys)
  clear hx hy
  go_enter Try.func27, Try.ntmps27
  go_wp2_with fail
  refine (indexFunc_any bx a b n m c d xs ys _ hb hx'.out hy'.out hn hm).mono ?_; rintro e w' ⟨rfl, q, rfl⟩
  generalize firstNotIn xs ys = r at *
  go_wp2
  go_ret
  exact ⟨ret_bool (by rw [← hv.out, Bool.not_not]), q, rfl⟩

set_option maxHeartbeats 400000 in
theorem within_any (a b : Option Addr) (n m c d : Nat) (xs ys : List Int) (w : World) (hx : RdI w a n xs) (hy : RdI w b m ys) (hn : n < 4611686018427387904) (hm : m < 4611686018427387904) :
    Calls Try.prog 18 #[.slice a n c, .slice b m d] w fun e w' => e = .returned (.bool (withinB xs ys)) ∧ Below w.heap.size w w' := by
  have hx' := Lib.hid hx
  have hy' := Lib.hid hy
  clear hx hy
  go_enter Try.func18, Try.ntmps18
  go_wp2_with fail
  have hB : Below w.heap.size w (w.alloc (.cells #[.slice b m d] 30)) := (Below.refl _ _).alloc (Nat.le_refl _) _
  refine (containsFunc_any w.heap.size a b n m c d xs ys _ (by simp) (hx'.out.below hB (Nat.le_refl _)) (hy'.out.below hB (Nat.le_refl _)) hn hm).mono ?_; rintro e w' ⟨rfl, q, rfl⟩
  go_wp2
  go_ret
  exact ⟨ret_bool (by simp), hB.drewN q⟩
end Go.Proofs.Ytglbdkjdglcncaa
