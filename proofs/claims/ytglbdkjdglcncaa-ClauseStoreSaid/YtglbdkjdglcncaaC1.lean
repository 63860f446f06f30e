/-
  The contracts of clause.Size, cmp.Compare at uint64, cmp.Or, clause.Order, theodolitealike.Round and Ints. No condition but that the arguments are ints.
-/
import Derived.Test.YtglbdkjdglcncaaRows
import Derived.Test.YtglbdkjdglcncaaV
import Derived.Test.YtglbdkjdglcncaaL
import Derived.Deep.QuietTactic
import Derived.BigQuiet
namespace Go.Proofs.Ytglbdkjdglcncaa
open Go.RowKit Go.Sort Go.Lib

theorem wrap_u64 (x : Int) : IntKind.u64.wrap x = x % 18446744073709551616 := by simp [IntKind.wrap, IntKind.bits, IntKind.signed]
theorem sz_neg {x : Int} (h : x < 0) : IntKind.u64.wrap (-IntKind.u64.wrap x) = sz x := by
  rw [wrap_u64, wrap_u64]; unfold sz; rw [if_pos h]; omega
theorem sz_pos {x : Int} (h : ¬ x < 0) : IntKind.u64.wrap x = sz x := by
  rw [wrap_u64]; unfold sz; rw [if_neg h]
theorem ret_int {k : IntKind} {a b : Int} (h : a = b) : Ending.returned (.int k a) = .returned (.int k b) := by rw [h]
theorem ret_bool {a b : Bool} (h : a = b) : Ending.returned (.bool a) = .returned (.bool b) := by rw [h]

set_option maxHeartbeats 400000 in
theorem size_any (x : Int) (w : World) : Calls Try.prog 25 #[.int .i64 x] w fun e w' => e = .returned (.int .u64 (sz x)) ∧ w = w' := by
  by_cases h : x < 0
  · have e := Lib.hid (sz_neg h)
    go_enter Try.func25, Try.ntmps25
    go_wp2
    go_ret
    exact ⟨ret_int e.out, rfl⟩
  · have e := Lib.hid (sz_pos h)
    go_enter Try.func25, Try.ntmps25
    go_wp2
    go_ret
    exact ⟨ret_int e.out, rfl⟩

set_option maxHeartbeats 400000 in
theorem cmpu_any (x y : Int) (w : World) : Calls Try.prog 36 #[.int .u64 x, .int .u64 y] w fun e w' => e = .returned (.int .i64 (Lib.compareInt x y)) ∧ w = w' := by
  have e : Lib.compareInt x y = if x < y then -1 else if x > y then 1 else 0 := rfl
  have e' := Lib.hid e
  clear e
  by_cases h1 : x < y
  · go_enter Try.func36, Try.ntmps36
    go_wp2
    go_ret
    exact ⟨ret_int (by rw [e'.out, if_pos (by omega)]), rfl⟩
  · by_cases h2 : y < x
    · go_enter Try.func36, Try.ntmps36
      go_wp2
      go_ret
      exact ⟨ret_int (by rw [e'.out, if_neg (by omega), if_pos (by omega)]), rfl⟩
    · go_enter Try.func36, Try.ntmps36
      go_wp2
      go_ret
      exact ⟨ret_int (by rw [e'.out, if_neg (by omega), if_neg (by omega)]), rfl⟩

set_option maxHeartbeats 400000 in
theorem cmpi_any (x y : Int) (w : World) : Calls Try.prog 37 #[.int .i64 x, .int .i64 y] w fun e w' => e = .returned (.int .i64 (Lib.compareInt x y)) ∧ w = w' := by
  have e : Lib.compareInt x y = if x < y then -1 else if x > y then 1 else 0 := rfl
  have e' := Lib.hid e
  clear e
  by_cases h1 : x < y
  · go_enter Try.func37, Try.ntmps37
    go_wp2
    go_ret
    exact ⟨ret_int (by rw [e'.out, if_pos (by omega)]), rfl⟩
  · by_cases h2 : y < x
    · go_enter Try.func37, Try.ntmps37
      go_wp2
      go_ret
      exact ⟨ret_int (by rw [e'.out, if_neg (by omega), if_pos (by omega)]), rfl⟩
    · go_enter Try.func37, Try.ntmps37
      go_wp2
      go_ret
      exact ⟨ret_int (by rw [e'.out, if_neg (by omega), if_neg (by omega)]), rfl⟩

def or2 (x y : Int) : Int := if x = 0 then y else x
/-- cmp.Or of two ints that lie in one block -/
theorem or2_any (b : Nat) (x y : Int) (w : World) (h0 : w.cell? ⟨b, 0, none⟩ = some (.int .i64 x)) (h1 : w.cell? ⟨b, 1, none⟩ = some (.int .i64 y)) :
    Calls Try.prog 35 #[.slice (some ⟨b, 0, none⟩) 2 2] w fun e w' => e = .returned (.int .i64 (or2 x y)) ∧ w = w' := by
  have eo : or2 x y = if x = 0 then y else x := rfl
  have eo' := Lib.hid eo
  clear eo
  by_cases hx : x = 0
  · subst hx
    by_cases hy : y = 0
    · subst hy
      go_enter Try.func35, Try.ntmps35
      go_wp2
      refine wp_loop_rounds 3 ?_
      rw [rounds_succ]
      go_wp2
      rw [rounds_succ]
      go_wp2
      rw [rounds_succ]
      go_wp2
      go_ret
      exact ⟨ret_int (by rw [eo'.out]; simp [*]), rfl⟩
    · have hy' : (y != 0) = true := by simpa using hy
      go_enter Try.func35, Try.ntmps35
      go_wp2
      refine wp_loop_rounds 2 ?_
      rw [rounds_succ]
      go_wp2
      rw [rounds_succ]
      go_wp2
      go_ret
      exact ⟨ret_int (by rw [eo'.out]; simp [*]), rfl⟩
  · have hx' : (x != 0) = true := by simpa using hx
    go_enter Try.func35, Try.ntmps35
    go_wp2
    refine wp_loop_rounds 1 ?_
    rw [rounds_succ]
    go_wp2
    go_ret
    exact ⟨ret_int (by rw [eo'.out]; simp [*]), rfl⟩

set_option maxHeartbeats 400000 in
theorem order_any (x y : Int) (w : World) : Calls Try.prog 23 #[.int .i64 x, .int .i64 y] w fun e w' => e = .returned (.int .i64 (cfC x y)) ∧ ∃ q os', w' = grow (w.drewN q) os' := by
  have e : cfC x y = if Lib.compareInt (sz x) (sz y) = 0 then Lib.compareInt y x else Lib.compareInt (sz x) (sz y) := rfl
  have e' := Lib.hid e
  clear e
  go_enter Try.func23, Try.ntmps23
  go_wp2_with fail
  refine (size_any x _).mono ?_; rintro e w' ⟨rfl, rfl⟩
  go_wp2_with fail
  refine (size_any y _).mono ?_; rintro e w' ⟨rfl, rfl⟩
  go_wp2_with fail
  refine (cmpu_any _ _ _).mono ?_; rintro e w' ⟨rfl, rfl⟩
  go_wp2_with fail
  refine (cmpi_any _ _ _).mono ?_; rintro e w' ⟨rfl, rfl⟩
  go_wp2_with fail
  refine (or2_any _ (compareInt (sz x) (sz y)) (compareInt y x) _ (by simp) (by simp)).mono ?_; rintro e w' ⟨rfl, rfl⟩
  go_wp2_with fail
  go_ret
  exact ⟨ret_int e'.out.symm, 0, #[_], rfl⟩
end Go.Proofs.Ytglbdkjdglcncaa
