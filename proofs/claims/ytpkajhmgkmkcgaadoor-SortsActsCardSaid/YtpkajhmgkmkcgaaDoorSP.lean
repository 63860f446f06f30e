/-
  The contracts of theodolitealike.Ints and Round, for this seat. No condition but that lengths are below 2^62.
-/
import Derived.Test.YtpkajhmgkmkcgaaDoorSC
namespace Go.Proofs.YtpkajhmgkmkcgaaDoor
open Go.RowKit Go.Sort Go.Lib

/-- Ints: two slices read the same -/
def sameI (xs ys : List Int) : Bool := decide (xs = ys)
theorem sameI_len {xs ys : List Int} (h : xs.length ≠ ys.length) : false = sameI xs ys := by
  unfold sameI; symm; rw [decide_eq_false_iff_not]; rintro rfl; exact h rfl

set_option maxHeartbeats 400000 in
theorem ints_any (a b : Option Addr) (n m c d : Nat) (xs ys : List Int) (w : World) (hx : RdI w a n xs) (hy : RdI w b m ys) (hn : n < 4611686018427387904) :
    Calls Tryd.prog 15 #[.slice a n c, .slice b m d] w fun e w' => e = .returned (.bool (sameI xs ys)) ∧ ∃ q, w' = w.drewN q := by
  have lx := Lib.hid hx.len
  have ly := Lib.hid hy.len
  have hx' := Lib.hid hx
  have hy' := Lib.hid hy
  clear hx hy
  by_cases h : n = m
  · subst h
    go_enter Tryd.func15, Tryd.ntmps15
    go_wp2
    go_loopw [5] (fun i wr => ∃ k : Nat, k ≤ n ∧ i = .int .i64 k ∧ Hid (∀ j, j < k → nth xs j = nth ys j) ∧ ∃ q, wr = w.drewN q) (fun i _ => n - (intOf i).toNat)
    case atStart => exact ⟨0, Nat.zero_le _, rfl, by intro j hj; omega, 0, rfl⟩
    case round =>
      obtain ⟨k, hk, rfl, heq, q, rfl⟩ := hrel
      by_cases hlt : k < n
      · obtain ⟨b1, o1, rfl, h1⟩ := hx'.out.at k hlt
        obtain ⟨b2, o2, rfl, h2⟩ := hy'.out.at k hlt
        by_cases he : nth xs k = nth ys k
        · have hb : (nth xs k != nth ys k) = false := by rw [he]; simp
          have he' := Lib.hid he
          clear he
          go_wp2
          go_quiet (fail)
          go_wp2
          go_roundw
          case rel =>
            refine ⟨k + 1, by omega, by go_num, ?_, _, rfl⟩
            intro j hj
            by_cases hj' : j < k
            · exact heq.out j hj'
            · obtain rfl : j = k := by omega
              exact he'.out
          case measure => simp [intOf]; omega
        · have hb : (nth xs k != nth ys k) = true := by simpa using he
          go_wp2
          go_quiet (fail)
          go_wp2
          go_ret
          refine ⟨ret_bool ?_, q + nq, by rw [World.drewN_drewN]⟩
          symm; unfold sameI; rw [decide_eq_false_iff_not]; rintro rfl; exact he rfl
      · go_wp2
        go_ret
        refine ⟨ret_bool ?_, _, rfl⟩
        symm; unfold sameI; rw [decide_eq_true_iff]
        exact ext_nth (by rw [lx.out, ly.out]) (fun j hj => heq.out j (by have := lx.out; omega))
  · have h2 : ((n : Int) == (m : Int)) = false := by simp; omega
    have h3 : ((n : Int) != (m : Int)) = true := by simp; omega
    go_enter Tryd.func15, Tryd.ntmps15
    go_wp2
    go_ret
    exact ⟨ret_bool (sameI_len (by rw [lx.out, ly.out]; exact h)), 0, rfl⟩
/-- the int remainder of Go, made positive -/
def roundI (k n : Int) : Int := k.tmod n % n
theorem roundI_bd (k n : Int) (h : 0 < n) : 0 ≤ roundI k n ∧ roundI k n < n :=
  ⟨Int.emod_nonneg _ (by omega), Int.emod_lt_of_pos _ h⟩

set_option maxHeartbeats 400000 in
theorem round_any (k n : Int) (w : World) (h0 : 0 < n) (h1 : n < 4611686018427387904) :
    Calls Tryd.prog 13 #[.int .i64 k, .int .i64 n] w fun e w' => e = .returned (.int .i64 (roundI k n)) ∧ w = w' := by
  have h3 : (n == 0) = false := by simp; omega
  have h2 := Int.tmod_lt_of_pos k h0
  have h4 : -n < k.tmod n := by
    have := Int.lt_tmod_of_pos k h0
    omega
  have e := @Lib.hid (roundI k n = k.tmod n % n) rfl
  generalize hq : k.tmod n = q at *
  go_enter Tryd.func13, Tryd.ntmps13
  go_wp2
  go_ret
  exact ⟨ret_int (by rw [e.out, Int.add_emod_right]), rfl⟩

end Go.Proofs.YtpkajhmgkmkcgaaDoor
