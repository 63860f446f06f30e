/-
  theodolitelaw21: size and within. Conditions: ints, bounded lengths.
-/
import Derived.Test.YtdmnpjlgldlodaaWJ
namespace Go.Proofs.Ytdmnpjlgldlodaa
open Go.RowKit Go.Sort Go.Lib Go.Maps

def sz21 (x : Int) : Int := max x (negL x)
set_option maxHeartbeats 400000 in
theorem size21_any (x : Int) (w : World) : Calls Try.prog 25 #[.int .i64 x] w fun e w' => e = .returned (.int .i64 (sz21 x)) ∧ w' = w := by
  have hn : wrap64 (-x) = negL x := rfl
  go_enter Try.func25, Try.ntmps25
  go_wp2
  go_ret
  exact ⟨rfl, rfl⟩
def inB (n x : Int) : Bool := !(x == 0 || (decide (x < -n) || decide (n < x)))
def wIn (xs : List Int) (n : Int) : Bool := xs.all (inB n)
theorem ret_b {a b : Bool} (h : a = b) : Ending.returned (.bool a) = .returned (.bool b) := by rw [h]
theorem wIn_take {xs : List Int} {n : Int} {k : Nat} (hk : k < xs.length) (h : wIn (xs.take k) n = true) : wIn (xs.take (k + 1)) n = inB n (nth xs k) := by
  unfold wIn at *
  rw [take_succ_nth hk, List.all_append, h]
  simp
theorem wIn_no {xs : List Int} {n : Int} {k : Nat} (hk : k < xs.length) (h : inB n (nth xs k) = false) : wIn xs n = false := by
  unfold wIn
  rw [List.all_eq_false]
  exact ⟨nth xs k, nth_mem hk, by rw [h]; decide⟩
set_option maxHeartbeats 1000000 in
theorem within21_any (a : Option Addr) (n c : Nat) (xs : List Int) (m : Int) (w : World) (hx : RdI w a n xs) (hn : n < 1099511627776) (hm : 0 ≤ m ∧ m < 1099511627776) :
    Calls Try.prog 23 #[.slice a n c, .int .i64 m] w fun e w' => e = .returned (.bool (wIn xs m)) ∧ w = w' := by
  have hx' := Lib.hid hx
  have lx := Lib.hid hx.len
  have hneg : wrap64 (-m) = -m := by unfold wrap64; omega
  clear hx
  go_enter Try.func23, Try.ntmps23
  go_wp2
  go_loopw [4, 5] (fun _ i wr => ∃ k : Nat, k ≤ n ∧ i = .int .i64 k ∧ wr = w ∧ Hid (wIn (xs.take k) m = true)) (fun _ i _ => n - (intOf i).toNat)
  case atStart => exact ⟨0, Nat.zero_le _, rfl, rfl, rfl⟩
  case round =>
    obtain ⟨k, hk, rfl, rfl, hw⟩ := hrel
    by_cases hlt : k < n
    · obtain ⟨b, o, rfl, h1⟩ := hx'.out.at k hlt
      have hkx : k < xs.length := by rw [lx.out]; exact hlt
      have hst := Lib.hid (wIn_take hkx hw.out)
      have hno := Lib.hid (wIn_no (n := m) hkx)
      have hd := @Lib.hid (inB m (nth xs k) = !(nth xs k == 0 || (decide (nth xs k < -m) || decide (m < nth xs k)))) rfl
      clear hkx
      generalize nth xs k = x at *
      by_cases h0 : x = 0
      · have hf := Lib.hid (hno.out (by rw [hd.out, h0]; rfl))
        clear hno hd hst
        go_wp2
        go_ret
        exact ⟨ret_b hf.out.symm, rfl⟩
      have h0b : (x == 0) = false := by simpa using h0
      by_cases h2 : x < -m
      · have hf := Lib.hid (hno.out (by rw [hd.out]; simp [h2]))
        clear hno hd hst
        go_wp2
        go_ret
        exact ⟨ret_b hf.out.symm, rfl⟩
      by_cases h3 : m < x
      · have hf := Lib.hid (hno.out (by rw [hd.out]; simp [h3]))
        clear hno hd hst
        go_wp2
        go_ret
        exact ⟨ret_b hf.out.symm, rfl⟩
      have hf := Lib.hid (show wIn (List.take (k + 1) xs) m = true from hst.out.trans (show inB m x = true by rw [hd.out]; simp [h0, h2, h3]))
      clear hno hd hst
      go_wp2
      go_roundw
      case rel => exact ⟨k + 1, by omega, by go_num, by trivial, hf.out⟩
      case measure => simp [intOf]; omega
    · obtain rfl : k = n := by omega
      have hf : wIn xs m = true := by have := hw.out; rw [← lx.out, List.take_length] at this; exact this
      have hf' := Lib.hid hf
      clear hf hw
      go_wp2
      go_ret
      exact ⟨ret_b hf'.out.symm, rfl⟩
end Go.Proofs.Ytdmnpjlgldlodaa
