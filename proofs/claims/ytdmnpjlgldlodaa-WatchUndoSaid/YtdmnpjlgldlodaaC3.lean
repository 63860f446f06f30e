/-
  The contracts of theodolitelaw19.holds, theodolitealike.Round, slices.Contains, slices.IndexFunc, ContainsFunc and clause.Within.
-/
import Derived.Test.YtdmnpjlgldlodaaC2
namespace Go.Proofs.Ytdmnpjlgldlodaa
open Go.RowKit Go.Sort Go.Lib

/-- a literal without its sign, as the law computes it -/
def absL (x : Int) : Int := if x < 0 then wrap64 (-x) else x
/-- is a literal true? -/
def litB (x : Int) (ts : List Bool) : Bool :=
  decide (0 < absL x) && ((decide (absL x ≤ ts.length) && nthB ts ((absL x).toNat - 1)) == decide (0 < x))
def holdsB (l : List Int) (ts : List Bool) : Bool := l.any fun x => litB x ts

theorem absL_neg {x : Int} (h : x < 0) : wrap64 (-x) = absL x := by unfold absL; rw [if_pos h]
theorem absL_pos {x : Int} (h : ¬ x < 0) : absL x = x := by unfold absL; rw [if_neg h]
theorem absL_bd {x : Int} (h : -9223372036854775808 ≤ x ∧ x ≤ 9223372036854775807) : absL x ≤ 9223372036854775807 := by unfold absL wrap64; split <;> omega

theorem holdsB_take_none {xs : List Int} {ts : List Bool} (h : ∀ j, j < xs.length → litB (nth xs j) ts = false) : false = holdsB xs ts := by
  symm
  unfold holdsB
  rw [List.any_eq_false]
  intro x hx
  obtain ⟨j, hj, rfl⟩ := List.getElem_of_mem hx
  have := h j hj
  rw [nth_eq hj] at this
  simp [this]
theorem holdsB_at {xs : List Int} {ts : List Bool} {j : Nat} (hj : j < xs.length) (h : litB (nth xs j) ts = true) : true = holdsB xs ts := by
  symm
  unfold holdsB
  rw [List.any_eq_true]
  exact ⟨_, nth_mem hj, h⟩

set_option maxHeartbeats 1000000 in
theorem holds_any (a b : Option Addr) (n m c d : Nat) (xs : List Int) (ts : List Bool) (w : World) (hx : RdI w a n xs) (hy : RdB w b m ts) (hn : n < 4611686018427387904) :
    Calls Try.prog 11 #[.slice a n c, .slice b m d] w fun e w' => e = .returned (.bool (holdsB xs ts)) ∧ ∃ q, w' = w.drewN q := by
  have lx := Lib.hid hx.len
  have ly := Lib.hid hy.len
  have hx' := Lib.hid hx
  have hy' := Lib.hid hy
  clear hx hy
  go_enter Try.func11, Try.ntmps11
  go_wp2
  go_loopw [5] (fun i wr => ∃ k : Nat, k ≤ n ∧ i = .int .i64 k ∧ Hid (∀ j, j < k → litB (nth xs j) ts = false) ∧ ∃ q, wr = w.drewN q) (fun i _ => n - (intOf i).toNat)
  case atStart => exact ⟨0, Nat.zero_le _, rfl, by intro j hj; omega, 0, rfl⟩
  case round =>
    obtain ⟨k, hk, rfl, heq, q, rfl⟩ := hrel
    by_cases hlt : k < n
    · obtain ⟨b1, o1, rfl, h1⟩ := hx'.out.at k hlt
      have hl := hx'.out.wf _ (nth_mem (xs := xs) (j := k) (by rw [lx.out]; exact hlt))
      have hbd := absL_bd hl
      have hdef : litB (nth xs k) ts = (decide (0 < absL (nth xs k)) && ((decide (absL (nth xs k) ≤ ts.length) && nthB ts ((absL (nth xs k)).toNat - 1)) == decide (0 < nth xs k))) := rfl
      have hdef' := Lib.hid hdef
      clear hdef
      generalize hgx : nth xs k = x at *
      have hgx' := Lib.hid hgx
      clear hgx
      rw [ly.out] at hdef'
      generalize hgy : absL x = y at *
      have hgy' := Lib.hid hgy
      clear hgy
      clear hl
      have hstep : litB x ts = false → Hid (∀ j, j < k + 1 → litB (nth xs j) ts = false) := by
        intro hb j hj
        by_cases hj' : j < k
        · exact heq.out j hj'
        · obtain rfl : j = k := by omega
          rw [hgx'.out]; exact hb
      have hstep' := Lib.hid hstep
      have hret : litB x ts = true → true = holdsB xs ts := fun hb => holdsB_at (j := k) (by rw [lx.out]; exact hlt) (by rw [hgx'.out]; exact hb)
      have hret' := Lib.hid hret
      clear hstep hret
      have hw : x < 0 → wrap64 (-x) = y := fun hneg => by rw [← hgy'.out]; exact absL_neg hneg
      have hw2 : ¬ x < 0 → x = y := fun hneg => by rw [← hgy'.out]; exact (absL_pos hneg).symm
      by_cases hneg : x < 0
      · have hw' := hw hneg
        clear hw hw2
        have hx0 : decide (0 < x) = false := by simp; omega
        by_cases hpos : 0 < y
        · by_cases hle : y ≤ (m : Int)
          · obtain ⟨b2, o2, rfl, h2⟩ := hy'.out.at (y.toNat - 1) (by omega)
            generalize nthB ts (y.toNat - 1) = t at *
            cases t
            · have hv := Lib.hid (hret'.out (by rw [hdef'.out]; simp [hpos, hle, hx0]))
              go_wp2
              go_ret
              exact ⟨ret_bool hv.out, _, rfl⟩
            · have hv := Lib.hid (hstep'.out (by rw [hdef'.out]; simp [hpos, hle, hx0]))
              go_wp2
              go_roundw
              case rel => exact ⟨k + 1, by omega, by go_num, hv.out, _, rfl⟩
              case measure => simp [intOf]; omega
          · generalize nthB ts (y.toNat - 1) = t at *
            have hv := Lib.hid (hret'.out (by rw [hdef'.out]; simp [hpos, hle, hx0]))
            go_wp2
            go_ret
            exact ⟨ret_bool hv.out, _, rfl⟩
        · generalize nthB ts (y.toNat - 1) = t at *
          have hv := Lib.hid (hstep'.out (by rw [hdef'.out]; simp [hpos]))
          go_wp2
          go_roundw
          case rel => exact ⟨k + 1, by omega, by go_num, hv.out, _, rfl⟩
          case measure => simp [intOf]; omega
      · obtain rfl := hw2 hneg
        clear hw hw2
        by_cases hpos : 0 < x
        · have hx0 : decide (0 < x) = true := by simpa using hpos
          by_cases hle : x ≤ (m : Int)
          · obtain ⟨b2, o2, rfl, h2⟩ := hy'.out.at (x.toNat - 1) (by omega)
            generalize nthB ts (x.toNat - 1) = t at *
            cases t
            · have hv := Lib.hid (hstep'.out (by rw [hdef'.out]; simp [hpos, hle]))
              go_wp2
              go_roundw
              case rel => exact ⟨k + 1, by omega, by go_num, hv.out, _, rfl⟩
              case measure => simp [intOf]; omega
            · have hv := Lib.hid (hret'.out (by rw [hdef'.out]; simp [hpos, hle]))
              go_wp2
              go_ret
              exact ⟨ret_bool hv.out, _, rfl⟩
          · generalize nthB ts (x.toNat - 1) = t at *
            have hv := Lib.hid (hstep'.out (by rw [hdef'.out]; simp [hpos, hle]))
            go_wp2
            go_roundw
            case rel => exact ⟨k + 1, by omega, by go_num, hv.out, _, rfl⟩
            case measure => simp [intOf]; omega
        · generalize nthB ts (x.toNat - 1) = t at *
          have hv := Lib.hid (hstep'.out (by rw [hdef'.out]; simp [hpos]))
          go_wp2
          go_roundw
          case rel => exact ⟨k + 1, by omega, by go_num, hv.out, _, rfl⟩
          case measure => simp [intOf]; omega
    · go_wp2
      go_ret
      exact ⟨ret_bool (holdsB_take_none fun j hj => heq.out j (by have := lx.out; omega)), _, rfl⟩
end Go.Proofs.Ytdmnpjlgldlodaa
