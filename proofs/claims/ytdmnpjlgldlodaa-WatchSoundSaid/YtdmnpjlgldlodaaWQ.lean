/-
  theodolitelaw21.WatchSound: the walk. Condition: the slices can be read.
-/
import Derived.Test.YtdmnpjlgldlodaaWL
import Derived.IntWalk
namespace Go.Proofs.Ytdmnpjlgldlodaa
open Go.RowKit Go.Sort Go.Lib Go.Maps

/-- what Close hands back, as the law asks for it -/
def CloseLaw (m : Nat) (ts : List Bool) (ls : List (List Int)) (given : List Int) (w : World) (e : Ending) (w' : World) : Prop :=
  ∃ a n c cf, e = .returned (.tuple #[.slice a n c, .bool cf]) ∧ Below w.heap.size w w' ∧
    (given.all (litT ts) = true → holdS ts ls = true → cf = false ∧ ∃ xs, RdI w' a n xs ∧ n ≤ 21 ∧ wIn xs m = true ∧ ∀ x ∈ xs, inB m x = true ∧ litT ts x = true)
theorem close_law {m : Nat} {ts : List Bool} {ls : List (List Int)} {given : List Int} {w w' : World} {e : Ending} (hm : m ≤ 10) (hl : ∀ r ∈ ls, wIn r m = true) (hg : wIn given m = true) (h : ClosePost ls given w e w') : CloseLaw m ts ls given w e w' := by
  obtain ⟨hb, h⟩ := h
  unfold CloseLaw
  cases hc : closeS ls given with
  | none =>
    rw [hc] at h
    refine ⟨_, _, _, _, h, hb, fun h1 h2 => ?_⟩
    obtain ⟨S, hS, _⟩ := watch_plain hm hl hg h1 h2
    rw [hc] at hS; cases hS
  | some S =>
    rw [hc] at h
    obtain ⟨a, n, c, he, hr⟩ := h
    refine ⟨a, n, c, false, he, hb, fun h1 h2 => ⟨rfl, ?_⟩⟩
    obtain ⟨S', hS, q1, q2, q3⟩ := watch_plain hm hl hg h1 h2
    rw [hc] at hS; cases hS
    exact ⟨_, hr, by have := hr.len; omega, q1, q2⟩

set_option maxRecDepth 100000 in
set_option maxHeartbeats 4000000 in
theorem watchSound_walk (a b t : Option Addr) (n k0 m c d f : Nat) (ls : List (List Int)) (given : List Int) (ts : List Bool) (w : World) (hx : RdR w a n ls) (hg : RdI w b k0 given) (ht : RdB w t m ts) (hn : n ≤ 9223372036854775807) (hk : k0 ≤ 9223372036854775807) (hm : m ≤ 9223372036854775807) :
    Calls Try.prog 6 #[.slice a n c, .slice b k0 d, .slice t m f] w fun e w' => e = .returned (.bool true) ∧ Below w.heap.size w w' := by
  have hx' := Lib.hid hx
  have hg' := Lib.hid hg
  have ht' := Lib.hid ht
  have lx := Lib.hid hx.len
  have lg := Lib.hid hg.len
  clear hx hg ht
  by_cases g1 : 12 < n
  · go_enter Try.func6, Try.ntmps6
    go_wp2_with fail
    refine (awake21_any w).mono ?_; rintro e w1 ⟨rfl, hb⟩
    have hb' := Lib.hid hb
    clear hb
    go_wp2
    go_ret
    exact ⟨rfl, hb'.out⟩
  by_cases g2 : 8 < k0
  · go_enter Try.func6, Try.ntmps6
    go_wp2_with fail
    refine (awake21_any w).mono ?_; rintro e w1 ⟨rfl, hb⟩
    have hb' := Lib.hid hb
    clear hb
    go_wp2
    go_ret
    exact ⟨rfl, hb'.out⟩
  by_cases g3 : 10 < m
  · go_enter Try.func6, Try.ntmps6
    go_wp2_with fail
    refine (awake21_any w).mono ?_; rintro e w1 ⟨rfl, hb⟩
    have hb' := Lib.hid hb
    clear hb
    go_wp2
    go_ret
    exact ⟨rfl, hb'.out⟩
  go_enter Try.func6, Try.ntmps6
  go_wp2
  go_loopw [6, 7] (fun _ i wr => ∃ k : Nat, k ≤ n ∧ i = .int .i64 k ∧ wr = w ∧ Hid (∀ j, j < k → (nthR ls j).length ≤ 6 ∧ wIn (nthR ls j) m = true)) (fun _ i _ => n - (intOf i).toNat)
  case atStart => exact ⟨0, Nat.zero_le _, rfl, rfl, fun j hj => by omega⟩
  case round =>
    obtain ⟨k, hk, rfl, rfl, hrows⟩ := hrel
    by_cases hlt : k < n
    · obtain ⟨b1, o1, a', c', rfl, h1, hr⟩ := hx'.out.at k hlt
      have hstep : (nthR ls k).length ≤ 6 → wIn (nthR ls k) m = true → ∀ j, j < k + 1 → (nthR ls j).length ≤ 6 ∧ wIn (nthR ls j) m = true := fun p1 p2 j hj => by
        by_cases e : j = k
        · subst e; exact ⟨p1, p2⟩
        · exact hrows.out j (by omega)
      have hstep' := Lib.hid hstep
      have hr' := Lib.hid hr
      clear hstep hr
      generalize nthR ls k = r at *
      by_cases hlen : 6 < r.length
      · go_wp2_with fail
        refine (awake21_any _).mono ?_; rintro e w1 ⟨rfl, hb⟩
        have hb' := Lib.hid hb
        clear hb
        go_wp2
        go_ret
        exact ⟨rfl, hb'.out⟩
      have hwi := Lib.hid (within21_any a' r.length c' r m wr hr'.out (by omega) (by omega))
      cases hin : wIn r m
      · rw [hin] at hwi
        clear hin hstep'
        go_wp2_with fail
        refine hwi.out.mono ?_; rintro e w' ⟨rfl, rfl⟩
        go_wp2_with fail
        refine (awake21_any _).mono ?_; rintro e w1 ⟨rfl, hb⟩
        have hb' := Lib.hid hb
        clear hb
        go_wp2
        go_ret
        exact ⟨rfl, hb'.out⟩
      · have hs := Lib.hid (hstep'.out (by omega) hin)
        rw [hin] at hwi
        clear hin hstep'
        go_wp2_with fail
        refine hwi.out.mono ?_; rintro e w' ⟨rfl, rfl⟩
        go_wp2
        go_roundw
        case rel => exact ⟨k + 1, by omega, by go_num, by trivial, hs.out⟩
        case measure => simp [intOf]; omega
    · obtain rfl : k = n := by omega
      have hl6 : ∀ r ∈ ls, r.length ≤ 6 := fun r hr => by
        obtain ⟨j, hj, rfl⟩ := List.getElem_of_mem hr
        rw [← nthR_eq hj]; exact (hrows.out j (by have := lx.out; omega)).1
      have hlw : ∀ r ∈ ls, wIn r m = true := fun r hr => by
        obtain ⟨j, hj, rfl⟩ := List.getElem_of_mem hr
        rw [← nthR_eq hj]; exact (hrows.out j (by have := lx.out; omega)).2
      have hfl : ls.flatten.length < 1099511627776 := by have := flat_le hl6; have := lx.out; omega
      have hcl := Lib.hid (close_any a b k k0 c d ls given wr hx'.out hg'.out (by omega) (by omega) (fun r hr => by have := hl6 r hr; omega) hfl)
      have hlw' := Lib.hid hlw
      have hl6' := Lib.hid hl6
      clear hl6 hlw hfl hrows
      have hwi := Lib.hid (within21_any b k0 d given m wr hg'.out (by omega) (by omega))
      cases hgw : wIn given m
      · rw [hgw] at hwi
        clear hgw hcl
        go_wp2_with fail
        refine hwi.out.mono ?_; rintro e w' ⟨rfl, rfl⟩
        go_wp2_with fail
        refine (awake21_any _).mono ?_; rintro e w1 ⟨rfl, hb⟩
        have hb' := Lib.hid hb
        clear hb
        go_wp2
        go_ret
        exact ⟨rfl, hb'.out⟩
      rw [hgw] at hwi
      have hgw' := Lib.hid hgw
      clear hgw
      go_wp2_with fail
      refine hwi.out.mono ?_; rintro e w' ⟨rfl, rfl⟩
      go_wp2_with fail
      refine hcl.out.mono ?_; rintro e w1 hp
      obtain ⟨a2, n2, c2, cf, rfl, hb1, hres⟩ := close_law (ts := ts) (by omega) hlw'.out hgw'.out hp
      have B1 := Lib.hid hb1
      have R1 := Lib.hid hres
      have X1 := Lib.hid (hx'.out.below hb1 (Nat.le_refl _))
      have G1 := Lib.hid (hg'.out.below hb1 (Nat.le_refl _))
      have T1 := Lib.hid (ht'.out.below hb1 (Nat.le_refl _))
      clear hp hb1 hres hwi hcl hx' hg' ht'
      go_wp2
      obtain ⟨wo, rfl⟩ : ∃ wo : World, wo = wr := ⟨_, rfl⟩
      go_loopw [10, 11] (fun v i wr => ∃ (j q : Nat), j ≤ k0 ∧ i = .int .i64 j ∧ v = .bool ((given.take j).all (litT ts)) ∧ wr = w1.drewN q) (fun _ i _ => k0 - (intOf i).toNat)
      case atStart => exact ⟨0, 0, Nat.zero_le _, rfl, rfl, rfl⟩
      case round =>
        obtain ⟨j, q, hj, rfl, rfl, rfl⟩ := hrel
        by_cases hlt2 : j < k0
        · have hjx : j < given.length := by rw [lg.out]; exact hlt2
          obtain ⟨b1, o1, rfl, h1⟩ := G1.out.at j hlt2
          have hin := wIn_at hgw'.out hjx
          obtain ⟨s1, s2, s3, _, _⟩ := sz21_bd hin (by omega)
          obtain ⟨b2, o2, rfl, h2⟩ := T1.out.lit hin (by omega)
          have hst := Lib.hid (all_take (f := litT ts) hjx)
          have hd := @Lib.hid (litT ts (nth given j) = (nthB ts ((sz21 (nth given j)).toNat - 1) == decide (0 < nth given j))) rfl
          clear hjx hin
          generalize nth given j = x at *
          generalize nthB ts ((sz21 x).toNat - 1) = tv at *
          generalize (given.take j).all (litT ts) = v at *
          have i1 : 0 ≤ sz21 x - 1 := by omega
          have i2 : sz21 x - 1 < (m : Int) := by omega
          have i3 := IntWalk.i64_in (sz21 x - 1) (by omega)
          cases v
          · have hv := @Lib.hid ((given.take (j + 1)).all (litT ts) = false) (by rw [hst.out]; rfl)
            go_wp2
            go_quiet (fail)
            go_wp2
            go_roundw
            case rel => exact ⟨j + 1, _, by omega, by go_num, by rw [hv.out], rfl⟩
            case measure => simp [intOf]; omega
          · have hv := @Lib.hid ((given.take (j + 1)).all (litT ts) = (tv == decide (0 < x))) (by rw [hst.out, hd.out]; rfl)
            go_wp2
            go_quiet ((go_at_call 25; exact quiet_add_same (size21_any _ _)))
            go_wp2
            go_roundw
            case rel => exact ⟨j + 1, _, by omega, by go_num, by rw [hv.out], rfl⟩
            case measure => simp [intOf]; omega
        · obtain rfl : j = k0 := by omega
          have hall : given.take j = given := by rw [← lg.out, List.take_length]
          rw [hall]
          generalize hH : given.all (litT ts) = H at *
          have hH' := Lib.hid hH
          clear hall hH
          go_wp2
          go_loopw [10, 12, 13, 14] (fun v i _ _ wr => ∃ (i1 q : Nat), i1 ≤ k ∧ i = .int .i64 i1 ∧ v = .bool (H && holdS ts (ls.take i1)) ∧ wr = w1.drewN q) (fun _ i _ _ _ => k - (intOf i).toNat)
          case atStart => exact ⟨0, q, Nat.zero_le _, rfl, by cases H <;> rfl, rfl⟩
          case round =>
            obtain ⟨i1, q, hi1, rfl, rfl, rfl⟩ := hrel
            by_cases hlt3 : i1 < k
            · have hix : i1 < ls.length := by rw [lx.out]; exact hlt3
              obtain ⟨b3, o3, a', c', rfl, h3, hr3⟩ := X1.out.at i1 hlt3
              have hst := Lib.hid (holdS_take (ts := ts) hix)
              have hrw := Lib.hid (hlw'.out _ (nthR_mem hix))
              have hr6 := hl6'.out _ (nthR_mem hix)
              clear hix
              have hr3' := Lib.hid hr3
              clear hr3
              generalize nthR ls i1 = r at *
              generalize holdS ts (ls.take i1) = hs at *
              go_wp2
              obtain ⟨wz, hwz⟩ : ∃ wz : World, wz = w1.drewN q := ⟨_, rfl⟩
              go_loopw [13, 14] (fun v i wr => ∃ (i2 q : Nat), i2 ≤ r.length ∧ i = .int .i64 i2 ∧ v = .bool ((r.take i2).any (litT ts)) ∧ wr = w1.drewN q) (fun _ i _ => r.length - (intOf i).toNat)
              case atStart => exact ⟨0, q, Nat.zero_le _, rfl, rfl, rfl⟩
              case round =>
                clear hwz
                obtain ⟨i2, q, hi2, rfl, rfl, rfl⟩ := hrel
                by_cases hlt4 : i2 < r.length
                · obtain ⟨b1, o1, rfl, h1⟩ := hr3'.out.at i2 hlt4
                  have hin := wIn_at hrw.out hlt4
                  obtain ⟨s1, s2, s3, _, _⟩ := sz21_bd hin (by omega)
                  obtain ⟨b2, o2, rfl, h2⟩ := T1.out.lit hin (by omega)
                  have hst2 := Lib.hid (any_take (f := litT ts) hlt4)
                  have hd := @Lib.hid (litT ts (nth r i2) = (nthB ts ((sz21 (nth r i2)).toNat - 1) == decide (0 < nth r i2))) rfl
                  clear hin
                  generalize nth r i2 = x at *
                  generalize nthB ts ((sz21 x).toNat - 1) = tv at *
                  generalize (r.take i2).any (litT ts) = v at *
                  have i1a : 0 ≤ sz21 x - 1 := by omega
                  have i2a : sz21 x - 1 < (m : Int) := by omega
                  have i3a := IntWalk.i64_in (sz21 x - 1) (by omega)
                  cases v
                  · have hv := @Lib.hid ((r.take (i2 + 1)).any (litT ts) = (tv == decide (0 < x))) (by rw [hst2.out, hd.out]; rfl)
                    go_wp2
                    go_quiet ((go_at_call 25; exact quiet_add_same (size21_any _ _)))
                    go_wp2
                    go_roundw
                    case rel => exact ⟨i2 + 1, _, by omega, by go_num, by rw [hv.out], rfl⟩
                    case measure => simp [intOf]; omega
                  · have hv := @Lib.hid ((r.take (i2 + 1)).any (litT ts) = true) (by rw [hst2.out]; rfl)
                    go_wp2
                    go_quiet (fail)
                    go_wp2
                    go_roundw
                    case rel => exact ⟨i2 + 1, _, by omega, by go_num, by rw [hv.out], rfl⟩
                    case measure => simp [intOf]; omega
                · obtain rfl : i2 = r.length := by omega
                  rw [List.take_length]
                  have hst' := Lib.hid (show (H && holdS ts (ls.take (i1 + 1))) = (H && hs && r.any (litT ts)) by rw [hst.out, Bool.and_assoc])
                  generalize r.any (litT ts) = one at *
                  generalize (H && hs) = hh at *
                  cases hh <;> cases one
                  all_goals
                    go_wp2
                    go_roundw
                    case rel => exact ⟨i1 + 1, q, by omega, by go_num, by rw [hst'.out]; rfl, rfl⟩
                    case measure => simp [intOf]; omega
            · obtain rfl : i1 = k := by omega
              have hall : ls.take i1 = ls := by rw [← lx.out, List.take_length]
              rw [hall]
              generalize hS : holdS ts ls = hs at *
              have hS' := Lib.hid hS
              clear hall hS
              cases H
              · go_wp2_with fail
                refine (awake21_any _).mono ?_; rintro e w1 ⟨rfl, hb⟩
                have hb' := Lib.hid ((B1.out.drewN q).trans (hb.mono B1.out.size))
                clear hb
                go_wp2
                go_ret
                exact ⟨rfl, hb'.out⟩
              cases hs
              · go_wp2_with fail
                refine (awake21_any _).mono ?_; rintro e w1 ⟨rfl, hb⟩
                have hb' := Lib.hid ((B1.out.drewN q).trans (hb.mono B1.out.size))
                clear hb
                go_wp2
                go_ret
                exact ⟨rfl, hb'.out⟩
              obtain ⟨rfl, xs, hxs, hn2, hwx, hall⟩ := R1.out rfl rfl
              have Q1 := Lib.hid hxs
              have hlx := Lib.hid hxs.len
              have A1 := Lib.hid hall
              have hwi := Lib.hid (within21_any a2 n2 c2 xs m (w1.drewN q) (hxs.drewN q) (by omega) (by omega))
              rw [hwx] at hwi
              clear hxs hall R1 hwx X1 G1
              go_wp2_with fail
              refine hwi.out.mono ?_; rintro e w' ⟨rfl, rfl⟩
              go_wp2
              go_loopw [6, 15] (fun _ i wr => ∃ (j q : Nat), j ≤ n2 ∧ i = .int .i64 j ∧ wr = w1.drewN q) (fun _ i _ => n2 - (intOf i).toNat)
              case atStart => exact ⟨0, q, Nat.zero_le _, rfl, rfl⟩
              case round =>
                clear hwi
                obtain ⟨i2, q, hi2, rfl, rfl⟩ := hrel
                by_cases hlt4 : i2 < n2
                · obtain ⟨b1, o1, rfl, h1⟩ := Q1.out.at i2 hlt4
                  have hix : i2 < xs.length := by rw [hlx.out]; exact hlt4
                  obtain ⟨hin, hlit⟩ := A1.out _ (nth_mem hix)
                  obtain ⟨s1, s2, s3, _, _⟩ := sz21_bd hin (by omega)
                  obtain ⟨b2, o2, rfl, h2⟩ := T1.out.lit hin (by omega)
                  have hd : nthB ts ((sz21 (nth xs i2)).toNat - 1) = decide (0 < nth xs i2) := by unfold litT at hlit; simpa using hlit
                  rw [hd] at h2
                  clear hin hix hd hlit
                  generalize nth xs i2 = x at *
                  have i1a : 0 ≤ sz21 x - 1 := by omega
                  have i2a : sz21 x - 1 < (m : Int) := by omega
                  have i3a := IntWalk.i64_in (sz21 x - 1) (by omega)
                  by_cases hpos : 0 < x
                  · have hpd : decide (0 < x) = true := by simpa using hpos
                    rw [hpd] at h2
                    clear hpd
                    go_wp2
                    go_quiet ((go_at_call 25; exact quiet_add_same (size21_any _ _)))
                    go_wp2
                    go_roundw
                    case rel => exact ⟨i2 + 1, _, by omega, by go_num, rfl⟩
                    case measure => simp [intOf]; omega
                  · have hpd : decide (0 < x) = false := by simpa using hpos
                    rw [hpd] at h2
                    clear hpd
                    go_wp2
                    go_quiet ((go_at_call 25; exact quiet_add_same (size21_any _ _)))
                    go_wp2
                    go_roundw
                    case rel => exact ⟨i2 + 1, _, by omega, by go_num, rfl⟩
                    case measure => simp [intOf]; omega
                · go_wp2_with fail
                  refine (awake21_any _).mono ?_; rintro e w1 ⟨rfl, hb⟩
                  have hb' := Lib.hid ((B1.out.drewN q).trans (hb.mono B1.out.size))
                  clear hb
                  go_wp2
                  go_ret
                  exact ⟨rfl, hb'.out⟩

theorem watchSound_row (a0 : Option Addr) (n0 c0 : Nat) (xs0 : List (List Int)) (a1 : Option Addr) (n1 c1 : Nat) (xs1 : List Int) (a2 : Option Addr) (n2 c2 : Nat) (xs2 : List Bool) (W : World)
    (w0 : RdR W a0 n0 xs0) (b0 : n0 ≤ c0 ∧ c0 ≤ 9223372036854775807) (w1 : RdI W a1 n1 xs1) (b1 : n1 ≤ c1 ∧ c1 ≤ 9223372036854775807) (w2 : RdB W a2 n2 xs2) (b2 : n2 ≤ c2 ∧ c2 ≤ 9223372036854775807) :
    Calls Try.prog 6 #[.slice a0 n0 c0, .slice a1 n1 c1, .slice a2 n2 c2] W fun e w' => e = .returned (.bool true) ∧ Below W.heap.size W w' :=
  watchSound_walk a0 a1 a2 n0 n1 n2 c0 c1 c2 xs0 xs1 xs2 W w0 w1 w2 (by omega) (by omega) (by omega)
end Go.Proofs.Ytdmnpjlgldlodaa
