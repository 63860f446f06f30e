/-
  Parts of this claim's texts, one behind the other: ZA ZB ZC. No condition.
-/
import Derived.Test.YtikmkalfdiiahaaGreatDoorK9
import Derived.LoopN
import Derived.Shelf.Spec.BitsCarry
set_option linter.unusedVariables false
set_option linter.unusedSimpArgs false
/-
  theodoliteref1: trim, cmp, BitsNat, sub, shift, divmod, gcd, of the numbers 0, 1, 2 over 1. Conditions: limbs that can be read.
-/
namespace Go.Proofs.YtikmkalfdiiahaaGreatDoor
open Go.RowKit Go.Sort Go.Lib

/-- limbs of a call's own, told behind it -/
def LPost (xs : List Int) (w : World) (e : Ending) (w' : World) : Prop := ∃ a c, e = .returned (.slice a xs.length c) ∧ SlR Rep.u64 (DatF w.heap.size w') w' a xs.length xs ∧ xs.length ≤ c ∧ c ≤ maxLen ∧ Below w.heap.size w w'
theorem SlR.take64 {S : Nat → Prop} {w : World} {a : Option Addr} {n : Nat} {xs : List Int} (h : SlR Rep.u64 S w a n xs) {k : Nat} (hk : k ≤ n) : SlR Rep.u64 S w a k (xs.take k) := by
  refine ⟨by rw [List.length_take, h.1]; omega, fun h0 => ?_⟩
  obtain ⟨b, o, ha, hl, hS, hc⟩ := h.2 (by omega)
  refine ⟨b, o, ha, hl, hS, fun j x hx => hc j x ?_⟩
  have hj := (List.getElem?_eq_some_iff.1 hx).1
  rw [List.length_take] at hj
  rw [List.getElem?_take_of_lt (by omega)] at hx
  exact hx
theorem size_u64 (w : World) : (sizeOf 127).run Tryz.prog w = .ok 1 w := by kernel_rfl
set_option maxRecDepth 100000 in
set_option maxHeartbeats 4000000 in
theorem trim_any {S : Nat → Prop} (a : Option Addr) (n c : Nat) (xs : List Int) (k : Nat) (w : World) (hx : SlR Rep.u64 S w a n xs) (hn : n < 17592186044416) (hnc : n ≤ c) (hk : k ≤ n) (hz : ∀ j, k ≤ j → j < n → nth xs j = 0) (h0 : k = 0 ∨ nth xs (k - 1) ≠ 0) :
    Calls Tryz.prog 123 #[.slice a n c] w fun e w' => LPost (xs.take k) w e w' := by
  have hx' := Lib.hid hx
  have lx := Lib.hid hx.1
  have hz' := Lib.hid hz
  have h0' := Lib.hid h0
  have hlk := Lib.hid (show (xs.take k).length = k by rw [List.length_take, hx.1]; omega)
  have hsl := fun W => run_take2 (P := Tryz.prog) (a := a) (n := n) (c := c) (k := k) Tryz.underlying30 size_u64 hk hnc W
  obtain ⟨i0, hi, hz0, hz1, hz2⟩ := info_parts info_u64
  clear hx hz h0
  go_enter Tryz.func123, Tryz.ntmps123
  go_wp2
  go_loopw [3] (fun i wr => ∃ j : Nat, k ≤ j ∧ j ≤ n ∧ i = .int .i64 j ∧ wr = w) (fun i _ => (intOf i).toNat)
  case atStart => exact ⟨n, hk, Nat.le_refl _, rfl, rfl⟩
  case round =>
    obtain ⟨j, hkj, hjn, rfl, rfl⟩ := hrel
    by_cases hj : j = k
    · subst hj
      have hstop : (0 < j → ∃ b o, a = some ⟨b, o, none⟩ ∧ ∃ y : Int, y ≠ 0 ∧ wr.cell? ⟨b, o + (j - 1), none⟩ = some (.int .u64 y)) := fun hp => by
        obtain ⟨b, o, ha, hc, _⟩ := hx'.out.at64 (k := j - 1) (by rw [lx.out]; omega)
        rcases h0'.out with e | e
        · omega
        · exact ⟨b, o, ha, _, e, hc⟩
      have fin : ∀ (ww : World), ww = wr → True := fun _ _ => trivial
      rcases Nat.eq_zero_or_pos j with hj0 | hj0
      · subst hj0
        clear hstop
        cases a with
        | none =>
          go_wp2
          go_ret
          exact ⟨_, 0, rfl, SlR.nil _ _ _ _, Nat.le_refl _, Nat.zero_le _, (Below.refl _ _).alloc (Nat.le_refl _) _⟩
        | some a =>
          go_wp2
          go_ret
          exact ⟨_, 0, rfl, SlR.nil _ _ _ _, Nat.le_refl _, Nat.zero_le _, (Below.refl _ _).alloc (Nat.le_refl _) _⟩
      · obtain ⟨b, o, rfl, y, hy, hc⟩ := hstop hj0
        have hjm : ((j : Int) - 1) = ((j - 1 : Nat) : Int) := by omega
        have hjl : ((j - 1 : Nat) : Int) < n := by omega
        have hjl2 : j - 1 < n := by omega
        have hyd : (y == 0) = false := by simpa using hy
        have hjp : (0 : Int) < j := by omega
        have hsrc := Lib.hid (((hx'.out.take64 hk).src64).2 (by omega))
        go_wp2_with (at_builtin; refine wpList_append_own _ rfl _ _ 30 rfl wr.heap.size 127 i0 (.int .u64 0) 1 8 Tryz.underlying30 hi hz0 hz1 hz2 rfl (by decide) _ _ _ rfl (World.ownsRow_made wr #[] 0 (Nat.le_refl _) (Nat.zero_le _) rfl) ⟨b, o, none⟩ j c ((xs.take j).map (Value.int .u64)) rfl ?m1 ?m2 ?m3 ?m4 ?m5 ?m6 ?_)
        case m1 => rw [List.length_map, hlk.out, Nat.mul_one]
        case m2 =>
          intro z u hu
          obtain ⟨ad, had, hcs⟩ := hsrc.out
          cases had
          exact keep_cell ((Below.refl wr.heap.size wr).alloc (Nat.le_refl _) _) (hcs z u hu)
        case m3 => intro u hu; obtain ⟨x, _, rfl⟩ := List.mem_map.1 hu; rfl
        case m4 => unfold maxLen; omega
        case m5 => omega
        case m6 => simp
        intro v' w1 ho hg hl
        have ho' := Lib.hid (OwnC.toU (w := w1) (base := wr.heap.size) (v := v') (xs := xs.take j) (by rw [hlk.out]; simpa using OwnC.of ho) (hx'.out.take64 hk).us)
        obtain ⟨a', c', rfl, hcc⟩ := (OwnC.of ho).slice
        have hb := Lib.hid (((Below.refl wr.heap.size wr).alloc (Nat.le_refl _) (.cells #[] 127)).grown hg (by simp) (by intro q hq; simp [Value.ownBlock] at hq; omega))
        clear ho hg hl
        go_wp2
        go_ret
        exact ⟨a', c', by rw [hlk.out]; simp, by rw [hlk.out]; have h9 := ho'.out.datF (n := wr.heap.size) (Nat.le_refl _); simpa using h9, by rw [hlk.out]; simpa using hcc.1, hcc.2, hb.out⟩
    · obtain ⟨b, o, rfl, hc, _⟩ := hx'.out.at64 (k := j - 1) (by rw [lx.out]; omega)
      have hyz := hz'.out (j - 1) (by omega) (by omega)
      rw [hyz] at hc
      obtain ⟨i, rfl⟩ : ∃ i, j = i + 1 := ⟨j - 1, by omega⟩
      rw [Nat.add_sub_cancel] at hc
      have hil : (i : Int) < n := by omega
      have hil2 : i < n := by omega
      clear hyz
      go_wp2
      go_roundw
      case rel => exact ⟨i, by omega, by omega, by go_num, trivial⟩
      case measure => first | (simp [intOf]; done) | (simp [intOf]; omega)
theorem LPost.nilOf {xs : List Int} {w w' : World} {e : Ending} (h : LPost xs w e w') {B0 : World} (hb : Below B0.heap.size B0 w) : LPost xs B0 e w' := by
  obtain ⟨a, c, h1, h2, h3, h4, h5⟩ := h
  exact ⟨a, c, h1, h2.mono fun _ _ hk => ⟨hk.1, Nat.le_trans hb.size hk.2⟩, h3, h4, hb.trans (h5.mono hb.size)⟩
/-! ### cmp -/
section
variable {S S' : Nat → Prop}
set_option maxHeartbeats 1000000 in
theorem cmp_less (a b : Option Addr) (c d : Nat) (w : World) : Calls Tryz.prog 167 #[.slice a 0 c, .slice b 1 d] w fun e w' => e = .returned (.int .i64 (-1)) ∧ w = w' := by
  go_enter Tryz.func167, Tryz.ntmps167
  go_wp2
  go_ret
  exact ⟨rfl, rfl⟩
set_option maxHeartbeats 1000000 in
theorem cmp_same (a b : Option Addr) (c d : Nat) (x : Int) (w : World) (hx : SlR Rep.u64 S w a 1 [x]) (hy : SlR Rep.u64 S' w b 1 [x]) : Calls Tryz.prog 167 #[.slice a 1 c, .slice b 1 d] w fun e w' => e = .returned (.int .i64 0) ∧ Below w.heap.size w w' := by
  obtain ⟨b1, o1, rfl, k1, _⟩ := hx.at64 (k := 0) (by simp)
  obtain ⟨b2, o2, rfl, k2, _⟩ := hy.at64 (k := 0) (by simp)
  rw [Nat.add_zero] at k1 k2
  have e0 : nth [x] 0 = x := rfl
  rw [e0] at k1 k2
  clear hx hy e0
  go_enter Tryz.func167, Tryz.ntmps167
  go_wp2
  refine wp_loop_rounds 2 ?_
  rw [rounds_succ]
  go_wp2
  go_quiet (fail)
  go_wp2
  go_quiet (fail)
  go_wp2
  rw [rounds_succ]
  go_wp2
  go_ret
  exact ⟨rfl, (Below.refl _ _).drewN _⟩
set_option maxHeartbeats 1000000 in
theorem cmp_more (a b : Option Addr) (c d : Nat) (w : World) (hx : SlR Rep.u64 S w a 1 [2]) (hy : SlR Rep.u64 S' w b 1 [1]) : Calls Tryz.prog 167 #[.slice a 1 c, .slice b 1 d] w fun e w' => e = .returned (.int .i64 1) ∧ Below w.heap.size w w' := by
  obtain ⟨b1, o1, rfl, k1, _⟩ := hx.at64 (k := 0) (by simp)
  obtain ⟨b2, o2, rfl, k2, _⟩ := hy.at64 (k := 0) (by simp)
  rw [Nat.add_zero] at k1 k2
  have e1 : nth [2] 0 = 2 := rfl
  have e0 : nth [1] 0 = 1 := rfl
  rw [e1] at k1
  rw [e0] at k2
  clear hx hy e0 e1
  go_enter Tryz.func167, Tryz.ntmps167
  go_wp2
  refine wp_loop_rounds 2 ?_
  rw [rounds_succ]
  go_wp2
  go_quiet (fail)
  go_wp2
  go_quiet (fail)
  go_wp2
  go_ret
  exact ⟨rfl, ((Below.refl _ _).drewN _).drewN _⟩
set_option maxHeartbeats 1000000 in
theorem bitsNat_any (a : Option Addr) (c : Nat) (x : Int) (w : World) (hx : SlR Rep.u64 S w a 1 [x]) (h0 : 0 ≤ x) (h1 : x ≤ 18446744073709551615) : Calls Tryz.prog 168 #[.slice a 1 c] w fun e w' => e = .returned (.int .i64 (Lib.bitLen x.toNat)) ∧ w = w' := by
  obtain ⟨b1, o1, rfl, k1, _⟩ := hx.at64 (k := 0) (by simp)
  rw [Nat.add_zero] at k1
  have e0 : nth [x] 0 = x := rfl
  rw [e0] at k1
  have hl := Lib.hid (Tryz.bits_Len64 x w h0 h1)
  have hbl := Lib.hid (show Lib.bitLen x.toNat ≤ 64 from Lib.bitLen_le x.toNat 64 (Nat.le_refl _) (by omega))
  clear hx e0
  generalize Lib.bitLen x.toNat = n at *
  have hn := hbl.out
  go_enter Tryz.func168, Tryz.ntmps168
  go_wp2_with fail
  refine hl.out.mono ?_; rintro e w' ⟨rfl, rfl⟩
  go_wp2
  go_ret
  exact ⟨ret_int (by omega), rfl⟩
end
end Go.Proofs.YtikmkalfdiiahaaGreatDoor

/-
  theodoliteref1: sub, shift, of the numbers 0, 1, 2. Conditions: limbs that can be read.
-/
namespace Go.Proofs.YtikmkalfdiiahaaGreatDoor
open Go.RowKit Go.Sort Go.Lib

theorem sub64_run (x : Nat) (w : World) : (callFunc 159 #[.int .u64 x, .int .u64 x, .int .u64 0]).run Tryz.prog w = .ok (.value (.tuple #[.int .u64 0, .int .u64 0])) w := by
  have h := run_sub64 (P := Tryz.prog) x x 0 (by omega) w
  rw [show (((0 : Nat) : Int)) = 0 from rfl] at h
  rw [run_callFunc_extern Tryz.func159 (by kernel_rfl) (by kernel_rfl) (by kernel_rfl) (e := sub64Entry) (by kernel_rfl), h]
  simp only [Result.andThen]
  have e1 : (x + 18446744073709551616 - x - 0) % 18446744073709551616 = 0 := by omega
  have e2 : (if x < x + 0 then 1 else 0) = 0 := by simp
  rw [e1, e2]
  rfl
theorem own64 {w : World} {base : Nat} {v : Value} {xs : List Int} {n : Nat} {us : List Value} (h : w.ownsRow base 127 1 v n us) (ok : okUs xs) (hn : n = xs.length := by rfl) (hu : us = xs.map (Value.int .u64) := by rfl) : OwnR Rep.u64 (fun _ => False) w base 127 v xs := by
  subst hn hu
  exact OwnC.toU (OwnC.of h) ok
section
variable {S S' : Nat → Prop}
set_option maxRecDepth 100000 in
set_option maxHeartbeats 4000000 in
theorem sub_same (a b : Option Addr) (c d x : Nat) (w : World) (hx : SlR Rep.u64 S w a 1 [(x : Int)]) (hy : SlR Rep.u64 S' w b 1 [(x : Int)]) : Calls Tryz.prog 170 #[.slice a 1 c, .slice b 1 d] w fun e w' => LPost [] w e w' := by
  obtain ⟨b1, o1, rfl, k1, _⟩ := hx.at64 (k := 0) (by simp)
  obtain ⟨b2, o2, rfl, k2, _⟩ := hy.at64 (k := 0) (by simp)
  rw [Nat.add_zero] at k1 k2
  have e0 : nth [(x : Int)] 0 = x := rfl
  rw [e0] at k1 k2
  have hsb := fun W => sub64_run x W
  obtain ⟨i0, hi, hz0, hz1, hz2⟩ := info_parts info_u64
  clear hx hy e0
  go_enter Tryz.func170, Tryz.ntmps170
  go_wp2
  refine wp_loop_rounds 2 ?_
  rw [rounds_succ]
  go_wp2_with (at_builtin; refine wpList_append_own _ rfl _ _ 30 rfl w.heap.size 127 i0 (.int .u64 0) 1 8 Tryz.underlying30 hi hz0 hz1 hz2 rfl (by decide) _ _ _ rfl (World.ownsRow_nil _ _ _ _) ⟨w.heap.size, 0, none⟩ 1 1 [.int .u64 0] rfl rfl ?m1 ?m2 ?m3 ?m4 ?m5 ?_)
  case m1 => intro z u hu; match z, hu with | 0, hu => simp at hu; subst hu; (simp [Addr.add]) <;> decide
  case m2 => intro u hu; simp at hu; subst hu; rfl
  case m3 => unfold maxLen; omega
  case m4 => omega
  case m5 => first | omega | (simp; omega) | simp
  intro v' w1 ho hg _
  have B1 := Lib.hid (((Below.refl w.heap.size w).alloc (Nat.le_refl _) _).grown hg (by simp) (by intro q hq; simp [Value.ownBlock] at hq))
  have O1 := Lib.hid (own64 (xs := [0]) ho (by intro x hx; simp at hx; subst hx; unfold okU; omega))
  obtain ⟨a', c', rfl, hcc⟩ := (OwnC.of ho).slice
  have htr := Lib.hid (trim_any a' 1 c' [0] 0 w1 (O1.out.datF (n := 0) (Nat.zero_le _)) (by omega) hcc.1 (by omega) (fun j _ hj => by (have h9 : j = 0 := (by omega)); subst h9; rfl) (.inl rfl))
  clear ho hg
  go_wp2
  rw [rounds_succ]
  go_wp2_with fail
  refine htr.out.mono ?_; rintro e w2 ⟨a2, c2, rfl, h2, h3, h4, h5⟩
  have P2 := @Lib.hid (LPost [] w (.returned (.slice a2 0 c2)) w2) ⟨a2, c2, rfl, h2.mono fun _ _ hk => ⟨hk.1, Nat.le_trans B1.out.size hk.2⟩, h3, h4, B1.out.trans (h5.mono B1.out.size)⟩
  clear h2 h3 h4 h5
  go_wp2
  go_ret
  exact P2.out
set_option maxRecDepth 100000 in
set_option maxHeartbeats 4000000 in
theorem shift_0 (a : Option Addr) (c : Nat) (w : World) (hx : SlR Rep.u64 S w a 1 [1]) : Calls Tryz.prog 169 #[.slice a 1 c, .int .i64 0] w fun e w' => LPost [1] w e w' := by
  obtain ⟨b1, o1, rfl, k1, _⟩ := hx.at64 (k := 0) (by simp)
  rw [Nat.add_zero] at k1
  have e0 : nth [1] 0 = 1 := rfl
  rw [e0] at k1
  obtain ⟨i0, hi, hz0, hz1, hz2⟩ := info_parts info_u64
  have kw := Lib.hid k1
  have hb1 : b1 < w.heap.size := World.block_lt_of_cell? w _ k1
  clear hx e0
  go_enter Tryz.func169, Tryz.ntmps169
  go_wp2_with (at_make; refine wpList_make_own _ rfl _ _ 30 rfl w.heap.size 127 i0 (.int .u64 0) 1 Tryz.underlying30 hi hz0 hz1 _ _ _ 0 rfl rfl (by first | rfl | assumption) (by rw [hz2]; omega) (by unfold maxLen; omega) (Nat.le_refl _) ?_; intro w1 hown hg)
  have H1 := Lib.hid hown
  have B1 := Lib.hid (below_some hg (Nat.le_refl _) (by intro k hk; cases hk))
  have hs1 := hg.size
  have k1' : w1.cell? ⟨b1, o1, none⟩ = some (.int .u64 1) := keep_cell B1.out k1
  clear hown hg k1
  refine wp_loop_rounds 2 ?_
  rw [rounds_succ]
  go_wp2_with (at_builtin; refine wpList_append_own _ rfl _ _ 30 rfl w.heap.size 127 i0 (.int .u64 0) 1 8 Tryz.underlying30 hi hz0 hz1 hz2 rfl (by decide) _ _ _ rfl (H1.out.alloc _) ⟨w1.heap.size, 0, none⟩ 1 1 [.int .u64 1] rfl rfl ?m1 ?m2 ?m3 ?m4 ?m5 ?_)
  case m1 => intro z u hu; match z, hu with | 0, hu => simp at hu; subst hu; (simp [Addr.add]) <;> decide
  case m2 => intro u hu; simp at hu; subst hu; rfl
  case m3 => unfold maxLen; omega
  case m4 => omega
  case m5 => first | omega | (simp; omega) | simp
  intro v' w2 ho hg _
  have B2 := Lib.hid ((B1.out.alloc hs1 _).grown hg (by simp; omega) (fun k hk => (H1.out.lt k hk).1))
  have H2 := Lib.hid ho
  have hs2 := B2.out.size
  obtain ⟨a2, c2, rfl, hcc2⟩ := (OwnC.of ho).slice
  have k2 : w2.cell? ⟨b1, o1, none⟩ = some (.int .u64 1) := by rw [World.cell?_of_block (w := w) (a := ⟨b1, o1, none⟩) (B2.out.block b1 hb1)]; exact kw.out
  clear ho hg k1'
  go_wp2
  rw [rounds_succ]
  go_wp2_with (at_builtin; refine wpList_append_own _ rfl _ _ 30 rfl w.heap.size 127 i0 (.int .u64 0) 1 8 Tryz.underlying30 hi hz0 hz1 hz2 rfl (by decide) _ _ _ rfl (H2.out.alloc _) ⟨w2.heap.size, 0, none⟩ 1 1 [.int .u64 0] rfl rfl ?m1 ?m2 ?m3 ?m4 ?m5 ?_)
  case m1 => intro z u hu; match z, hu with | 0, hu => simp at hu; subst hu; (simp [Addr.add]) <;> decide
  case m2 => intro u hu; simp at hu; subst hu; rfl
  case m3 => unfold maxLen; omega
  case m4 => omega
  case m5 => first | omega | (simp; omega) | simp
  intro v' w3 ho hg _
  have B3 := Lib.hid ((B2.out.alloc hs2 _).grown hg (by simp; omega) (fun k hk => (H2.out.lt k hk).1))
  have O3 := Lib.hid (own64 (xs := [1, 0]) ho (by intro x hx; simp at hx; rcases hx with rfl | rfl <;> (unfold okU; omega)))
  obtain ⟨a3, c3, rfl, hcc⟩ := (OwnC.of ho).slice
  have htr := Lib.hid (trim_any a3 2 c3 [1, 0] 1 w3 (O3.out.datF (n := 0) (Nat.zero_le _)) (by omega) hcc.1 (by omega) (fun j h1 hj => by (have h9 : j = 1 := (by omega)); subst h9; rfl) (.inr (by decide)))
  clear ho hg
  go_wp2_with fail
  refine htr.out.mono ?_; rintro e w4 ⟨a4, c4, rfl, h2, h3, h4, h5⟩
  have P4 := @Lib.hid (LPost [1] w (.returned (.slice a4 1 c4)) w4) ⟨a4, c4, rfl, h2.mono fun _ _ hk => ⟨hk.1, Nat.le_trans B3.out.size hk.2⟩, h3, h4, B3.out.trans (h5.mono B3.out.size)⟩
  clear h2 h3 h4 h5
  go_wp2
  go_ret
  exact P4.out
set_option maxRecDepth 100000 in
set_option maxHeartbeats 4000000 in
theorem shift_1 (a : Option Addr) (c : Nat) (w : World) (hx : SlR Rep.u64 S w a 1 [1]) : Calls Tryz.prog 169 #[.slice a 1 c,   .int .i64 1] w fun e w' => LPost [2] w e w' := by
  obtain ⟨b1, o1, rfl, k1, _⟩ := hx.at64 (k := 0) (by simp)
  rw [Nat.add_zero] at k1
  have e0 : nth [1] 0 = 1 := rfl
  rw [e0] at k1
  obtain ⟨i0, hi, hz0, hz1, hz2⟩ := info_parts info_u64
  have kw := Lib.hid k1
  have hb1 : b1 < w.heap.size := World.block_lt_of_cell? w _ k1
  clear hx e0
  go_enter Tryz.func169, Tryz.ntmps169
  go_wp2_with (at_make; refine wpList_make_own _ rfl _ _ 30 rfl w.heap.size 127 i0 (.int .u64 0) 1 Tryz.underlying30 hi hz0 hz1 _ _ _ 0 rfl rfl (by first | rfl | assumption) (by rw [hz2]; omega) (by unfold maxLen; omega) (Nat.le_refl _) ?_; intro w1 hown hg)
  have H1 := Lib.hid hown
  have B1 := Lib.hid (below_some hg (Nat.le_refl _) (by intro k hk; cases hk))
  have hs1 := hg.size
  have k1' : w1.cell? ⟨b1, o1, none⟩ = some (.int .u64 1) := keep_cell B1.out k1
  clear hown hg k1
  refine wp_loop_rounds 2 ?_
  rw [rounds_succ]
  go_wp2_with (at_builtin; refine wpList_append_own _ rfl _ _ 30 rfl w.heap.size 127 i0 (.int .u64 0) 1 8 Tryz.underlying30 hi hz0 hz1 hz2 rfl (by decide) _ _ _ rfl (H1.out.alloc _) ⟨w1.heap.size, 0, none⟩ 1 1 [.int .u64 2] rfl rfl ?m1 ?m2 ?m3 ?m4 ?m5 ?_)
  case m1 => intro z u hu; match z, hu with | 0, hu => simp at hu; subst hu; (simp [Addr.add]) <;> decide
  case m2 => intro u hu; simp at hu; subst hu; rfl
  case m3 => unfold maxLen; omega
  case m4 => omega
  case m5 => first | omega | (simp; omega) | simp
  intro v' w2 ho hg _
  have B2 := Lib.hid ((B1.out.alloc hs1 _).grown hg (by simp; omega) (fun k hk => (H1.out.lt k hk).1))
  have H2 := Lib.hid ho
  have hs2 := B2.out.size
  obtain ⟨a2, c2, rfl, hcc2⟩ := (OwnC.of ho).slice
  have k2 : w2.cell? ⟨b1, o1, none⟩ = some (.int .u64 1) := by rw [World.cell?_of_block (w := w) (a := ⟨b1, o1, none⟩) (B2.out.block b1 hb1)]; exact kw.out
  clear ho hg k1'
  go_wp2
  rw [rounds_succ]
  go_wp2_with (at_builtin; refine wpList_append_own _ rfl _ _ 30 rfl w.heap.size 127 i0 (.int .u64 0) 1 8 Tryz.underlying30 hi hz0 hz1 hz2 rfl (by decide) _ _ _ rfl (H2.out.alloc _) ⟨w2.heap.size, 0, none⟩ 1 1 [.int .u64 0] rfl rfl ?m1 ?m2 ?m3 ?m4 ?m5 ?_)
  case m1 => intro z u hu; match z, hu with | 0, hu => simp at hu; subst hu; (simp [Addr.add]) <;> decide
  case m2 => intro u hu; simp at hu; subst hu; rfl
  case m3 => unfold maxLen; omega
  case m4 => omega
  case m5 => first | omega | (simp; omega) | simp
  intro v' w3 ho hg _
  have B3 := Lib.hid ((B2.out.alloc hs2 _).grown hg (by simp; omega) (fun k hk => (H2.out.lt k hk).1))
  have O3 := Lib.hid (own64 (xs := [2, 0]) ho (by intro x hx; simp at hx; rcases hx with rfl | rfl <;> (unfold okU; omega)))
  obtain ⟨a3, c3, rfl, hcc⟩ := (OwnC.of ho).slice
  have htr := Lib.hid (trim_any a3 2 c3 [2, 0] 1 w3 (O3.out.datF (n := 0) (Nat.zero_le _)) (by omega) hcc.1 (by omega) (fun j h1 hj => by (have h9 : j = 1 := (by omega)); subst h9; rfl) (.inr (by decide)))
  clear ho hg
  go_wp2_with fail
  refine htr.out.mono ?_; rintro e w4 ⟨a4, c4, rfl, h2, h3, h4, h5⟩
  have P4 := @Lib.hid (LPost [2] w (.returned (.slice a4 1 c4)) w4) ⟨a4, c4, rfl, h2.mono fun _ _ hk => ⟨hk.1, Nat.le_trans B3.out.size hk.2⟩, h3, h4, B3.out.trans (h5.mono B3.out.size)⟩
  clear h2 h3 h4 h5
  go_wp2
  go_ret
  exact P4.out
end
end Go.Proofs.YtikmkalfdiiahaaGreatDoor

/-
  theodoliteref1: divmod, gcd, made, of the numbers 0, 1, 2 over 1. Conditions: limbs that can be read.
-/
namespace Go.Proofs.YtikmkalfdiiahaaGreatDoor
open Go.RowKit Go.Sort Go.Lib

/-- two rows of limbs, told behind a call -/
def QPost (qs rs : List Int) (w : World) (e : Ending) (w' : World) : Prop := ∃ a c b d, e = .returned (.tuple #[.slice a qs.length c, .slice b rs.length d]) ∧ SlR Rep.u64 (fun _ => True) w' a qs.length qs ∧ SlR Rep.u64 (fun _ => True) w' b rs.length rs ∧ (qs.length ≤ c ∧ c ≤ maxLen) ∧ (rs.length ≤ d ∧ d ≤ maxLen) ∧ Below w.heap.size w w'
theorem blk64 {w : World} {g : Nat} {m : Int} {f : Nat × Nat} (h : w.heap[g]? = some (.cells #[.int .u64 m] 127 f)) (hm : okU m) : SlR Rep.u64 (fun _ => True) w (some ⟨g, 0, none⟩) 1 [m] := by
  refine ⟨rfl, fun _ => ⟨g, 0, rfl, (Array.getElem?_eq_some_iff.1 h).1, trivial, fun j x hx => ?_⟩⟩
  match j, hx with
  | 0, hx =>
    simp at hx
    subst hx
    refine ⟨[.int .u64 m], ⟨rfl, hm⟩, fun i u hu => ?_⟩
    match i, hu with
    | 0, hu => simp at hu; subst hu; exact cell_p h 0
theorem bits01 : bits .or .u64 0 1 = 1 ∧ bits .or .u64 0 2 = 2 := by decide
section
variable {S S' : Nat → Prop}
theorem SlR.top {S : Nat → Prop} {w : World} {a : Option Addr} {n : Nat} {xs : List Int} (h : SlR Rep.u64 S w a n xs) : SlR Rep.u64 (fun _ => True) w a n xs := h.mono fun _ _ _ => trivial
set_option maxHeartbeats 1000000 in
theorem divmod_0 (a b : Option Addr) (c d : Nat) (w : World) (hc : c ≤ maxLen) : Calls Tryz.prog 153 #[.slice a 0 c, .slice b 1 d] w fun e w' => QPost [] [] w e w' := by
  have h1 := Lib.hid (cmp_less a b c d w)
  go_enter Tryz.func153, Tryz.ntmps153
  go_wp2_with fail
  refine h1.out.mono ?_; rintro e w' ⟨rfl, rfl⟩
  go_wp2
  go_ret2
  exact ⟨none, 0, a, c, rfl, SlR.nil _ _ _ _, SlR.nil _ _ _ _, ⟨Nat.le_refl _, Nat.zero_le _⟩, ⟨Nat.zero_le _, hc⟩, Below.refl _ _⟩
theorem bitLen_1 : Lib.bitLen 1 = 1 ∧ Lib.bitLen 2 = 2 := by decide +kernel
set_option maxRecDepth 100000 in
set_option maxHeartbeats 8000000 in
theorem divmod_1 (a b : Option Addr) (c d : Nat) (w : World) (hx : SlR Rep.u64 S w a 1 [1]) (hy : SlR Rep.u64 S' w b 1 [1]) : Calls Tryz.prog 153 #[.slice a 1 c, .slice b 1 d] w fun e w' => QPost [1] [] w e w' := by
  have hX := Lib.hid hx
  have hY := Lib.hid hy
  have h1 := Lib.hid (cmp_same a b c d 1 w hx hy)
  obtain ⟨i0, hi, hz0, hz1, hz2⟩ := info_parts info_u64
  have hmk : ∀ W, (Instr.makeSlice 30 (.int .i64 1) (.int .i64 1)).run Tryz.prog W = .ok (.slice (some ⟨W.heap.size, 0, none⟩) 1 1) (W.alloc (.cells #[.int .u64 0] 127)) := fun W => by
    have := run_makeSlice (P := Tryz.prog) (w := W) 30 127 i0 (.int .u64 0) Tryz.underlying30 hi hz0 .i64 .i64 1 1 (by decide) (by decide) (by rw [hz1]; decide) (by rw [hz2]; decide) (by decide)
    rw [hz1] at this
    have e : madeCells (Value.int IntKind.u64 0).cells (Int.toNat 1 * 1) = #[.int .u64 0] := by simp [madeCells]; exact ⟨0, rfl, rfl⟩
    rw [e] at this
    exact this
  clear hx hy
  go_enter Tryz.func153, Tryz.ntmps153
  go_wp2_with fail
  refine h1.out.mono ?_; rintro e w1 ⟨rfl, hb1⟩
  have B1 : Below w.heap.size w w1 := by first | exact hb1 | (rw [← hb1]; exact Below.refl _ _)
  have B1' := Lib.hid B1
  clear hb1
  have hg0 := heap_alloc_new w1 (.cells #[.int .u64 0] 127)
  have B2 := Lib.hid (B1.alloc B1.size (.cells #[.int .u64 0] 127))
  generalize hW2 : w1.alloc (.cells #[.int .u64 0] 127) = w2 at *
  have Q2 := Lib.hid hg0
  have hq2 : w1.heap.size < w2.heap.size := (Array.getElem?_eq_some_iff.1 hg0).1
  have hbn1 := Lib.hid (bitsNat_any a c 1 w2 (hX.out.below B2.out (Nat.le_refl _)) (by decide) (by decide))
  have hbn2 := Lib.hid (bitsNat_any b d 1 w2 (hY.out.below B2.out (Nat.le_refl _)) (by decide) (by decide))
  rw [show Lib.bitLen (Int.toNat 1) = 1 from bitLen_1.1] at hbn1
  rw [show Lib.bitLen (Int.toNat 1) = 1 from bitLen_1.1] at hbn2
  have hw1w := B1.size
  clear hg0 B1
  go_wp2_with fail
  refine hbn1.out.mono ?_; rintro e w' ⟨rfl, rfl⟩
  go_wp2_with fail
  refine hbn2.out.mono ?_; rintro e w' ⟨rfl, rfl⟩
  clear hW2 hmk
  go_wp2
  refine wp_loop_rounds 2 ?_
  rw [rounds_succ]
  have hsh := Lib.hid (shift_0 b d w2 (hY.out.below B2.out (Nat.le_refl _)))
  go_wp2_with fail
  refine hsh.out.mono ?_; rintro e w3 ⟨a3, c3, rfl, s3, l3, l3', hb3⟩
  have S3 := Lib.hid s3
  have hcm := Lib.hid (cmp_same a a3 c c3 1 w3 (hX.out.below (B2.out.trans (hb3.mono B2.out.size)) (Nat.le_refl _)) s3)
  have B3 := Lib.hid hb3
  clear s3 l3 l3' hb3
  go_wp2_with fail
  refine hcm.out.mono ?_; rintro e w4 ⟨rfl, hb4⟩
  have B4 := Lib.hid (B3.out.trans (hb4.mono B3.out.size))
  have hsb := Lib.hid (sub_same a a3 c c3 1 w4 (hX.out.below (B2.out.trans (B4.out.mono B2.out.size)) (Nat.le_refl _)) (S3.out.below hb4 (Nat.le_refl _)))
  clear hb4
  go_wp2_with fail
  refine hsb.out.mono ?_; rintro e w5 ⟨a5, c5, rfl, s5, l5, l5', hb5⟩
  have S5 := Lib.hid s5.top
  have L5 := Lib.hid (And.intro l5 l5')
  have B5 := Lib.hid (B4.out.trans (hb5.mono B4.out.size))
  have Q5 := (B5.out.block w1.heap.size hq2).trans Q2.out
  have q5 : w5.cell? ⟨w1.heap.size, 0, none⟩ = some (.int .u64 0) := cell_p Q5 0
  have f5 : w5.frozen? ⟨w1.heap.size, 0, none⟩ = false := frz_p Q5 0
  have Q5' := Lib.hid Q5
  clear s5 l5 l5' hb5 Q5
  go_wp2
  have BV := Lib.hid ((B2.out.trans (B5.out.mono B2.out.size)).setCell (p := ⟨w1.heap.size, 0, none⟩) hw1w (.int .u64 (bits .or .u64 0 1)))
  have QV := @Lib.hid ((w5.setCell ⟨w1.heap.size, 0, none⟩ (.int .u64 (bits .or .u64 0 1))).heap[w1.heap.size]? = some (.cells #[.int .u64 1] 127 (0, 0))) (by
    unfold World.setCell
    rw [Array.getElem?_modify, if_pos rfl, Q5'.out, bits01.1]
    rfl)
  clear q5 f5 Q5'
  generalize w5.setCell ⟨w1.heap.size, 0, none⟩ (.int .u64 (bits .or .u64 0 1)) = V at *
  rw [rounds_succ]
  have htr := Lib.hid (trim_any (some ⟨w1.heap.size, 0, none⟩) 1 1 [1] 1 V (blk64 QV.out (by unfold okU; omega)) (by omega) (Nat.le_refl _) (by omega) (fun j h1 h2 => by omega) (.inr (by decide)))
  go_wp2_with fail
  refine htr.out.mono ?_; rintro e w9 ⟨a9, c9, rfl, s9, l9, l9', hb9⟩
  have S9 := Lib.hid s9.top
  have L9 := Lib.hid (And.intro l9 l9')
  have B9 := Lib.hid (BV.out.trans (hb9.mono BV.out.size))
  clear s9 l9 l9' hb9
  go_wp2
  go_ret2
  exact ⟨a9, c9, a5, c5, rfl, S9.out, SlR.nil _ _ _ _, L9.out, L5.out, B9.out⟩
set_option maxRecDepth 100000 in
set_option maxHeartbeats 8000000 in
theorem divmod_2 (a b : Option Addr) (c d : Nat) (w : World) (hx : SlR Rep.u64 S w a 1 [2]) (hy : SlR Rep.u64 S' w b 1 [1]) : Calls Tryz.prog 153 #[.slice a 1 c, .slice b 1 d] w fun e w' => QPost [2] [] w e w' := by
  have hX := Lib.hid hx
  have hY := Lib.hid hy
  have h1 := Lib.hid (cmp_more a b c d w hx hy)
  obtain ⟨i0, hi, hz0, hz1, hz2⟩ := info_parts info_u64
  have hmk : ∀ W, (Instr.makeSlice 30 (.int .i64 1) (.int .i64 1)).run Tryz.prog W = .ok (.slice (some ⟨W.heap.size, 0, none⟩) 1 1) (W.alloc (.cells #[.int .u64 0] 127)) := fun W => by
    have := run_makeSlice (P := Tryz.prog) (w := W) 30 127 i0 (.int .u64 0) Tryz.underlying30 hi hz0 .i64 .i64 1 1 (by decide) (by decide) (by rw [hz1]; decide) (by rw [hz2]; decide) (by decide)
    rw [hz1] at this
    have e : madeCells (Value.int IntKind.u64 0).cells (Int.toNat 1 * 1) = #[.int .u64 0] := by simp [madeCells]; exact ⟨0, rfl, rfl⟩
    rw [e] at this
    exact this
  clear hx hy
  go_enter Tryz.func153, Tryz.ntmps153
  go_wp2_with fail
  refine h1.out.mono ?_; rintro e w1 ⟨rfl, hb1⟩
  have B1 : Below w.heap.size w w1 := by first | exact hb1 | (rw [← hb1]; exact Below.refl _ _)
  have B1' := Lib.hid B1
  clear hb1
  have hg0 := heap_alloc_new w1 (.cells #[.int .u64 0] 127)
  have B2 := Lib.hid (B1.alloc B1.size (.cells #[.int .u64 0] 127))
  generalize hW2 : w1.alloc (.cells #[.int .u64 0] 127) = w2 at *
  have Q2 := Lib.hid hg0
  have hq2 : w1.heap.size < w2.heap.size := (Array.getElem?_eq_some_iff.1 hg0).1
  have hbn1 := Lib.hid (bitsNat_any a c 2 w2 (hX.out.below B2.out (Nat.le_refl _)) (by decide) (by decide))
  have hbn2 := Lib.hid (bitsNat_any b d 1 w2 (hY.out.below B2.out (Nat.le_refl _)) (by decide) (by decide))
  rw [show Lib.bitLen (Int.toNat 2) = 2 from bitLen_1.2] at hbn1
  rw [show Lib.bitLen (Int.toNat 1) = 1 from bitLen_1.1] at hbn2
  have hw1w := B1.size
  clear hg0 B1
  go_wp2_with fail
  refine hbn1.out.mono ?_; rintro e w' ⟨rfl, rfl⟩
  go_wp2_with fail
  refine hbn2.out.mono ?_; rintro e w' ⟨rfl, rfl⟩
  clear hW2 hmk
  go_wp2
  refine wp_loop_rounds 3 ?_
  rw [rounds_succ]
  have hsh := Lib.hid (shift_1 b d w2 (hY.out.below B2.out (Nat.le_refl _)))
  go_wp2_with fail
  refine hsh.out.mono ?_; rintro e w3 ⟨a3, c3, rfl, s3, l3, l3', hb3⟩
  have S3 := Lib.hid s3
  have hcm := Lib.hid (cmp_same a a3 c c3 2 w3 (hX.out.below (B2.out.trans (hb3.mono B2.out.size)) (Nat.le_refl _)) s3)
  have B3 := Lib.hid hb3
  clear s3 l3 l3' hb3
  go_wp2_with fail
  refine hcm.out.mono ?_; rintro e w4 ⟨rfl, hb4⟩
  have B4 := Lib.hid (B3.out.trans (hb4.mono B3.out.size))
  have hsb := Lib.hid (sub_same a a3 c c3 2 w4 (hX.out.below (B2.out.trans (B4.out.mono B2.out.size)) (Nat.le_refl _)) (S3.out.below hb4 (Nat.le_refl _)))
  clear hb4
  go_wp2_with fail
  refine hsb.out.mono ?_; rintro e w5 ⟨a5, c5, rfl, s5, l5, l5', hb5⟩
  have S5 := Lib.hid s5.top
  have L5 := Lib.hid (And.intro l5 l5')
  have B5 := Lib.hid (B4.out.trans (hb5.mono B4.out.size))
  have Q5 := (B5.out.block w1.heap.size hq2).trans Q2.out
  have q5 : w5.cell? ⟨w1.heap.size, 0, none⟩ = some (.int .u64 0) := cell_p Q5 0
  have f5 : w5.frozen? ⟨w1.heap.size, 0, none⟩ = false := frz_p Q5 0
  have Q5' := Lib.hid Q5
  clear s5 l5 l5' hb5 Q5
  go_wp2
  have BV := Lib.hid ((B2.out.trans (B5.out.mono B2.out.size)).setCell (p := ⟨w1.heap.size, 0, none⟩) hw1w (.int .u64 (bits .or .u64 0 2)))
  have QV := @Lib.hid ((w5.setCell ⟨w1.heap.size, 0, none⟩ (.int .u64 (bits .or .u64 0 2))).heap[w1.heap.size]? = some (.cells #[.int .u64 2] 127 (0, 0))) (by
    unfold World.setCell
    rw [Array.getElem?_modify, if_pos rfl, Q5'.out, bits01.2]
    rfl)
  clear q5 f5 Q5'
  generalize w5.setCell ⟨w1.heap.size, 0, none⟩ (.int .u64 (bits .or .u64 0 2)) = V at *
  rw [rounds_succ]
  have hsh2 := Lib.hid (shift_0 b d V (hY.out.below BV.out (Nat.le_refl _)))
  go_wp2_with fail
  refine hsh2.out.mono ?_; rintro e w6 ⟨a6, c6, rfl, _, _, _, hb6⟩
  have BV := Lib.hid (BV.out.trans (hb6.mono BV.out.size))
  have QV := Lib.hid ((hb6.block w1.heap.size (Array.getElem?_eq_some_iff.1 QV.out).1).trans QV.out)
  have hcl := Lib.hid (cmp_less a5 a6 c5 c6 w6)
  clear hb6
  go_wp2_with fail
  refine hcl.out.mono ?_; rintro e V ⟨rfl, hv6⟩
  subst hv6
  go_wp2
  rw [rounds_succ]
  have htr := Lib.hid (trim_any (some ⟨w1.heap.size, 0, none⟩) 1 1 [2] 1 w6 (blk64 QV.out (by unfold okU; omega)) (by omega) (Nat.le_refl _) (by omega) (fun j h1 h2 => by omega) (.inr (by decide)))
  go_wp2_with fail
  refine htr.out.mono ?_; rintro e w9 ⟨a9, c9, rfl, s9, l9, l9', hb9⟩
  have S9 := Lib.hid s9.top
  have L9 := Lib.hid (And.intro l9 l9')
  have B9 := Lib.hid (BV.out.trans (hb9.mono BV.out.size))
  clear s9 l9 l9' hb9
  go_wp2
  go_ret2
  exact ⟨a9, c9, a5, c5, rfl, S9.out, SlR.nil _ _ _ _, L9.out, L5.out, B9.out⟩
end
end Go.Proofs.YtikmkalfdiiahaaGreatDoor
