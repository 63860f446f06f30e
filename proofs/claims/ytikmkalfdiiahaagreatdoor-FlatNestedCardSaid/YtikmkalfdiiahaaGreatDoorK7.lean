/-
  Parts of this claim's texts, one behind the other: YQ. No condition.
-/
import Derived.Test.YtikmkalfdiiahaaGreatDoorK6
set_option linter.unusedVariables false
set_option linter.unusedSimpArgs false
/-
  term: zero; nat.Valid, Order (of equal numbers), rat.Valid (of fractions over 1). Conditions: limbs that can be read, fewer than 2^40.
-/
namespace Go.Proofs.YtikmkalfdiiahaaGreatDoor
open Go.RowKit Go.Sort Go.Lib

/-- a fraction's value, cell for cell -/
abbrev ratV (r : RatD) (a : Option Addr) (c : Nat) (b : Option Addr) (d : Nat) : Value := .agg #[.bool r.neg, .slice a r.num.length c, .slice b r.den.length d]
set_option maxHeartbeats 1000000 in
theorem zero_any (r : RatD) (a b : Option Addr) (c d : Nat) (w : World) : Calls Tryz.prog 34 #[ratV r a c b d] w fun e w' => e = .returned (.bool (zeroR r)) ∧ Below w.heap.size w w' := by
  have hd := @Lib.hid (zeroR r = (!r.neg && (decide (r.num.length = 0) && decide (r.den.length = 0)))) rfl
  obtain ⟨ng, nu, de⟩ := r
  dsimp only at *
  cases ng
  case true =>
    have hv := @Lib.hid (false = zeroR ⟨true, nu, de⟩) (by rw [hd.out]; rfl)
    go_enter Tryz.func34, Tryz.ntmps34
    go_wp2
    go_ret
    exact ⟨ret_bool hv.out, (Below.refl _ _).alloc (Nat.le_refl _) _⟩
  case false =>
    by_cases h1 : nu.length = 0
    · have hv := @Lib.hid (zeroR ⟨false, nu, de⟩ = decide (de.length = 0)) (by rw [hd.out]; simp [h1])
      clear hd
      obtain rfl : nu = [] := List.eq_nil_of_length_eq_zero h1
      clear h1
      go_enter Tryz.func34, Tryz.ntmps34
      go_wp2
      go_ret
      exact ⟨ret_bool (by rw [hv.out, ← len0]), (Below.refl _ _).alloc (Nat.le_refl _) _⟩
    · have hv := @Lib.hid (false = zeroR ⟨false, nu, de⟩) (by rw [hd.out]; simp [h1])
      have h1i : ¬ (nu.length : Int) = 0 := by omega
      have h1d : decide ((nu.length : Int) = 0) = false := by simpa using h1i
      go_enter Tryz.func34, Tryz.ntmps34
      go_wp2
      go_ret
      exact ⟨ret_bool hv.out, (Below.refl _ _).alloc (Nat.le_refl _) _⟩
theorem SlR.at64 {S : Nat → Prop} {w : World} {a : Option Addr} {n : Nat} {xs : List Int} (h : SlR Rep.u64 S w a n xs) {k : Nat} (hk : k < xs.length) : ∃ b o, a = some ⟨b, o, none⟩ ∧ w.cell? ⟨b, o + k, none⟩ = some (.int .u64 (nth xs k)) ∧ okU (nth xs k) := by
  obtain ⟨b, o, cs, ha, _, hr, hc⟩ := h.at (List.getElem?_eq_getElem hk)
  have := hc 0 (.int .u64 xs[k]) (by rw [hr.1]; rfl)
  rw [nth_eq hk]
  exact ⟨b, o, ha, by simpa [Rep.u64] using this, hr.2⟩
set_option maxHeartbeats 1000000 in
theorem natValid_any {S : Nat → Prop} (a : Option Addr) (n c : Nat) (xs : List Int) (w : World) (hx : SlR Rep.u64 S w a n xs) (hn : n < 1099511627776) : Calls Tryz.prog 66 #[.slice a n c] w fun e w' => e = .returned (.bool (okNat xs)) ∧ w = w' := by
  have hd := @Lib.hid (okNat xs = (decide (xs.length ≤ 64) && (decide (xs.length = 0) || !(nth xs (xs.length - 1) == 0)))) rfl
  have lx := hx.1
  by_cases h64 : n ≤ 64
  case neg =>
    have hv := @Lib.hid (false = okNat xs) (by rw [hd.out]; simp [show ¬ xs.length ≤ 64 by omega])
    have hi : ¬ (n : Int) ≤ 64 := by omega
    have hid : decide ((n : Int) ≤ 64) = false := by simpa using hi
    clear hx lx hd
    go_enter Tryz.func66, Tryz.ntmps66
    go_wp2
    go_ret
    exact ⟨ret_bool hv.out, rfl⟩
  have hi : (n : Int) ≤ 64 := by omega
  by_cases h0 : n = 0
  · have hv := @Lib.hid (true = okNat xs) (by rw [hd.out]; simp [show xs.length = 0 by omega])
    subst h0
    clear hx lx hd hi
    go_enter Tryz.func66, Tryz.ntmps66
    go_wp2
    go_ret
    exact ⟨ret_bool hv.out, rfl⟩
  · obtain ⟨k, rfl⟩ : ∃ k, n = k + 1 := ⟨n - 1, by omega⟩
    obtain ⟨b, o, rfl, k0, _⟩ := hx.at64 (k := k) (by omega)
    have hv := @Lib.hid (okNat xs = !(nth xs k == 0)) (by rw [hd.out, lx, decide_eq_true (show k + 1 ≤ 64 by omega), decide_eq_false (show ¬ k + 1 = 0 by omega)]; rfl)
    have h0i : ¬ ((k + 1 : Nat) : Int) = 0 := by omega
    have h0d : decide (((k + 1 : Nat) : Int) = 0) = false := by simpa using h0i
    clear hx lx hd
    generalize nth xs k = y at *
    go_enter Tryz.func66, Tryz.ntmps66
    go_wp2
    go_ret
    exact ⟨ret_bool hv.out.symm, rfl⟩
set_option maxHeartbeats 1000000 in
theorem order_same {S S' : Nat → Prop} (a b : Option Addr) (n c d : Nat) (xs : List Int) (w : World) (hx : SlR Rep.u64 S w a n xs) (hy : SlR Rep.u64 S' w b n xs) (hn : n < 1099511627776) : Calls Tryz.prog 67 #[.slice a n c, .slice b n d] w fun e w' => e = .returned (.int .i64 0) ∧ Below w.heap.size w w' := by
  have lx := Lib.hid hx.1
  have hx' := Lib.hid hx
  have hy' := Lib.hid hy
  clear hx hy
  go_enter Tryz.func67, Tryz.ntmps67
  go_wp2
  go_loopw [5] (fun i wr => ∃ k : Nat, k ≤ n ∧ i = .int .i64 ((k : Int) - 1) ∧ Hid (Below w.heap.size w wr)) (fun i _ => (intOf i + 1).toNat)
  case atStart => exact ⟨n, Nat.le_refl _, by go_num, Below.refl _ _⟩
  case round =>
    obtain ⟨k, hk, rfl, hB⟩ := hrel
    rcases Nat.eq_zero_or_pos k with h0 | h0
    · subst h0
      go_wp2
      go_ret
      exact ⟨rfl, hB.out⟩
    · obtain ⟨j, rfl⟩ : ∃ j, k = j + 1 := ⟨k - 1, by omega⟩
      obtain ⟨b1, o1, rfl, k1, _⟩ := (hx'.out.below hB.out (Nat.le_refl _)).at64 (k := j) (by have := lx.out; omega)
      obtain ⟨b2, o2, rfl, k2, _⟩ := (hy'.out.below hB.out (Nat.le_refl _)).at64 (k := j) (by have := lx.out; omega)
      have hji : (j : Int) < n := by omega
      have hjn : j < n := by omega
      generalize nth xs j = y at *
      have e1 : ((j + 1 : Nat) : Int) - 1 = j := by omega
      rw [e1]
      go_wp2
      go_quiet (fail)
      go_wp2
      go_roundw
      case rel => exact ⟨j, by omega, by first | rfl | go_num, hB.out.drewN _⟩
      case measure => first | (simp [intOf]; done) | (simp [intOf]; omega)
theorem one64 (w : World) : SlR Rep.u64 (fun _ => True) (w.alloc (.cells #[.int .u64 1] 127)) (some ⟨w.heap.size, 0, none⟩) 1 [1] := by
  refine ⟨rfl, fun _ => ⟨w.heap.size, 0, rfl, by simp, trivial, fun j x hx => ?_⟩⟩
  match j, hx with
  | 0, hx =>
    simp at hx
    subst hx
    refine ⟨[.int .u64 1], ⟨rfl, by unfold okU; omega⟩, fun i u hu => ?_⟩
    rw [World.cell?_alloc_new]
    simpa [Rep.u64] using hu
set_option maxHeartbeats 400000 in
theorem of1_any (w : World) : Calls Tryz.prog 97 #[.int .i64 1] w fun e w' => e = .returned (.slice (some ⟨w.heap.size, 0, none⟩) 1 1) ∧ w' = w.alloc (.cells #[.int .u64 1] 127) := by
  go_enter Tryz.func97, Tryz.ntmps97
  go_wp2
  go_ret
  exact ⟨rfl, rfl⟩
set_option maxHeartbeats 400000 in
theorem one_any (w : World) : Calls Tryz.prog 68 #[] w fun e w' => e = .returned (.slice (some ⟨w.heap.size, 0, none⟩) 1 1) ∧ w' = w.alloc (.cells #[.int .u64 1] 127) := by
  have h := Lib.hid (of1_any w)
  go_enter Tryz.func68, Tryz.ntmps68
  go_wp2_with fail
  refine h.out.mono ?_; rintro e w' ⟨rfl, rfl⟩
  go_wp2
  go_ret
  exact ⟨rfl, rfl⟩
set_option maxRecDepth 100000 in
set_option maxHeartbeats 4000000 in
theorem ratValid_any {S : Nat → Prop} (r : RatD) (a b : Option Addr) (c d : Nat) (w : World) (h1 : SlR Rep.u64 S w a r.num.length r.num) (h2 : SlR Rep.u64 S w b r.den.length r.den) (hn : r.num.length < 1099511627776) (hden : r.den = [1]) :
    Calls Tryz.prog 35 #[ratV r a c b d] w fun e w' => e = .returned (.bool (okRat r)) ∧ Below w.heap.size w w' := by
  have hd := @Lib.hid (okRat r = (okNat r.num && !(r.neg && decide (r.num.length = 0)))) rfl
  obtain ⟨ng, nu, de⟩ := r
  dsimp only at *
  subst hden
  have hB0 : Below w.heap.size w (w.alloc (.cells #[.bool ng, .slice a nu.length c, .slice b 1 d] 32)) := (Below.refl _ _).alloc (Nat.le_refl _) _
  have hB0' := Lib.hid hB0
  have hv1 := Lib.hid (natValid_any a nu.length c nu _ (h1.below hB0 (Nat.le_refl _)) hn)
  have hv2 := Lib.hid (natValid_any b 1 d [1] _ (h2.below hB0 (Nat.le_refl _)) (by decide))
  have hok1 : okNat [1] = true := by decide
  rw [hok1] at hv2
  have h2' := Lib.hid h2
  clear h1 h2 hok1 hB0
  cases hnu : okNat nu
  case false =>
    have hv := @Lib.hid (false = okRat ⟨ng, nu, [1]⟩) (by rw [hd.out, hnu]; rfl)
    rw [hnu] at hv1
    clear hnu hd
    go_enter Tryz.func35, Tryz.ntmps35
    go_wp2_with fail
    refine hv1.out.mono ?_; rintro e w' ⟨rfl, rfl⟩
    go_wp2
    go_ret
    exact ⟨ret_bool hv.out, hB0'.out⟩
  rw [hnu] at hv1
  have hd2 := @Lib.hid (okRat ⟨ng, nu, [1]⟩ = !(ng && decide (nu.length = 0))) (by rw [hd.out, hnu]; rfl)
  clear hnu hd
  by_cases hbad : ng = true ∧ nu.length = 0
  · obtain ⟨rfl, hz⟩ := hbad
    obtain rfl : nu = [] := List.eq_nil_of_length_eq_zero hz
    have hv := @Lib.hid (false = okRat ⟨true, [], [1]⟩) (by rw [hd2.out]; rfl)
    clear hz hd2
    go_enter Tryz.func35, Tryz.ntmps35
    go_wp2_with fail
    refine hv1.out.mono ?_; rintro e w' ⟨rfl, rfl⟩
    go_wp2_with fail
    refine hv2.out.mono ?_; rintro e w' ⟨rfl, rfl⟩
    go_wp2
    go_ret
    exact ⟨ret_bool hv.out, hB0'.out⟩
  have hv := @Lib.hid (true = okRat ⟨ng, nu, [1]⟩) (by
    rw [hd2.out]
    cases ng
    · rfl
    · simp only [true_and] at hbad
      simp [hbad])
  cases ng
  case false =>
    clear hbad
    have hb0 := heap_alloc_new w (.cells #[.bool false, .slice a nu.length c, .slice b 1 d] 32)
    generalize hw0 : w.alloc (.cells #[.bool false, .slice a nu.length c, .slice b 1 d] 32) = w0 at *
    have q0 : w0.cell? ⟨w.heap.size, 0, none⟩ = some (.bool false) := cell_p hb0 0
    have q1 : w0.cell? ⟨w.heap.size, 1, none⟩ = some (.slice a nu.length c) := cell_p hb0 1
    have q2 : w0.cell? ⟨w.heap.size, 2, none⟩ = some (.slice b 1 d) := cell_p hb0 2
    clear hb0
    go_enter Tryz.func35, Tryz.ntmps35
    go_wp2_with fail
    refine hv1.out.mono ?_; rintro e w' ⟨rfl, rfl⟩
    go_wp2_with fail
    refine hv2.out.mono ?_; rintro e w' ⟨rfl, rfl⟩
    clear hw0
    go_wp2
    refine wp_region_tt (S := fun W => Below w0.heap.size w0 W) 14 (by kernel_rfl) (by kernel_rfl) (keep_drew w0) (fun _ => ?_)
    refine tt_take (i := 0) (v := _) (by rfl) (by decide +kernel) (by exact fun _ _ _ h => h) (Or.inl ⟨by rfl, by (intro W hSw; (try dsimp only at hSw); go_simp <;> with_reducible rfl)⟩) (by assumption) ?_
    (try simp only [Act.put, List.setIfInBounds_toArray, List.set_cons_zero, List.set_cons_succ])
    refine tt_take (i := 1) (v := _) (by rfl) (by decide +kernel) (by exact fun _ _ _ h => h) (Or.inl ⟨by rfl, by (intro W hSw; have hq := keep_cell hSw q2; go_simp <;> with_reducible rfl)⟩) (by assumption) ?_
    (try simp only [Act.put, List.setIfInBounds_toArray, List.set_cons_zero, List.set_cons_succ])
    refine tt_ready (rs := [2]) (by decide +kernel) (allT_cons (by rfl) (fun K hK => ?_) allT_nil)
    go_simp
    go_at_call 68
    refine (one_any _).mono ?_
    rintro ee w3 ⟨rfl, hw3⟩
    have B3 : Below w0.heap.size w0 w3 := by rw [hw3]; exact (keep_drew w0).alloc (keep_drew w0).size _
    have hor := Lib.hid (order_same b (some ⟨w0.drew.heap.size, 0, none⟩) 1 d 1 [1] w3 (h2'.out.below (hB0'.out.trans (B3.mono hB0'.out.size)) (Nat.le_refl _)) (by rw [hw3]; exact one64 w0.drew) (by decide))
    clear hw3
    dsimp only
    refine hK.out _ _ (by (exact B3)) (fun hHeld2 => ?_)
    clear hK K
    (try simp only [Act.put, List.setIfInBounds_toArray, List.set_cons_zero, List.set_cons_succ])
    refine tt_ready (rs := [3]) (by decide +kernel) (allT_cons (by rfl) (fun K hK => ?_) allT_nil)
    go_simp
    go_at_call 67
    refine hor.out.mono ?_
    rintro ee w4 ⟨rfl, hb4⟩
    have B4 : Below w0.heap.size w0 w4 := B3.trans (hb4.mono B3.size)
    clear hb4
    dsimp only
    refine hK.out _ _ (by (exact B4)) (fun hHeld3 => ?_)
    clear hK K
    (try simp only [Act.put, List.setIfInBounds_toArray, List.set_cons_zero, List.set_cons_succ])
    refine tt_take (i := 4) (v := _) (by rfl) (by decide +kernel) (by exact fun _ _ _ h => h) (Or.inl ⟨by rfl, by (intro W hSw; (try dsimp only at hSw); go_simp <;> with_reducible rfl)⟩) (by assumption) ?_
    (try simp only [Act.put, List.setIfInBounds_toArray, List.set_cons_zero, List.set_cons_succ])
    refine tt_take (i := 5) (v := _) (by rfl) (by decide +kernel) (by exact fun _ _ _ h => h) (Or.inl ⟨by rfl, by (intro W hSw; (try dsimp only at hSw); go_simp <;> with_reducible rfl)⟩) (by assumption) ?_
    (try simp only [Act.put, List.setIfInBounds_toArray, List.set_cons_zero, List.set_cons_succ])
    refine tt_take (i := 6) (v := _) (by rfl) (by decide +kernel) (by exact fun _ _ _ h => h) (by first | exact Or.inl ⟨by rfl, by (intro W hSw; (try dsimp only at hSw); go_simp <;> with_reducible rfl)⟩ | exact Or.inr ⟨by rfl, rfl⟩) (by assumption) ?_
    (try simp only [Act.put, List.setIfInBounds_toArray, List.set_cons_zero, List.set_cons_succ])
    refine tt_take (i := 7) (v := _) (by rfl) (by decide +kernel) (by exact fun _ _ _ h => h) (by first | exact Or.inl ⟨by rfl, by (intro W hSw; (try dsimp only at hSw); go_simp <;> with_reducible rfl)⟩ | exact Or.inr ⟨by rfl, rfl⟩) (by assumption) ?_
    (try simp only [Act.put, List.setIfInBounds_toArray, List.set_cons_zero, List.set_cons_succ])
    refine tt_take (i := 8) (v := _) (by rfl) (by decide +kernel) (by exact fun _ _ _ h => h) (by first | exact Or.inl ⟨by rfl, by (intro W hSw; (try dsimp only at hSw); go_simp <;> with_reducible rfl)⟩ | exact Or.inr ⟨by rfl, rfl⟩) (by assumption) ?_
    (try simp only [Act.put, List.setIfInBounds_toArray, List.set_cons_zero, List.set_cons_succ])
    refine tt_take (i := 9) (v := _) (by rfl) (by decide +kernel) (by exact fun _ _ _ h => h) (by first | exact Or.inl ⟨by rfl, by (intro W hSw; (try dsimp only at hSw); go_simp <;> with_reducible rfl)⟩ | exact Or.inr ⟨by rfl, rfl⟩) (by assumption) ?_
    (try simp only [Act.put, List.setIfInBounds_toArray, List.set_cons_zero, List.set_cons_succ])
    refine tt_ready (rs := [10]) (by decide +kernel) (allT_cons (by rfl) (fun K hK => ?_) allT_nil)
    go_simp
    refine hK.out _ _ (by (assumption)) (fun hHeld4 => ?_)
    clear hK K
    (try simp only [Act.put, List.setIfInBounds_toArray, List.set_cons_zero, List.set_cons_succ])
    refine tt_ready (rs := [11]) (by decide +kernel) (allT_cons (by rfl) (fun K hK => ?_) allT_nil)
    go_simp
    refine hK.out _ _ (by (assumption)) (fun hHeld5 => ?_)
    clear hK K
    (try simp only [Act.put, List.setIfInBounds_toArray, List.set_cons_zero, List.set_cons_succ])
    refine tt_ready (rs := [12]) (by decide +kernel) (allT_cons (by rfl) (fun K hK => ?_) allT_nil)
    go_simp
    refine hK.out _ _ (by (assumption)) (fun hHeld6 => ?_)
    clear hK K
    (try simp only [Act.put, List.setIfInBounds_toArray, List.set_cons_zero, List.set_cons_succ])
    refine tt_take (i := 13) (v := _) (by rfl) (by decide +kernel) (by exact fun _ _ _ h => h) (by first | exact Or.inl ⟨by rfl, by (intro W hSw; (try dsimp only at hSw); go_simp <;> with_reducible rfl)⟩ | exact Or.inr ⟨by rfl, rfl⟩) (by assumption) ?_
    (try simp only [Act.put, List.setIfInBounds_toArray, List.set_cons_zero, List.set_cons_succ])
    refine tt_tail (by decide +kernel) ?_
    simp only [List.drop_succ_cons, List.drop_zero]
    go_wp2
    go_ret
    exact ⟨ret_bool hv.out, hB0'.out.trans (B4.mono hB0'.out.size)⟩
  case true =>
    have hni : ¬ (nu.length : Int) = 0 := fun e => hbad ⟨rfl, by omega⟩
    have hnd : decide ((nu.length : Int) = 0) = false := by simpa using hni
    clear hbad
    have hb0 := heap_alloc_new w (.cells #[.bool true, .slice a nu.length c, .slice b 1 d] 32)
    generalize hw0 : w.alloc (.cells #[.bool true, .slice a nu.length c, .slice b 1 d] 32) = w0 at *
    have q0 : w0.cell? ⟨w.heap.size, 0, none⟩ = some (.bool true) := cell_p hb0 0
    have q1 : w0.cell? ⟨w.heap.size, 1, none⟩ = some (.slice a nu.length c) := cell_p hb0 1
    have q2 : w0.cell? ⟨w.heap.size, 2, none⟩ = some (.slice b 1 d) := cell_p hb0 2
    clear hb0
    go_enter Tryz.func35, Tryz.ntmps35
    go_wp2_with fail
    refine hv1.out.mono ?_; rintro e w' ⟨rfl, rfl⟩
    go_wp2_with fail
    refine hv2.out.mono ?_; rintro e w' ⟨rfl, rfl⟩
    clear hw0
    go_wp2
    refine wp_region_tt (S := fun W => Below w0.heap.size w0 W) 14 (by kernel_rfl) (by kernel_rfl) (keep_drew w0) (fun _ => ?_)
    refine tt_take (i := 0) (v := _) (by rfl) (by decide +kernel) (by exact fun _ _ _ h => h) (Or.inl ⟨by rfl, by (intro W hSw; (try dsimp only at hSw); go_simp <;> with_reducible rfl)⟩) (by assumption) ?_
    (try simp only [Act.put, List.setIfInBounds_toArray, List.set_cons_zero, List.set_cons_succ])
    refine tt_take (i := 1) (v := _) (by rfl) (by decide +kernel) (by exact fun _ _ _ h => h) (Or.inl ⟨by rfl, by (intro W hSw; have hq := keep_cell hSw q2; go_simp <;> with_reducible rfl)⟩) (by assumption) ?_
    (try simp only [Act.put, List.setIfInBounds_toArray, List.set_cons_zero, List.set_cons_succ])
    refine tt_ready (rs := [2]) (by decide +kernel) (allT_cons (by rfl) (fun K hK => ?_) allT_nil)
    go_simp
    go_at_call 68
    refine (one_any _).mono ?_
    rintro ee w3 ⟨rfl, hw3⟩
    have B3 : Below w0.heap.size w0 w3 := by rw [hw3]; exact (keep_drew w0).alloc (keep_drew w0).size _
    have hor := Lib.hid (order_same b (some ⟨w0.drew.heap.size, 0, none⟩) 1 d 1 [1] w3 (h2'.out.below (hB0'.out.trans (B3.mono hB0'.out.size)) (Nat.le_refl _)) (by rw [hw3]; exact one64 w0.drew) (by decide))
    clear hw3
    dsimp only
    refine hK.out _ _ (by (exact B3)) (fun hHeld2 => ?_)
    clear hK K
    (try simp only [Act.put, List.setIfInBounds_toArray, List.set_cons_zero, List.set_cons_succ])
    refine tt_ready (rs := [3]) (by decide +kernel) (allT_cons (by rfl) (fun K hK => ?_) allT_nil)
    go_simp
    go_at_call 67
    refine hor.out.mono ?_
    rintro ee w4 ⟨rfl, hb4⟩
    have B4 : Below w0.heap.size w0 w4 := B3.trans (hb4.mono B3.size)
    clear hb4
    dsimp only
    refine hK.out _ _ (by (exact B4)) (fun hHeld3 => ?_)
    clear hK K
    (try simp only [Act.put, List.setIfInBounds_toArray, List.set_cons_zero, List.set_cons_succ])
    refine tt_take (i := 4) (v := _) (by rfl) (by decide +kernel) (by exact fun _ _ _ h => h) (Or.inl ⟨by rfl, by (intro W hSw; (try dsimp only at hSw); go_simp <;> with_reducible rfl)⟩) (by assumption) ?_
    (try simp only [Act.put, List.setIfInBounds_toArray, List.set_cons_zero, List.set_cons_succ])
    refine tt_take (i := 5) (v := _) (by rfl) (by decide +kernel) (by exact fun _ _ _ h => h) (Or.inl ⟨by rfl, by (intro W hSw; (try dsimp only at hSw); go_simp <;> with_reducible rfl)⟩) (by assumption) ?_
    (try simp only [Act.put, List.setIfInBounds_toArray, List.set_cons_zero, List.set_cons_succ])
    refine tt_take (i := 6) (v := _) (by rfl) (by decide +kernel) (by exact fun _ _ _ h => h) (by first | exact Or.inl ⟨by rfl, by (intro W hSw; (try dsimp only at hSw); go_simp <;> with_reducible rfl)⟩ | exact Or.inr ⟨by rfl, rfl⟩) (by assumption) ?_
    (try simp only [Act.put, List.setIfInBounds_toArray, List.set_cons_zero, List.set_cons_succ])
    refine tt_take (i := 7) (v := _) (by rfl) (by decide +kernel) (by exact fun _ _ _ h => h) (by first | exact Or.inl ⟨by rfl, by (intro W hSw; (try dsimp only at hSw); go_simp <;> with_reducible rfl)⟩ | exact Or.inr ⟨by rfl, rfl⟩) (by assumption) ?_
    (try simp only [Act.put, List.setIfInBounds_toArray, List.set_cons_zero, List.set_cons_succ])
    refine tt_take (i := 8) (v := _) (by rfl) (by decide +kernel) (by exact fun _ _ _ h => h) (by first | exact Or.inl ⟨by rfl, by (intro W hSw; (try dsimp only at hSw); go_simp <;> with_reducible rfl)⟩ | exact Or.inr ⟨by rfl, rfl⟩) (by assumption) ?_
    (try simp only [Act.put, List.setIfInBounds_toArray, List.set_cons_zero, List.set_cons_succ])
    refine tt_take (i := 9) (v := _) (by rfl) (by decide +kernel) (by exact fun _ _ _ h => h) (by first | exact Or.inl ⟨by rfl, by (intro W hSw; (try dsimp only at hSw); go_simp <;> with_reducible rfl)⟩ | exact Or.inr ⟨by rfl, rfl⟩) (by assumption) ?_
    (try simp only [Act.put, List.setIfInBounds_toArray, List.set_cons_zero, List.set_cons_succ])
    refine tt_ready (rs := [10]) (by decide +kernel) (allT_cons (by rfl) (fun K hK => ?_) allT_nil)
    go_simp
    refine hK.out _ _ (by (assumption)) (fun hHeld4 => ?_)
    clear hK K
    (try simp only [Act.put, List.setIfInBounds_toArray, List.set_cons_zero, List.set_cons_succ])
    refine tt_ready (rs := [11]) (by decide +kernel) (allT_cons (by rfl) (fun K hK => ?_) allT_nil)
    go_simp
    refine hK.out _ _ (by (assumption)) (fun hHeld5 => ?_)
    clear hK K
    (try simp only [Act.put, List.setIfInBounds_toArray, List.set_cons_zero, List.set_cons_succ])
    refine tt_ready (rs := [12]) (by decide +kernel) (allT_cons (by rfl) (fun K hK => ?_) allT_nil)
    go_simp
    refine hK.out _ _ (by (assumption)) (fun hHeld6 => ?_)
    clear hK K
    (try simp only [Act.put, List.setIfInBounds_toArray, List.set_cons_zero, List.set_cons_succ])
    refine tt_take (i := 13) (v := _) (by rfl) (by decide +kernel) (by exact fun _ _ _ h => h) (by first | exact Or.inl ⟨by rfl, by (intro W hSw; (try dsimp only at hSw); go_simp <;> with_reducible rfl)⟩ | exact Or.inr ⟨by rfl, rfl⟩) (by assumption) ?_
    (try simp only [Act.put, List.setIfInBounds_toArray, List.set_cons_zero, List.set_cons_succ])
    refine tt_tail (by decide +kernel) ?_
    simp only [List.drop_succ_cons, List.drop_zero]
    go_wp2
    go_ret
    exact ⟨ret_bool hv.out, hB0'.out.trans (B4.mono hB0'.out.size)⟩
end Go.Proofs.YtikmkalfdiiahaaGreatDoor
