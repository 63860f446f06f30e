/-
  Parts of this claim's texts, one behind the other: ZD ZE ZF. No condition.
-/
import Derived.Test.YtikmkalfdiiahaaGreatDoorK10
set_option linter.unusedVariables false
set_option linter.unusedSimpArgs false
/-
  theodoliteref1: gcd, made, ValidNat, ValidInt, whole, OfInt, New, Of, of the numbers 0, 1, 2 over 1; the law's num. Conditions: none but a world.
-/
namespace Go.Proofs.YtikmkalfdiiahaaGreatDoor
open Go.RowKit Go.Sort Go.Lib

def SPost (xs : List Int) (w : World) (e : Ending) (w' : World) : Prop := ∃ a c, e = .returned (.slice a xs.length c) ∧ SlR Rep.u64 (fun _ => True) w' a xs.length xs ∧ (xs.length ≤ c ∧ c ≤ maxLen) ∧ Below w.heap.size w w'
section
variable {S S' : Nat → Prop}
set_option maxRecDepth 100000 in
set_option maxHeartbeats 4000000 in
theorem gcd_2 (a b : Option Addr) (c d : Nat) (w : World) (hx : SlR Rep.u64 S w a 1 [2]) (hy : SlR Rep.u64 S' w b 1 [1]) (hd : 1 ≤ d ∧ d ≤ maxLen) : Calls Tryz.prog 152 #[.slice a 1 c, .slice b 1 d] w fun e w' => SPost [1] w e w' := by
  have hY := Lib.hid hy
  have h1 := Lib.hid (divmod_2 a b c d w hx hy)
  have hd' := Lib.hid hd
  clear hx hy hd
  go_enter Tryz.func152, Tryz.ntmps152
  go_wp2
  refine wp_loop_rounds 2 ?_
  rw [rounds_succ]
  go_wp2_with fail
  refine h1.out.mono ?_; rintro e w1 ⟨a1, c1, b1, d1, rfl, _, _, _, _, hb1⟩
  have B1 := Lib.hid hb1
  clear hb1
  go_wp2
  rw [rounds_succ]
  go_wp2
  go_ret
  exact ⟨b, d, rfl, (hY.out.below B1.out (Nat.le_refl _)).top, hd'.out, B1.out⟩
set_option maxRecDepth 100000 in
set_option maxHeartbeats 4000000 in
theorem gcd_0 (a b : Option Addr) (c d : Nat) (w : World) (hy : SlR Rep.u64 S' w b 1 [1]) (hd : 1 ≤ d ∧ d ≤ maxLen) (hc : c ≤ maxLen) : Calls Tryz.prog 152 #[.slice a 0 c, .slice b 1 d] w fun e w' => SPost [1] w e w' := by
  have hY := Lib.hid hy
  have h1 := Lib.hid (divmod_0 a b c d w hc)
  have hd' := Lib.hid hd
  clear hy hd
  go_enter Tryz.func152, Tryz.ntmps152
  go_wp2
  refine wp_loop_rounds 2 ?_
  rw [rounds_succ]
  go_wp2_with fail
  refine h1.out.mono ?_; rintro e w1 ⟨a1, c1, b1, d1, rfl, _, _, _, _, hb1⟩
  have B1 := Lib.hid hb1
  clear hb1
  go_wp2
  rw [rounds_succ]
  go_wp2
  go_ret
  exact ⟨b, d, rfl, (hY.out.below B1.out (Nat.le_refl _)).top, hd'.out, B1.out⟩
/-- what is a fraction of these numbers -/
def RatPost (r : RatD) (w : World) (e : Ending) (w' : World) : Prop := ∃ a c b d, e = .returned (ratV r a c b d) ∧ SlR Rep.u64 (DatF w.heap.size w') w' a r.num.length r.num ∧ SlR Rep.u64 (DatF w.heap.size w') w' b r.den.length r.den ∧ (r.num.length ≤ c ∧ c ≤ maxLen) ∧ (r.den.length ≤ d ∧ d ≤ maxLen) ∧ Below w.heap.size w w'
/-- stores into the cells of one box -/
abbrev setL (p : Nat) (l : List (Nat × Value)) (W : World) : World := l.foldl (fun W iv => W.setCell ⟨p, iv.1, none⟩ iv.2) W
theorem setL_dat {p : Nat} {t : TypeId} (h1 : t ≠ 3) (h2 : t ≠ 127) : ∀ (l : List (Nat × Value)) (W : World) (cs : Array Value), W.heap[p]? = some (.cells cs t (0, 0)) →
    (∀ k, DatB W k → (setL p l W).heap[k]? = W.heap[k]?) ∧ (setL p l W).heap.size = W.heap.size ∧ ∀ (B : Nat) (w : World), B ≤ p → Below B w W → Below B w (setL p l W)
  | [], W, _, _ => ⟨fun _ _ => rfl, rfl, fun _ _ _ h => h⟩
  | iv :: l, W, cs, hp => by
    have hp' : (W.setCell ⟨p, iv.1, none⟩ iv.2).heap[p]? = some (.cells (cs.setIfInBounds iv.1 iv.2) t (0, 0)) := by
      unfold World.setCell
      rw [Array.getElem?_modify, if_pos rfl, hp]
      rfl
    have hk : ∀ k, DatB W k → (W.setCell ⟨p, iv.1, none⟩ iv.2).heap[k]? = W.heap[k]? := fun k hk => Below.heap_setCell _ _ _ _ (fun e => by subst e; exact DatB.ne hk h1 h2 ⟨_, _, hp⟩)
    obtain ⟨q1, q2, q3⟩ := setL_dat h1 h2 l _ _ hp'
    exact ⟨fun k h => (q1 k (h.same (hk k h))).trans (hk k h), q2.trans size_set, fun B w hB h => q3 B w hB (h.setCell hB _)⟩
theorem RatPost.set {r : RatD} {w W : World} {p : Nat} {cs : Array Value} {t : TypeId} {a b : Option Addr} {c d : Nat} (h1 : t ≠ 3) (h2 : t ≠ 127) (hp : W.heap[p]? = some (.cells cs t (0, 0))) (hwp : w.heap.size ≤ p)
    (hn : SlR Rep.u64 (DatF w.heap.size W) W a r.num.length r.num) (hd : SlR Rep.u64 (DatF w.heap.size W) W b r.den.length r.den) (hc : r.num.length ≤ c ∧ c ≤ maxLen) (hdd : r.den.length ≤ d ∧ d ≤ maxLen) (hb : Below w.heap.size w W) (l : List (Nat × Value)) : RatPost r w (.returned (ratV r a c b d)) (setL p l W) := by
  obtain ⟨q1, q2, q3⟩ := setL_dat h1 h2 l W cs hp
  exact ⟨a, c, b, d, rfl, hn.move q1 (Nat.le_of_eq q2.symm), hd.move q1 (Nat.le_of_eq q2.symm), hc, hdd, q3 _ _ hwp hb⟩
set_option maxRecDepth 100000 in
set_option maxHeartbeats 4000000 in
theorem made_2 (a b : Option Addr) (c d : Nat) (w : World) (hx : SlR Rep.u64 S w a 1 [2]) (hy : SlR Rep.u64 S' w b 1 [1]) (hd : 1 ≤ d ∧ d ≤ maxLen) (_hc : c ≤ maxLen) : Calls Tryz.prog 121 #[.bool false, .slice a 1 c, .slice b 1 d] w fun e w' => RatPost ⟨false, [2], [1]⟩ w e w' := by
  have hB0 : Below w.heap.size w (w.alloc (.cells #[.bool false, .slice none 0 0, .slice none 0 0] 32)) := (Below.refl _ _).alloc (Nat.le_refl _) _
  have X0 := Lib.hid (heap_alloc_new w (.cells #[.bool false, .slice none 0 0, .slice none 0 0] 32))
  have hB0' := Lib.hid hB0
  have hX := Lib.hid hx
  have hY := Lib.hid hy
  have hg := Lib.hid (gcd_2 a b c d _ (hx.below hB0 (Nat.le_refl _)) (hy.below hB0 (Nat.le_refl _)) hd)
  clear hy hx
  go_enter Tryz.func121, Tryz.ntmps121
  go_wp2_with fail
  refine hg.out.mono ?_; rintro e w1 ⟨a1, c1, rfl, s1, l1, hb1⟩
  have B1 := Lib.hid (hB0'.out.trans (hb1.mono hB0'.out.size))
  have X1 := Lib.hid ((hb1.block w.heap.size (by simp)).trans X0.out)
  have S1 := Lib.hid s1
  have L1 := Lib.hid l1
  have hq := Lib.hid (divmod_2 a a1 c c1 w1 (hX.out.below B1.out (Nat.le_refl _)) s1)
  clear s1 l1 hb1
  go_wp2_with fail
  refine hq.out.mono ?_; rintro e w2 ⟨a2, c2, b2, d2, rfl, s2, _, l2, _, hb2⟩
  have B2 := Lib.hid (B1.out.trans (hb2.mono B1.out.size))
  have X2 := Lib.hid ((hb2.block w.heap.size (Array.getElem?_eq_some_iff.1 X1.out).1).trans X1.out)
  have S2 := Lib.hid s2
  have L2 := Lib.hid l2
  have hq2 := Lib.hid (divmod_1 b a1 d c1 w2 (hY.out.below B2.out (Nat.le_refl _)) (S1.out.below hb2 (Nat.le_refl _)))
  clear s2 l2 hb2
  go_wp2_with fail
  refine hq2.out.mono ?_; rintro e w3 ⟨a3, c3, b3, d3, rfl, s3, _, l3, _, hb3⟩
  have B3 := Lib.hid (B2.out.trans (hb3.mono B2.out.size))
  have X3 := Lib.hid ((hb3.block w.heap.size (Array.getElem?_eq_some_iff.1 X2.out).1).trans X2.out)
  have S3 := Lib.hid s3
  have L3 := Lib.hid l3
  have ht := Lib.hid (trim_any a2 1 c2 [2] 1 w3 (S2.out.below hb3 (Nat.le_refl _)) (by omega) L2.out.1 (Nat.le_refl _) (fun j h1 h2 => by omega) (.inr (by decide)))
  clear s3 l3 hb3
  go_wp2_with fail
  refine ht.out.mono ?_; rintro e w4 ⟨a4, c4, rfl, s4, l4, l4', hb4⟩
  have B4 := Lib.hid (B3.out.trans (hb4.mono B3.out.size))
  have X4 := Lib.hid ((hb4.block w.heap.size (Array.getElem?_eq_some_iff.1 X3.out).1).trans X3.out)
  have S4 := Lib.hid (show SlR Rep.u64 (DatF w.heap.size w4) w4 a4 1 [2] from s4.mono fun _ _ hk => ⟨hk.1, Nat.le_trans B3.out.size hk.2⟩)
  have L4 := Lib.hid (And.intro l4 l4')
  have ht2 := Lib.hid (trim_any a3 1 c3 [1] 1 w4 (S3.out.below hb4 (Nat.le_refl _)) (by omega) L3.out.1 (Nat.le_refl _) (fun j h1 h2 => by omega) (.inr (by decide)))
  clear s4 l4 l4' hb4
  go_wp2_with fail
  refine ht2.out.mono ?_; rintro e w5 ⟨a5, c5, rfl, s5, l5, l5', hb5⟩
  have B5 := Lib.hid (B4.out.trans (hb5.mono B4.out.size))
  have x5 := (hb5.block w.heap.size (Array.getElem?_eq_some_iff.1 X4.out).1).trans X4.out
  have X5 := Lib.hid x5
  have S5 := Lib.hid (show SlR Rep.u64 (DatF w.heap.size w5) w5 a5 1 [1] from s5.mono fun _ _ hk => ⟨hk.1, Nat.le_trans B4.out.size hk.2⟩)
  have T4 := Lib.hid (S4.out.move (Below.dat hb5) hb5.size)
  have L5 := Lib.hid (And.intro l5 l5')
  have r0 := cell_p x5 0
  have r1 := cell_p x5 1
  have r2 := cell_p x5 2
  have f0 := frz_p x5 0
  have f1 := frz_p x5 1
  have f2 := frz_p x5 2
  simp only [List.getElem?_toArray, List.getElem?_cons_succ, List.getElem?_cons_zero] at r0 r1 r2
  clear s5 l5 l5' hb5 x5
  go_wp2
  refine bodyPost_ret (v := ratV ⟨false, [2], [1]⟩ a4 c4 a5 c5) (by simp [results, Tryz.results121, go_sem, *]) rfl ?_
  exact RatPost.set (by decide) (by decide) X5.out (Nat.le_refl _) T4.out S5.out L4.out L5.out B5.out [(0, .bool false), (1, .slice a4 1 c4), (2, .slice a5 1 c5)]
set_option maxRecDepth 100000 in
set_option maxHeartbeats 4000000 in
theorem made_0 (a b : Option Addr) (c d : Nat) (w : World) (hy : SlR Rep.u64 S' w b 1 [1]) (hd : 1 ≤ d ∧ d ≤ maxLen) (hc : c ≤ maxLen) : Calls Tryz.prog 121 #[.bool false, .slice a 0 c, .slice b 1 d] w fun e w' => RatPost ⟨false, [], [1]⟩ w e w' := by
  have hB0 : Below w.heap.size w (w.alloc (.cells #[.bool false, .slice none 0 0, .slice none 0 0] 32)) := (Below.refl _ _).alloc (Nat.le_refl _) _
  have X0 := Lib.hid (heap_alloc_new w (.cells #[.bool false, .slice none 0 0, .slice none 0 0] 32))
  have hB0' := Lib.hid hB0
  have hY := Lib.hid hy
  have hg := Lib.hid (gcd_0 a b c d _ (hy.below hB0 (Nat.le_refl _)) hd hc)
  clear hy
  go_enter Tryz.func121, Tryz.ntmps121
  go_wp2_with fail
  refine hg.out.mono ?_; rintro e w1 ⟨a1, c1, rfl, s1, l1, hb1⟩
  have B1 := Lib.hid (hB0'.out.trans (hb1.mono hB0'.out.size))
  have X1 := Lib.hid ((hb1.block w.heap.size (by simp)).trans X0.out)
  have S1 := Lib.hid s1
  have L1 := Lib.hid l1
  have hq := Lib.hid (divmod_0 a a1 c c1 w1 hc)
  clear s1 l1 hb1
  go_wp2_with fail
  refine hq.out.mono ?_; rintro e w2 ⟨a2, c2, b2, d2, rfl, s2, _, l2, _, hb2⟩
  have B2 := Lib.hid (B1.out.trans (hb2.mono B1.out.size))
  have X2 := Lib.hid ((hb2.block w.heap.size (Array.getElem?_eq_some_iff.1 X1.out).1).trans X1.out)
  have S2 := Lib.hid s2
  have L2 := Lib.hid l2
  have hq2 := Lib.hid (divmod_1 b a1 d c1 w2 (hY.out.below B2.out (Nat.le_refl _)) (S1.out.below hb2 (Nat.le_refl _)))
  clear s2 l2 hb2
  go_wp2_with fail
  refine hq2.out.mono ?_; rintro e w3 ⟨a3, c3, b3, d3, rfl, s3, _, l3, _, hb3⟩
  have B3 := Lib.hid (B2.out.trans (hb3.mono B2.out.size))
  have X3 := Lib.hid ((hb3.block w.heap.size (Array.getElem?_eq_some_iff.1 X2.out).1).trans X2.out)
  have S3 := Lib.hid s3
  have L3 := Lib.hid l3
  have ht := Lib.hid (trim_any a2 0 c2 [] 0 w3 (S2.out.below hb3 (Nat.le_refl _)) (by omega) L2.out.1 (Nat.le_refl _) (fun j h1 h2 => by omega) (.inl rfl))
  clear s3 l3 hb3
  go_wp2_with fail
  refine ht.out.mono ?_; rintro e w4 ⟨a4, c4, rfl, s4, l4, l4', hb4⟩
  have B4 := Lib.hid (B3.out.trans (hb4.mono B3.out.size))
  have X4 := Lib.hid ((hb4.block w.heap.size (Array.getElem?_eq_some_iff.1 X3.out).1).trans X3.out)
  have S4 := Lib.hid (show SlR Rep.u64 (DatF w.heap.size w4) w4 a4 0 [] from s4.mono fun _ _ hk => ⟨hk.1, Nat.le_trans B3.out.size hk.2⟩)
  have L4 := Lib.hid (And.intro l4 l4')
  have ht2 := Lib.hid (trim_any a3 1 c3 [1] 1 w4 (S3.out.below hb4 (Nat.le_refl _)) (by omega) L3.out.1 (Nat.le_refl _) (fun j h1 h2 => by omega) (.inr (by decide)))
  clear s4 l4 l4' hb4
  go_wp2_with fail
  refine ht2.out.mono ?_; rintro e w5 ⟨a5, c5, rfl, s5, l5, l5', hb5⟩
  have B5 := Lib.hid (B4.out.trans (hb5.mono B4.out.size))
  have x5 := (hb5.block w.heap.size (Array.getElem?_eq_some_iff.1 X4.out).1).trans X4.out
  have X5 := Lib.hid x5
  have S5 := Lib.hid (show SlR Rep.u64 (DatF w.heap.size w5) w5 a5 1 [1] from s5.mono fun _ _ hk => ⟨hk.1, Nat.le_trans B4.out.size hk.2⟩)
  have T4 := Lib.hid (S4.out.move (Below.dat hb5) hb5.size)
  have L5 := Lib.hid (And.intro l5 l5')
  have r0 := cell_p x5 0
  have r1 := cell_p x5 1
  have r2 := cell_p x5 2
  have f0 := frz_p x5 0
  have f1 := frz_p x5 1
  have f2 := frz_p x5 2
  simp only [List.getElem?_toArray, List.getElem?_cons_succ, List.getElem?_cons_zero] at r0 r1 r2
  clear s5 l5 l5' hb5 x5
  go_wp2
  refine bodyPost_ret (v := ratV ⟨false, [], [1]⟩ a4 c4 a5 c5) (by simp [results, Tryz.results121, go_sem, *]) rfl ?_
  exact RatPost.set (by decide) (by decide) X5.out (Nat.le_refl _) T4.out S5.out L4.out L5.out B5.out [(0, .bool false), (1, .slice a4 0 c4), (2, .slice a5 1 c5)]
end
end Go.Proofs.YtikmkalfdiiahaaGreatDoor

/-
  theodoliteref1: ValidNat, ValidInt, whole, OfInt, New, Of, of the numbers 0, 1, 2 over 1. Conditions: none but a world.
-/
namespace Go.Proofs.YtikmkalfdiiahaaGreatDoor
open Go.RowKit Go.Sort Go.Lib

abbrev intV (ng : Bool) (a : Option Addr) (n c : Nat) : Value := .agg #[.bool ng, .slice a n c]
section
variable {S S' : Nat → Prop}
set_option maxHeartbeats 1000000 in
theorem validNat_0 (a : Option Addr) (c : Nat) (w : World) : Calls Tryz.prog 151 #[.slice a 0 c] w fun e w' => e = .returned (.bool true) ∧ w = w' := by
  go_enter Tryz.func151, Tryz.ntmps151
  go_wp2
  go_ret
  exact ⟨rfl, rfl⟩
set_option maxHeartbeats 1000000 in
theorem validNat_1 (a : Option Addr) (c : Nat) (x : Int) (w : World) (hx : SlR Rep.u64 S w a 1 [x]) (h0 : x ≠ 0) : Calls Tryz.prog 151 #[.slice a 1 c] w fun e w' => e = .returned (.bool true) ∧ w = w' := by
  obtain ⟨b1, o1, rfl, k1, _⟩ := hx.at64 (k := 0) (by simp)
  rw [Nat.add_zero] at k1
  have e0 : nth [x] 0 = x := rfl
  rw [e0] at k1
  have hb : (x == 0) = false := by simpa using h0
  clear hx e0
  go_enter Tryz.func151, Tryz.ntmps151
  go_wp2
  go_ret
  exact ⟨by simp [h0], rfl⟩
set_option maxHeartbeats 1000000 in
theorem validInt_0 (a : Option Addr) (c : Nat) (w : World) : Calls Tryz.prog 120 #[intV false a 0 c] w fun e w' => e = .returned (.bool true) ∧ Below w.heap.size w w' := by
  have h := Lib.hid (fun W => validNat_0 a c W)
  go_enter Tryz.func120, Tryz.ntmps120
  go_wp2_with fail
  refine (h.out _).mono ?_; rintro e w' ⟨rfl, rfl⟩
  go_wp2
  go_ret
  exact ⟨rfl, (Below.refl _ _).alloc (Nat.le_refl _) _⟩
set_option maxHeartbeats 1000000 in
theorem validInt_1 (a : Option Addr) (c : Nat) (x : Int) (w : World) (hx : SlR Rep.u64 S w a 1 [x]) (h0 : x ≠ 0) : Calls Tryz.prog 120 #[intV false a 1 c] w fun e w' => e = .returned (.bool true) ∧ Below w.heap.size w w' := by
  have h := Lib.hid (validNat_1 a c x _ (hx.below ((Below.refl w.heap.size w).alloc (Nat.le_refl _) (.cells #[.bool false, .slice a 1 c] 138)) (Nat.le_refl _)) h0)
  clear hx
  go_enter Tryz.func120, Tryz.ntmps120
  go_wp2_with fail
  refine h.out.mono ?_; rintro e w' ⟨rfl, rfl⟩
  go_wp2
  go_ret
  exact ⟨rfl, (Below.refl _ _).alloc (Nat.le_refl _) _⟩
set_option maxHeartbeats 1000000 in
theorem whole_any (a : Option Addr) (n c : Nat) (w : World) : Calls Tryz.prog 122 #[.bool false, .slice a n c] w fun e w' => e = .returned (intV false a n c) ∧ Below w.heap.size w w' := by
  go_enter Tryz.func122, Tryz.ntmps122
  go_wp2
  refine bodyPost_ret (v := intV false a n c) (by simp [results, Tryz.results122, go_sem, *]) rfl ?_
  exact ⟨rfl, (Below.refl _ _).alloc (Nat.le_refl _) _⟩
end
def IntPost (xs : List Int) (w : World) (e : Ending) (w' : World) : Prop := ∃ a c, e = .returned (intV false a xs.length c) ∧ SlR Rep.u64 (DatF w.heap.size w') w' a xs.length xs ∧ (xs.length ≤ c ∧ c ≤ maxLen) ∧ Below w.heap.size w w'
set_option maxRecDepth 100000 in
set_option maxHeartbeats 2000000 in
theorem ofInt_2 (w : World) : Calls Tryz.prog 90 #[.int .i64 2] w fun e w' => IntPost [2] w e w' := by
  have X0 := Lib.hid (heap_alloc_new w (.cells #[.bool false, .slice none 0 0] 138))
  have hW : Below w.heap.size w ((w.alloc (.cells #[.bool false, .slice none 0 0] 138)).alloc (.cells #[.int .u64 2] 127)) := below2 w _ _
  have X1 := Lib.hid (heap2a w (.cells #[.bool false, .slice none 0 0] 138) (.cells #[.int .u64 2] 127))
  have hlit := blk64 (heap2b w (.cells #[.bool false, .slice none 0 0] 138) (.cells #[.int .u64 2] 127)) (by unfold okU; omega)
  have ht := Lib.hid (trim_any (some ⟨w.heap.size + 1, 0, none⟩) 1 1 [2] 1 _ hlit (by omega) (Nat.le_refl _) (by omega) (fun j h1 h2 => by omega) (.inr (by decide)))
  have hW' := Lib.hid hW
  clear hlit hW
  go_enter Tryz.func90, Tryz.ntmps90
  go_wp2_with fail
  refine ht.out.mono ?_; rintro e w1 ⟨a1, c1, rfl, s1, l1, l1', hb1⟩
  have B1 := Lib.hid (hW'.out.trans (hb1.mono hW'.out.size))
  have Y1 := Lib.hid ((hb1.block w.heap.size (by simp; omega)).trans X1.out)
  have S1 := Lib.hid (show SlR Rep.u64 (DatF w.heap.size w1) w1 a1 _ _ from s1.mono fun _ _ hk => ⟨hk.1, Nat.le_trans hW'.out.size hk.2⟩)
  have L1 := Lib.hid (And.intro l1 l1')
  have hwh := Lib.hid (whole_any a1 1 c1 w1)
  clear s1 l1 l1' hb1
  go_wp2_with fail
  refine hwh.out.mono ?_; rintro e w2 ⟨rfl, hb2⟩
  have B2 := Lib.hid (B1.out.trans (hb2.mono B1.out.size))
  have y2 := (hb2.block w.heap.size (Array.getElem?_eq_some_iff.1 Y1.out).1).trans Y1.out
  have Y2 := Lib.hid y2
  have S2 := Lib.hid (S1.out.move (Below.dat hb2) hb2.size)
  have r0 := cell_p y2 0
  have r1 := cell_p y2 1
  have f0 := frz_p y2 0
  have f1 := frz_p y2 1
  simp only [List.getElem?_toArray, List.getElem?_cons_succ, List.getElem?_cons_zero] at r0 r1
  clear hb2 y2
  go_wp2
  refine bodyPost_ret (v := intV false a1 1 c1) (by simp [results, Tryz.results90, go_sem, *]) rfl ?_
  have hst := setL_dat (p := w.heap.size) (t := 138) (by decide) (by decide) [(0, .bool false), (1, .slice a1 1 c1)] w2 _ Y2.out
  exact ⟨a1, c1, rfl, S2.out.move hst.1 (Nat.le_of_eq hst.2.1.symm), L1.out, hst.2.2 _ _ (Nat.le_refl _) B2.out⟩
set_option maxRecDepth 100000 in
set_option maxHeartbeats 2000000 in
theorem ofInt_1 (w : World) : Calls Tryz.prog 90 #[.int .i64 1] w fun e w' => IntPost [1] w e w' := by
  have X0 := Lib.hid (heap_alloc_new w (.cells #[.bool false, .slice none 0 0] 138))
  have hW : Below w.heap.size w ((w.alloc (.cells #[.bool false, .slice none 0 0] 138)).alloc (.cells #[.int .u64 1] 127)) := below2 w _ _
  have X1 := Lib.hid (heap2a w (.cells #[.bool false, .slice none 0 0] 138) (.cells #[.int .u64 1] 127))
  have hlit := blk64 (heap2b w (.cells #[.bool false, .slice none 0 0] 138) (.cells #[.int .u64 1] 127)) (by unfold okU; omega)
  have ht := Lib.hid (trim_any (some ⟨w.heap.size + 1, 0, none⟩) 1 1 [1] 1 _ hlit (by omega) (Nat.le_refl _) (by omega) (fun j h1 h2 => by omega) (.inr (by decide)))
  have hW' := Lib.hid hW
  clear hlit hW
  go_enter Tryz.func90, Tryz.ntmps90
  go_wp2_with fail
  refine ht.out.mono ?_; rintro e w1 ⟨a1, c1, rfl, s1, l1, l1', hb1⟩
  have B1 := Lib.hid (hW'.out.trans (hb1.mono hW'.out.size))
  have Y1 := Lib.hid ((hb1.block w.heap.size (by simp; omega)).trans X1.out)
  have S1 := Lib.hid (show SlR Rep.u64 (DatF w.heap.size w1) w1 a1 _ _ from s1.mono fun _ _ hk => ⟨hk.1, Nat.le_trans hW'.out.size hk.2⟩)
  have L1 := Lib.hid (And.intro l1 l1')
  have hwh := Lib.hid (whole_any a1 1 c1 w1)
  clear s1 l1 l1' hb1
  go_wp2_with fail
  refine hwh.out.mono ?_; rintro e w2 ⟨rfl, hb2⟩
  have B2 := Lib.hid (B1.out.trans (hb2.mono B1.out.size))
  have y2 := (hb2.block w.heap.size (Array.getElem?_eq_some_iff.1 Y1.out).1).trans Y1.out
  have Y2 := Lib.hid y2
  have S2 := Lib.hid (S1.out.move (Below.dat hb2) hb2.size)
  have r0 := cell_p y2 0
  have r1 := cell_p y2 1
  have f0 := frz_p y2 0
  have f1 := frz_p y2 1
  simp only [List.getElem?_toArray, List.getElem?_cons_succ, List.getElem?_cons_zero] at r0 r1
  clear hb2 y2
  go_wp2
  refine bodyPost_ret (v := intV false a1 1 c1) (by simp [results, Tryz.results90, go_sem, *]) rfl ?_
  have hst := setL_dat (p := w.heap.size) (t := 138) (by decide) (by decide) [(0, .bool false), (1, .slice a1 1 c1)] w2 _ Y2.out
  exact ⟨a1, c1, rfl, S2.out.move hst.1 (Nat.le_of_eq hst.2.1.symm), L1.out, hst.2.2 _ _ (Nat.le_refl _) B2.out⟩
set_option maxRecDepth 100000 in
set_option maxHeartbeats 2000000 in
theorem ofInt_0 (w : World) : Calls Tryz.prog 90 #[.int .i64 0] w fun e w' => IntPost [] w e w' := by
  have X0 := Lib.hid (heap_alloc_new w (.cells #[.bool false, .slice none 0 0] 138))
  have hW : Below w.heap.size w ((w.alloc (.cells #[.bool false, .slice none 0 0] 138)).alloc (.cells #[.int .u64 0] 127)) := below2 w _ _
  have X1 := Lib.hid (heap2a w (.cells #[.bool false, .slice none 0 0] 138) (.cells #[.int .u64 0] 127))
  have hlit := blk64 (heap2b w (.cells #[.bool false, .slice none 0 0] 138) (.cells #[.int .u64 0] 127)) (by unfold okU; omega)
  have ht := Lib.hid (trim_any (some ⟨w.heap.size + 1, 0, none⟩) 1 1 [0] 0 _ hlit (by omega) (Nat.le_refl _) (by omega) (fun j h1 h2 => by (have h9 : j = 0 := (by omega)); subst h9; rfl) (.inl rfl))
  have hW' := Lib.hid hW
  clear hlit hW
  go_enter Tryz.func90, Tryz.ntmps90
  go_wp2_with fail
  refine ht.out.mono ?_; rintro e w1 ⟨a1, c1, rfl, s1, l1, l1', hb1⟩
  have B1 := Lib.hid (hW'.out.trans (hb1.mono hW'.out.size))
  have Y1 := Lib.hid ((hb1.block w.heap.size (by simp; omega)).trans X1.out)
  have S1 := Lib.hid (show SlR Rep.u64 (DatF w.heap.size w1) w1 a1 _ _ from s1.mono fun _ _ hk => ⟨hk.1, Nat.le_trans hW'.out.size hk.2⟩)
  have L1 := Lib.hid (And.intro l1 l1')
  have hwh := Lib.hid (whole_any a1 0 c1 w1)
  clear s1 l1 l1' hb1
  go_wp2_with fail
  refine hwh.out.mono ?_; rintro e w2 ⟨rfl, hb2⟩
  have B2 := Lib.hid (B1.out.trans (hb2.mono B1.out.size))
  have y2 := (hb2.block w.heap.size (Array.getElem?_eq_some_iff.1 Y1.out).1).trans Y1.out
  have Y2 := Lib.hid y2
  have S2 := Lib.hid (S1.out.move (Below.dat hb2) hb2.size)
  have r0 := cell_p y2 0
  have r1 := cell_p y2 1
  have f0 := frz_p y2 0
  have f1 := frz_p y2 1
  simp only [List.getElem?_toArray, List.getElem?_cons_succ, List.getElem?_cons_zero] at r0 r1
  clear hb2 y2
  go_wp2
  refine bodyPost_ret (v := intV false a1 0 c1) (by simp [results, Tryz.results90, go_sem, *]) rfl ?_
  have hst := setL_dat (p := w.heap.size) (t := 138) (by decide) (by decide) [(0, .bool false), (1, .slice a1 0 c1)] w2 _ Y2.out
  exact ⟨a1, c1, rfl, S2.out.move hst.1 (Nat.le_of_eq hst.2.1.symm), L1.out, hst.2.2 _ _ (Nat.le_refl _) B2.out⟩
section
variable {S S' : Nat → Prop}
set_option maxRecDepth 100000 in
set_option maxHeartbeats 4000000 in
theorem rnew_2 (a b : Option Addr) (c d : Nat) (w : World) (hx : SlR Rep.u64 S w a 1 [2]) (hy : SlR Rep.u64 S' w b 1 [1]) (hd : 1 ≤ d ∧ d ≤ maxLen) (hc : c ≤ maxLen) : Calls Tryz.prog 89 #[intV false a 1 c, intV false b 1 d] w fun e w' => ∃ v, e = .returned (.tuple #[v, .int .i64 0]) ∧ RatPost ⟨false, [2], [1]⟩ w (.returned v) w' := by
  have h0 := heap_alloc_new ((w.alloc (.cells #[.bool false, .slice a 1 c] 138)).alloc (.cells #[.bool false, .slice b 1 d] 138)) (.cells #[.bool false, .slice none 0 0, .slice none 0 0] 32)
  have h1 := (Below.heap_alloc ((w.alloc (.cells #[.bool false, .slice a 1 c] 138)).alloc (.cells #[.bool false, .slice b 1 d] 138)) (.cells #[.bool false, .slice none 0 0, .slice none 0 0] 32) w.heap.size (by simp; omega)).trans (heap2a w (.cells #[.bool false, .slice a 1 c] 138) (.cells #[.bool false, .slice b 1 d] 138))
  have h2 := (Below.heap_alloc ((w.alloc (.cells #[.bool false, .slice a 1 c] 138)).alloc (.cells #[.bool false, .slice b 1 d] 138)) (.cells #[.bool false, .slice none 0 0, .slice none 0 0] 32) (w.heap.size + 1) (by simp)).trans (heap2b w (.cells #[.bool false, .slice a 1 c] 138) (.cells #[.bool false, .slice b 1 d] 138))
  have hW0 : Below w.heap.size w (((w.alloc (.cells #[.bool false, .slice a 1 c] 138)).alloc (.cells #[.bool false, .slice b 1 d] 138)).alloc (.cells #[.bool false, .slice none 0 0, .slice none 0 0] 32)) := (below2 w _ _).alloc (by simp; omega) _
  rw [World.size_alloc, World.size_alloc] at h0
  go_enter Tryz.func89, Tryz.ntmps89
  go_wp2_with fail
  generalize hW : ((w.alloc (.cells #[.bool false, .slice a 1 c] 138)).alloc (.cells #[.bool false, .slice b 1 d] 138)).alloc (.cells #[.bool false, .slice none 0 0, .slice none 0 0] 32) = W0 at *
  clear hW
  have H0 := Lib.hid h0
  have H1 := Lib.hid h1
  have H2 := Lib.hid h2
  have BW := Lib.hid hW0
  have hX := Lib.hid (hx.below hW0 (Nat.le_refl _))
  have hY := Lib.hid (hy.below hW0 (Nat.le_refl _))
  have v1 := Lib.hid (validInt_1 a c 2 W0 hX.out (by decide))
  clear h0 h1 h2 hW0 hy hx
  refine v1.out.mono ?_; rintro e w1 ⟨rfl, hb1⟩
  have B1 := Lib.hid (BW.out.trans (hb1.mono BW.out.size))
  have y1 := (hb1.block (w.heap.size + 1) (Array.getElem?_eq_some_iff.1 H2.out).1).trans H2.out
  have P0 := Lib.hid ((hb1.block (w.heap.size + 1 + 1) (Array.getElem?_eq_some_iff.1 H0.out).1).trans H0.out)
  have P1 := Lib.hid ((hb1.block w.heap.size (Array.getElem?_eq_some_iff.1 H1.out).1).trans H1.out)
  have P2 := Lib.hid y1
  have k0 : w1.cell? ⟨w.heap.size + 1, 0, none⟩ = some (.bool false) := cell_p y1 0
  have k1 : w1.cell? ⟨w.heap.size + 1, 1, none⟩ = some (.slice b 1 d) := cell_p y1 1
  have Y1 := Lib.hid (hY.out.below hb1 (Nat.le_refl _))
  have X1 := Lib.hid (hX.out.below hb1 (Nat.le_refl _))
  have v2 := Lib.hid (validInt_1 b d 1 w1 Y1.out (by decide))
  clear hb1 y1
  go_wp2_with fail
  refine v2.out.mono ?_; rintro e w2 ⟨rfl, hb2⟩
  have B2 := Lib.hid (B1.out.trans (hb2.mono B1.out.size))
  have y0 := (hb2.block (w.heap.size + 1 + 1) (Array.getElem?_eq_some_iff.1 P0.out).1).trans P0.out
  have y1 := (hb2.block w.heap.size (Array.getElem?_eq_some_iff.1 P1.out).1).trans P1.out
  have y2 := (hb2.block (w.heap.size + 1) (Array.getElem?_eq_some_iff.1 P2.out).1).trans P2.out
  have m0 : w2.cell? ⟨w.heap.size, 0, none⟩ = some (.bool false) := cell_p y1 0
  have m1 : w2.cell? ⟨w.heap.size, 1, none⟩ = some (.slice a 1 c) := cell_p y1 1
  have n0 : w2.cell? ⟨w.heap.size + 1, 0, none⟩ = some (.bool false) := cell_p y2 0
  have n1 : w2.cell? ⟨w.heap.size + 1, 1, none⟩ = some (.slice b 1 d) := cell_p y2 1
  have Q0 := Lib.hid y0
  have hmd := Lib.hid (made_2 a b c d w2 (X1.out.below hb2 (Nat.le_refl _)) (Y1.out.below hb2 (Nat.le_refl _)) hd hc)
  clear hb2 y0 y1 y2 k0 k1
  go_wp2_with fail
  refine hmd.out.mono ?_; rintro e w3 ⟨a3, c3, b3, d3, rfl, s3, t3, l3, l3', hb3⟩
  have y0 := (hb3.block (w.heap.size + 1 + 1) (Array.getElem?_eq_some_iff.1 Q0.out).1).trans Q0.out
  have r0 := cell_p y0 0
  have r1 := cell_p y0 1
  have r2 := cell_p y0 2
  have f0 := frz_p y0 0
  have f1 := frz_p y0 1
  have f2 := frz_p y0 2
  simp only [List.getElem?_toArray, List.getElem?_cons_succ, List.getElem?_cons_zero] at r0 r1 r2
  have F3 := Lib.hid (RatPost.set (r := ⟨false, [2], [1]⟩) (w := w) (W := w3) (by decide) (by decide) y0 (by omega) (s3.mono fun _ _ hk => ⟨hk.1, Nat.le_trans B2.out.size hk.2⟩) (t3.mono fun _ _ hk => ⟨hk.1, Nat.le_trans B2.out.size hk.2⟩) l3 l3' (B2.out.trans (hb3.mono B2.out.size)) [(0, .bool false), (1, .slice a3 1 c3), (2, .slice b3 1 d3)])
  clear s3 t3 l3 l3' hb3 y0
  go_wp2
  refine bodyPost_ret (v := .tuple #[ratV ⟨false, [2], [1]⟩ a3 c3 b3 d3, .int .i64 0]) (by simp [results, Tryz.results89, go_sem, *]) rfl ?_
  exact ⟨_, rfl, F3.out⟩
set_option maxRecDepth 100000 in
set_option maxHeartbeats 4000000 in
theorem rnew_0 (a b : Option Addr) (c d : Nat) (w : World) (hy : SlR Rep.u64 S' w b 1 [1]) (hd : 1 ≤ d ∧ d ≤ maxLen) (hc : c ≤ maxLen) : Calls Tryz.prog 89 #[intV false a 0 c, intV false b 1 d] w fun e w' => ∃ v, e = .returned (.tuple #[v, .int .i64 0]) ∧ RatPost ⟨false, [], [1]⟩ w (.returned v) w' := by
  have h0 := heap_alloc_new ((w.alloc (.cells #[.bool false, .slice a 0 c] 138)).alloc (.cells #[.bool false, .slice b 1 d] 138)) (.cells #[.bool false, .slice none 0 0, .slice none 0 0] 32)
  have h1 := (Below.heap_alloc ((w.alloc (.cells #[.bool false, .slice a 0 c] 138)).alloc (.cells #[.bool false, .slice b 1 d] 138)) (.cells #[.bool false, .slice none 0 0, .slice none 0 0] 32) w.heap.size (by simp; omega)).trans (heap2a w (.cells #[.bool false, .slice a 0 c] 138) (.cells #[.bool false, .slice b 1 d] 138))
  have h2 := (Below.heap_alloc ((w.alloc (.cells #[.bool false, .slice a 0 c] 138)).alloc (.cells #[.bool false, .slice b 1 d] 138)) (.cells #[.bool false, .slice none 0 0, .slice none 0 0] 32) (w.heap.size + 1) (by simp)).trans (heap2b w (.cells #[.bool false, .slice a 0 c] 138) (.cells #[.bool false, .slice b 1 d] 138))
  have hW0 : Below w.heap.size w (((w.alloc (.cells #[.bool false, .slice a 0 c] 138)).alloc (.cells #[.bool false, .slice b 1 d] 138)).alloc (.cells #[.bool false, .slice none 0 0, .slice none 0 0] 32)) := (below2 w _ _).alloc (by simp; omega) _
  rw [World.size_alloc, World.size_alloc] at h0
  go_enter Tryz.func89, Tryz.ntmps89
  go_wp2_with fail
  generalize hW : ((w.alloc (.cells #[.bool false, .slice a 0 c] 138)).alloc (.cells #[.bool false, .slice b 1 d] 138)).alloc (.cells #[.bool false, .slice none 0 0, .slice none 0 0] 32) = W0 at *
  clear hW
  have H0 := Lib.hid h0
  have H1 := Lib.hid h1
  have H2 := Lib.hid h2
  have BW := Lib.hid hW0
  have hY := Lib.hid (hy.below hW0 (Nat.le_refl _))
  have v1 := Lib.hid (validInt_0 a c W0)
  clear h0 h1 h2 hW0 hy
  refine v1.out.mono ?_; rintro e w1 ⟨rfl, hb1⟩
  have B1 := Lib.hid (BW.out.trans (hb1.mono BW.out.size))
  have y1 := (hb1.block (w.heap.size + 1) (Array.getElem?_eq_some_iff.1 H2.out).1).trans H2.out
  have P0 := Lib.hid ((hb1.block (w.heap.size + 1 + 1) (Array.getElem?_eq_some_iff.1 H0.out).1).trans H0.out)
  have P1 := Lib.hid ((hb1.block w.heap.size (Array.getElem?_eq_some_iff.1 H1.out).1).trans H1.out)
  have P2 := Lib.hid y1
  have k0 : w1.cell? ⟨w.heap.size + 1, 0, none⟩ = some (.bool false) := cell_p y1 0
  have k1 : w1.cell? ⟨w.heap.size + 1, 1, none⟩ = some (.slice b 1 d) := cell_p y1 1
  have Y1 := Lib.hid (hY.out.below hb1 (Nat.le_refl _))
  have v2 := Lib.hid (validInt_1 b d 1 w1 Y1.out (by decide))
  clear hb1 y1
  go_wp2_with fail
  refine v2.out.mono ?_; rintro e w2 ⟨rfl, hb2⟩
  have B2 := Lib.hid (B1.out.trans (hb2.mono B1.out.size))
  have y0 := (hb2.block (w.heap.size + 1 + 1) (Array.getElem?_eq_some_iff.1 P0.out).1).trans P0.out
  have y1 := (hb2.block w.heap.size (Array.getElem?_eq_some_iff.1 P1.out).1).trans P1.out
  have y2 := (hb2.block (w.heap.size + 1) (Array.getElem?_eq_some_iff.1 P2.out).1).trans P2.out
  have m0 : w2.cell? ⟨w.heap.size, 0, none⟩ = some (.bool false) := cell_p y1 0
  have m1 : w2.cell? ⟨w.heap.size, 1, none⟩ = some (.slice a 0 c) := cell_p y1 1
  have n0 : w2.cell? ⟨w.heap.size + 1, 0, none⟩ = some (.bool false) := cell_p y2 0
  have n1 : w2.cell? ⟨w.heap.size + 1, 1, none⟩ = some (.slice b 1 d) := cell_p y2 1
  have Q0 := Lib.hid y0
  have hmd := Lib.hid (made_0 a b c d w2 (Y1.out.below hb2 (Nat.le_refl _)) hd hc)
  clear hb2 y0 y1 y2 k0 k1
  go_wp2_with fail
  refine hmd.out.mono ?_; rintro e w3 ⟨a3, c3, b3, d3, rfl, s3, t3, l3, l3', hb3⟩
  have y0 := (hb3.block (w.heap.size + 1 + 1) (Array.getElem?_eq_some_iff.1 Q0.out).1).trans Q0.out
  have r0 := cell_p y0 0
  have r1 := cell_p y0 1
  have r2 := cell_p y0 2
  have f0 := frz_p y0 0
  have f1 := frz_p y0 1
  have f2 := frz_p y0 2
  simp only [List.getElem?_toArray, List.getElem?_cons_succ, List.getElem?_cons_zero] at r0 r1 r2
  have F3 := Lib.hid (RatPost.set (r := ⟨false, [], [1]⟩) (w := w) (W := w3) (by decide) (by decide) y0 (by omega) (s3.mono fun _ _ hk => ⟨hk.1, Nat.le_trans B2.out.size hk.2⟩) (t3.mono fun _ _ hk => ⟨hk.1, Nat.le_trans B2.out.size hk.2⟩) l3 l3' (B2.out.trans (hb3.mono B2.out.size)) [(0, .bool false), (1, .slice a3 0 c3), (2, .slice b3 1 d3)])
  clear s3 t3 l3 l3' hb3 y0
  go_wp2
  refine bodyPost_ret (v := .tuple #[ratV ⟨false, [], [1]⟩ a3 c3 b3 d3, .int .i64 0]) (by simp [results, Tryz.results89, go_sem, *]) rfl ?_
  exact ⟨_, rfl, F3.out⟩
end
end Go.Proofs.YtikmkalfdiiahaaGreatDoor

/-
  theodoliteref1.Of at 0 and 2 over 1; the law's num and app. Conditions: a table of terms in memory; the library's tables as its text lays them.
-/
namespace Go.Proofs.YtikmkalfdiiahaaGreatDoor
open Go.RowKit Go.Sort Go.Lib

set_option maxRecDepth 100000 in
set_option maxHeartbeats 4000000 in
theorem of_2 (w : World) : Calls Tryz.prog 56 #[.int .i64 2, .int .i64 1] w fun e w' => RatPost ⟨false, [2], [1]⟩ w e w' := by
  have hB0 : Below w.heap.size w (w.alloc (.cells #[.bool false, .slice none 0 0, .slice none 0 0] 32)) := (Below.refl _ _).alloc (Nat.le_refl _) _
  have X0 := Lib.hid (heap_alloc_new w (.cells #[.bool false, .slice none 0 0, .slice none 0 0] 32))
  have hB0' := Lib.hid hB0
  have hq1 := Lib.hid (fun W => ofInt_2 W)
  have hq2 := Lib.hid (fun W => ofInt_1 W)
  clear hB0
  go_enter Tryz.func56, Tryz.ntmps56
  go_wp2_with fail
  refine (hq1.out _).mono ?_; rintro e w1 ⟨a1, c1, rfl, s1, l1, hb1⟩
  have B1 := Lib.hid (hB0'.out.trans (hb1.mono hB0'.out.size))
  have X1 := Lib.hid ((hb1.block w.heap.size (by simp)).trans X0.out)
  have S1 := Lib.hid s1
  have L1 := Lib.hid l1
  clear s1 l1 hb1
  go_wp2_with fail
  refine (hq2.out _).mono ?_; rintro e w2 ⟨a2, c2, rfl, s2, l2, hb2⟩
  have B2 := Lib.hid (B1.out.trans (hb2.mono B1.out.size))
  have X2 := Lib.hid ((hb2.block w.heap.size (Array.getElem?_eq_some_iff.1 X1.out).1).trans X1.out)
  have hn := Lib.hid (rnew_2 a1 a2 c1 c2 w2 (S1.out.below hb2 (Nat.le_refl _)) s2 l2 L1.out.2)
  clear s2 l2 hb2
  go_wp2_with fail
  refine hn.out.mono ?_; rintro e w3 ⟨v, rfl, a3, c3, b3, d3, hv, s3, t3, l3, l3', hb3⟩
  injection hv with hv
  subst hv
  have hb4 : Below w3.heap.size w3 (w3.alloc (.cells #[.bool false, .slice a3 1 c3, .slice b3 1 d3] 32)) := (Below.refl _ _).alloc (Nat.le_refl _) _
  have y3 := (hb4.block w.heap.size (Nat.lt_of_lt_of_le (Array.getElem?_eq_some_iff.1 X2.out).1 hb3.size)).trans ((hb3.block w.heap.size (Array.getElem?_eq_some_iff.1 X2.out).1).trans X2.out)
  have r0 := cell_p y3 0
  have r1 := cell_p y3 1
  have r2 := cell_p y3 2
  have f0 := frz_p y3 0
  have f1 := frz_p y3 1
  have f2 := frz_p y3 2
  simp only [List.getElem?_toArray, List.getElem?_cons_succ, List.getElem?_cons_zero] at r0 r1 r2
  have z3 := heap_alloc_new w3 (.cells #[.bool false, .slice a3 1 c3, .slice b3 1 d3] 32)
  have m0 := cell_p z3 0
  have m1 := cell_p z3 1
  have m2 := cell_p z3 2
  simp only [List.getElem?_toArray, List.getElem?_cons_succ, List.getElem?_cons_zero] at m0 m1 m2
  have B3 := B2.out.trans (hb3.mono B2.out.size)
  have F3 := Lib.hid (RatPost.set (r := ⟨false, [2], [1]⟩) (w := w) (by decide) (by decide) y3 (Nat.le_refl _) ((s3.mono fun _ _ hk => ⟨hk.1, Nat.le_trans B2.out.size hk.2⟩).move (Below.dat hb4) hb4.size) ((t3.mono fun _ _ hk => ⟨hk.1, Nat.le_trans B2.out.size hk.2⟩).move (Below.dat hb4) hb4.size) l3 l3' (B3.trans (hb4.mono B3.size)) [(0, .bool false), (1, .slice a3 1 c3), (2, .slice b3 1 d3)])
  clear s3 t3 l3 l3' hb3 y3 hb4 z3 B3
  go_wp2_with fail
  generalize w3.alloc (.cells #[.bool false, .slice a3 1 c3, .slice b3 1 d3] 32) = w4 at *
  go_wp2
  refine bodyPost_ret (v := ratV ⟨false, [2], [1]⟩ a3 c3 b3 d3) (by simp [results, Tryz.results56, go_sem, *]) rfl ?_
  exact F3.out
set_option maxRecDepth 100000 in
set_option maxHeartbeats 4000000 in
theorem of_0 (w : World) : Calls Tryz.prog 56 #[.int .i64 0, .int .i64 1] w fun e w' => RatPost ⟨false, [], [1]⟩ w e w' := by
  have hB0 : Below w.heap.size w (w.alloc (.cells #[.bool false, .slice none 0 0, .slice none 0 0] 32)) := (Below.refl _ _).alloc (Nat.le_refl _) _
  have X0 := Lib.hid (heap_alloc_new w (.cells #[.bool false, .slice none 0 0, .slice none 0 0] 32))
  have hB0' := Lib.hid hB0
  have hq1 := Lib.hid (fun W => ofInt_0 W)
  have hq2 := Lib.hid (fun W => ofInt_1 W)
  clear hB0
  go_enter Tryz.func56, Tryz.ntmps56
  go_wp2_with fail
  refine (hq1.out _).mono ?_; rintro e w1 ⟨a1, c1, rfl, s1, l1, hb1⟩
  have B1 := Lib.hid (hB0'.out.trans (hb1.mono hB0'.out.size))
  have X1 := Lib.hid ((hb1.block w.heap.size (by simp)).trans X0.out)
  have S1 := Lib.hid s1
  have L1 := Lib.hid l1
  clear s1 l1 hb1
  go_wp2_with fail
  refine (hq2.out _).mono ?_; rintro e w2 ⟨a2, c2, rfl, s2, l2, hb2⟩
  have B2 := Lib.hid (B1.out.trans (hb2.mono B1.out.size))
  have X2 := Lib.hid ((hb2.block w.heap.size (Array.getElem?_eq_some_iff.1 X1.out).1).trans X1.out)
  have hn := Lib.hid (rnew_0 a1 a2 c1 c2 w2 s2 l2 L1.out.2)
  clear s2 l2 hb2
  go_wp2_with fail
  refine hn.out.mono ?_; rintro e w3 ⟨v, rfl, a3, c3, b3, d3, hv, s3, t3, l3, l3', hb3⟩
  injection hv with hv
  subst hv
  have hb4 : Below w3.heap.size w3 (w3.alloc (.cells #[.bool false, .slice a3 0 c3, .slice b3 1 d3] 32)) := (Below.refl _ _).alloc (Nat.le_refl _) _
  have y3 := (hb4.block w.heap.size (Nat.lt_of_lt_of_le (Array.getElem?_eq_some_iff.1 X2.out).1 hb3.size)).trans ((hb3.block w.heap.size (Array.getElem?_eq_some_iff.1 X2.out).1).trans X2.out)
  have r0 := cell_p y3 0
  have r1 := cell_p y3 1
  have r2 := cell_p y3 2
  have f0 := frz_p y3 0
  have f1 := frz_p y3 1
  have f2 := frz_p y3 2
  simp only [List.getElem?_toArray, List.getElem?_cons_succ, List.getElem?_cons_zero] at r0 r1 r2
  have z3 := heap_alloc_new w3 (.cells #[.bool false, .slice a3 0 c3, .slice b3 1 d3] 32)
  have m0 := cell_p z3 0
  have m1 := cell_p z3 1
  have m2 := cell_p z3 2
  simp only [List.getElem?_toArray, List.getElem?_cons_succ, List.getElem?_cons_zero] at m0 m1 m2
  have B3 := B2.out.trans (hb3.mono B2.out.size)
  have F3 := Lib.hid (RatPost.set (r := ⟨false, [], [1]⟩) (w := w) (by decide) (by decide) y3 (Nat.le_refl _) ((s3.mono fun _ _ hk => ⟨hk.1, Nat.le_trans B2.out.size hk.2⟩).move (Below.dat hb4) hb4.size) ((t3.mono fun _ _ hk => ⟨hk.1, Nat.le_trans B2.out.size hk.2⟩).move (Below.dat hb4) hb4.size) l3 l3' (B3.trans (hb4.mono B3.size)) [(0, .bool false), (1, .slice a3 0 c3), (2, .slice b3 1 d3)])
  clear s3 t3 l3 l3' hb3 y3 hb4 z3 B3
  go_wp2_with fail
  generalize w3.alloc (.cells #[.bool false, .slice a3 0 c3, .slice b3 1 d3] 32) = w4 at *
  go_wp2
  refine bodyPost_ret (v := ratV ⟨false, [], [1]⟩ a3 c3 b3 d3) (by simp [results, Tryz.results56, go_sem, *]) rfl ?_
  exact F3.out
def IdPost (B p : Nat) (_T : TermD) (r : (Int × Int) × TermD) (w : World) (e : Ending) (w' : World) : Prop := e = .returned (.int .i64 r.1.1) ∧ TermX B p r.2 w' ∧ TStep p w w'
def rat_2 : RatD := ⟨false, [2], [1]⟩
set_option maxHeartbeats 2000000 in
theorem num_2 (B p : Nat) (T : TermD) (w : World) (h : TermX B p T w) (hs : SmT T) (hE : EnvT w) : Calls Tryz.prog 24 #[.pointer (some ⟨p, 0, none⟩), .int .i64 2] w fun e w' => IdPost B p T (makeD T 11 ⟨#[]⟩ rat_2 []) w e w' := by
  have ho := Lib.hid (of_2 w)
  have h' := Lib.hid h
  have hs' := Lib.hid hs
  have hE' := Lib.hid hE
  clear h hs hE
  go_enter Tryz.func24, Tryz.ntmps24
  go_wp2_with fail
  refine ho.out.mono ?_; rintro e w1 ⟨a1, c1, b1, d1, rfl, s1, t1, l1, l1', hb1⟩
  have B1 := Lib.hid hb1
  have hm := Lib.hid (make_any B p T 11 ⟨#[]⟩ rat_2 [] a1 b1 none c1 d1 0 w1 (h'.out.all hb1) hs'.out (hE'.out.all hb1) ⟨s1.mono fun _ _ hk => hk.1, t1.mono fun _ _ hk => hk.1, SlR.nil _ _ _ _, l1, l1', ⟨Nat.le_refl _, Nat.zero_le _⟩, by decide, by decide, ⟨by decide, by decide⟩, fun _ => ⟨rfl, by unfold lowU rat_2; simp⟩⟩)
  clear s1 t1 l1 l1' hb1
  go_wp2_with fail
  refine hm.out.mono ?_; rintro e w2 ⟨rfl, hT, hS⟩
  have P := Lib.hid (And.intro hT ((TStep.of_below h'.out.plt B1.out).trans hS))
  clear hT hS
  go_wp2
  go_ret
  exact ⟨rfl, P.out.1, P.out.2⟩
def rat_0 : RatD := ⟨false, [], [1]⟩
set_option maxHeartbeats 2000000 in
theorem num_0 (B p : Nat) (T : TermD) (w : World) (h : TermX B p T w) (hs : SmT T) (hE : EnvT w) : Calls Tryz.prog 24 #[.pointer (some ⟨p, 0, none⟩), .int .i64 0] w fun e w' => IdPost B p T (makeD T 11 ⟨#[]⟩ rat_0 []) w e w' := by
  have ho := Lib.hid (of_0 w)
  have h' := Lib.hid h
  have hs' := Lib.hid hs
  have hE' := Lib.hid hE
  clear h hs hE
  go_enter Tryz.func24, Tryz.ntmps24
  go_wp2_with fail
  refine ho.out.mono ?_; rintro e w1 ⟨a1, c1, b1, d1, rfl, s1, t1, l1, l1', hb1⟩
  have B1 := Lib.hid hb1
  have hm := Lib.hid (make_any B p T 11 ⟨#[]⟩ rat_0 [] a1 b1 none c1 d1 0 w1 (h'.out.all hb1) hs'.out (hE'.out.all hb1) ⟨s1.mono fun _ _ hk => hk.1, t1.mono fun _ _ hk => hk.1, SlR.nil _ _ _ _, l1, l1', ⟨Nat.le_refl _, Nat.zero_le _⟩, by decide, by decide, ⟨by decide, by decide⟩, fun _ => ⟨rfl, by unfold lowU rat_0; simp⟩⟩)
  clear s1 t1 l1 l1' hb1
  go_wp2_with fail
  refine hm.out.mono ?_; rintro e w2 ⟨rfl, hT, hS⟩
  have P := Lib.hid (And.intro hT ((TStep.of_below h'.out.plt B1.out).trans hS))
  clear hT hS
  go_wp2
  go_ret
  exact ⟨rfl, P.out.1, P.out.2⟩
theorem app_args (w : World) (nm : ByteArray) (hn : nm.size ≤ 1000000) : MArgs w nm noRat [] 12 none none none 0 0 0 :=
  ⟨SlR.nil _ _ _ _, SlR.nil _ _ _ _, SlR.nil _ _ _ _, ⟨Nat.le_refl _, Nat.zero_le _⟩, ⟨Nat.le_refl _, Nat.zero_le _⟩, ⟨Nat.le_refl _, Nat.zero_le _⟩, by decide, hn, ⟨by decide, by decide⟩, fun e => by cases e⟩
set_option maxHeartbeats 2000000 in
theorem app_any (B p : Nat) (T : TermD) (nm : ByteArray) (w : World) (h : TermX B p T w) (hs : SmT T) (hE : EnvT w) (hn : nm.size ≤ 1000000) : Calls Tryz.prog 23 #[.pointer (some ⟨p, 0, none⟩), .string nm] w fun e w' => IdPost B p T (makeD T 12 nm noRat []) w e w' := by
  have hm := Lib.hid (make_any B p T 12 nm noRat [] none none none 0 0 0 w h hs hE (app_args w nm hn))
  clear h hs hE
  go_enter Tryz.func23, Tryz.ntmps23
  go_wp2_with fail
  refine hm.out.mono ?_; rintro e w2 ⟨rfl, hT, hS⟩
  have P := Lib.hid (And.intro hT hS)
  clear hT hS
  go_wp2
  go_ret
  exact ⟨rfl, P.out.1, P.out.2⟩
end Go.Proofs.YtikmkalfdiiahaaGreatDoor
