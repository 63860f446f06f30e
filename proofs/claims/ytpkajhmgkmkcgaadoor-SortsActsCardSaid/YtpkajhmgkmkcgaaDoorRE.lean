/-
  theodoliteref6.Sorts: Pop. Conditions: a table in memory of fewer than 2^40 entries, whose marks rise and lie within.
-/
import Derived.Test.YtpkajhmgkmkcgaaDoorRD
namespace Go.Proofs.YtpkajhmgkmkcgaaDoor
open Go.RowKit Go.Sort Go.Lib
variable {X : Nat → Prop}

theorem size_level (w : World) : (sizeOf 79).run Tryd.prog w = .ok 2 w := by kernel_rfl
def RPopPost (X : Nat → Prop) (B p : Nat) (T : TabD) (n : Int) (w : World) (e : Ending) (w' : World) : Prop :=
  e = .returned (.int .i64 (errPop T n)) ∧ RefX X B p (popT T n) w' ∧ PStep p w w'
theorem cell_set2 {W : World} {q y : Addr} {u v : Value} (h : W.cell? y = some u) (hne : q ≠ y) : (W.setCell q v).cell? y = some u := by
  rw [World.cell?_setCell_other _ _ _ _ hne]; exact h
theorem rpopDone {B p : Nat} {T : TabD} {w : World} {a1 a2 : Option Addr} {c1 c2 x1 x2 : Nat} {v3 : Value} (h : RefX X B p T w)
    (hb : w.heap[p]? = some (.cells #[.slice a1 T.sorts.length c1, .slice a2 T.funs.length c2, v3] 49 (0, 0)))
    (o1 : OwnR Rep.str (fun _ => False) w B 9 (.slice a1 T.sorts.length c1) T.sorts)
    (h1 : x1 ≤ T.sorts.length) (hc1 : T.sorts.length ≤ c1) (h2 : x2 ≤ T.funs.length) (hc2 : T.funs.length ≤ c2) :
    RefX X B p ⟨T.sorts.take x1, T.funs.take x2, T.marks⟩ ((w.setCell ⟨p, 0, none⟩ (.slice a1 x1 c1)).setCell ⟨p, 1, none⟩ (.slice a2 x2 c2)) ∧
    PStep p w ((w.setCell ⟨p, 0, none⟩ (.slice a1 x1 c1)).setCell ⟨p, 1, none⟩ (.slice a2 x2 c2)) := by
  obtain ⟨tA, sA⟩ := h.setSorts hb (grown_refl' _ _) (.inl (cutOwn (k := x1) (c' := c1))) (o1.cut h1 (Nat.le_trans h1 hc1) (Nat.le_refl _))
  have hA := set_block (i := 0) (v := .slice a1 x1 c1) hb
  obtain ⟨u1, u2, u3, e, _, p2, p3⟩ := tA.blk
  rw [hA] at e
  cases e
  obtain ⟨tB, sB⟩ := tA.setFuns hA (grown_refl' _ _) (.inl (cutOwn (k := x2) (c' := c2))) (p2.cut h2 (Nat.le_trans h2 hc2) (Nat.le_refl _))
  exact ⟨tB, sA.trans sB⟩
set_option maxRecDepth 100000 in
set_option maxHeartbeats 8000000 in
theorem rpop_any (B p : Nat) (T : TabD) (n : Int) (w : World) (h : RefX X B p T w) (hs : Small T) (hw : WfT T) (hn : okI n) :
    Calls Tryd.prog 22 #[.pointer (some ⟨p, 0, none⟩), .int .i64 n] w fun e w' => RPopPost X B p T n w e w' := by
  have h' := Lib.hid h
  have hplt := h.plt
  have hml := hs.m
  have hsl := hs.s
  have hfl := hs.f
  obtain ⟨a1, c1, a2, c2, a3, c3, hblk, o1, o2, o3⟩ := h.look
  have hC := show C3 p (.slice a1 T.sorts.length c1) (.slice a2 T.funs.length c2) (.slice a3 T.marks.length c3) w from ⟨cell_p hblk 0, cell_p hblk 1, cell_p hblk 2⟩
  by_cases h0 : n < 0
  · have hv := @Lib.hid (errPop T n = 1) (by unfold errPop; rw [if_pos h0])
    have ht := @Lib.hid (popT T n = T) (by unfold popT; rw [if_neg (by omega)])
    clear h hs hw hblk o1 o2 o3 hC
    go_enter Tryd.func22, Tryd.ntmps22
    go_wp2
    go_ret
    exact ⟨by rw [hv.out] <;> rfl, by rw [ht.out]; exact h'.out, PStep.refl _ _⟩
  by_cases h1 : (T.marks.length : Int) < n
  · have hv := @Lib.hid (errPop T n = 5) (by unfold errPop; rw [if_neg h0, if_pos h1])
    have ht := @Lib.hid (popT T n = T) (by unfold popT; rw [if_neg (by omega)])
    have k2 := hC.2.2
    clear h hs hw hblk o1 o2 o3 hC
    go_enter Tryd.func22, Tryd.ntmps22
    go_wp2
    go_ret
    exact ⟨by rw [hv.out] <;> rfl, by rw [ht.out]; exact h'.out, PStep.refl _ _⟩
  have hv := @Lib.hid (errPop T n = 0) (by unfold errPop; rw [if_neg h0, if_neg h1])
  by_cases h2 : n = 0
  · have ht := @Lib.hid (popT T n = T) (by unfold popT; rw [if_neg (by omega)])
    have k2 := hC.2.2
    clear h hs hw hblk o1 o2 o3 hC
    subst h2
    go_enter Tryd.func22, Tryd.ntmps22
    go_wp2
    go_ret
    exact ⟨by rw [hv.out] <;> rfl, by rw [ht.out]; exact h'.out, PStep.refl _ _⟩
  obtain ⟨m, rfl⟩ : ∃ m : Nat, n = m := ⟨n.toNat, by omega⟩
  obtain ⟨k, hk⟩ : ∃ k : Nat, k = T.marks.length - m := ⟨_, rfl⟩
  have hkl : k < T.marks.length := by omega
  have hkn : T.marks.length - (m : Int).toNat = k := by omega
  have ht := @Lib.hid (popT T m = ⟨T.sorts.take (markAt T k).1, T.funs.take (markAt T k).2, T.marks.take k⟩) (by unfold popT; rw [if_pos (by omega), hkn])
  obtain ⟨_, c1', e1, hc1, hc1'⟩ := o1.slice
  cases e1
  obtain ⟨_, c2', e2, hc2, hc2'⟩ := o2.slice
  cases e2
  obtain ⟨_, c3', e3, hc3, hc3'⟩ := o3.slice
  cases e3
  have hmk : T.marks.getD k (0, 0) = markAt T k := rfl
  obtain ⟨b, o, rfl, m1, m2⟩ := (o3.read (S' := fun _ => True) (fun _ _ _ => trivial) (fun _ _ => trivial)).markAt hkl
  have hmem : markAt T k ∈ T.marks := by
    have : T.marks.getD k (0, 0) = T.marks[k] := by simp [List.getD, hkl]
    rw [← hmk, this]; exact List.getElem_mem hkl
  obtain ⟨ht1, ht2⟩ := hw.top _ hmem
  rw [hmk] at m1 m2
  generalize hx1 : (markAt T k).1 = x1 at *
  generalize hx2 : (markAt T k).2 = x2 at *
  have hwk : IntKind.i64.wrap ((T.marks.length : Int) - m) = (k : Int) := by simp [IntKind.wrap, IntKind.bits, IntKind.signed]; omega
  have hk0 : (0 : Int) ≤ k := by omega
  have hk1 : (k : Int) < T.marks.length := by omega
  have hpos : ¬ (m : Int) = 0 := by omega
  have hC' := Lib.hid hC
  have hblk' := Lib.hid hblk
  have k2 := hC.2.2
  clear h hs hw hblk o1 o2 o3 hC hx1 hx2 hmk hkn hmem hk h2
  go_enter Tryd.func22, Tryd.ntmps22
  go_wp2
  refine wp_region_tt (S := fun W => C3 p (.slice a1 T.sorts.length c1) (.slice a2 T.funs.length c2) (.slice (some ⟨b, o, none⟩) T.marks.length c3) W ∧ W.cell? ⟨b, o + k * 2, none⟩ = some (.int .i64 x1) ∧ W.cell? ⟨b, o + k * 2 + 1, none⟩ = some (.int .i64 x2)) 14 (by kernel_rfl) (by kernel_rfl) ⟨hC'.out, m1, m2⟩ (fun hHeld => ?_)
  refine tt_take (i := 0) (v := _) (by rfl) (by decide +kernel) (by exact fun _ _ _ h => h) (Or.inl ⟨by rfl, by (intro W hSw; (try dsimp only at hSw); go_simp <;> with_reducible rfl)⟩) (by assumption) ?_
  (try simp only [Act.put, List.setIfInBounds_toArray, List.set_cons_zero, List.set_cons_succ])
  refine tt_take (i := 1) (v := _) (by rfl) (by decide +kernel) (by exact fun _ _ _ h => h) (Or.inl ⟨by rfl, by (intro W hSw; (try dsimp only at hSw); go_simp <;> with_reducible rfl)⟩) (by assumption) ?_
  (try simp only [Act.put, List.setIfInBounds_toArray, List.set_cons_zero, List.set_cons_succ])
  refine tt_take (i := 2) (v := _) (by rfl) (by decide +kernel) (by exact fun _ _ _ h => h) (Or.inl ⟨by rfl, by (intro W hSw; (try dsimp only at hSw); go_simp <;> with_reducible rfl)⟩) (by assumption) ?_
  (try simp only [Act.put, List.setIfInBounds_toArray, List.set_cons_zero, List.set_cons_succ])
  refine tt_take (i := 3) (v := _) (by rfl) (by decide +kernel) (by exact fun _ _ _ h => h) (Or.inl ⟨by rfl, by (intro W hSw; have hq1 := hSw.1.2.2; go_simp <;> with_reducible rfl)⟩) (by assumption) ?_
  (try simp only [Act.put, List.setIfInBounds_toArray, List.set_cons_zero, List.set_cons_succ])
  refine tt_take (i := 4) (v := _) (by rfl) (by decide +kernel) (by exact fun _ _ _ h => h) (Or.inl ⟨by rfl, by (intro W hSw; (try dsimp only at hSw); go_simp <;> with_reducible rfl)⟩) (by assumption) ?_
  (try simp only [Act.put, List.setIfInBounds_toArray, List.set_cons_zero, List.set_cons_succ])
  refine tt_take (i := 5) (v := _) (by rfl) (by decide +kernel) (by exact fun _ _ _ h => h) (Or.inl ⟨by rfl, by (intro W hSw; (try dsimp only at hSw); go_simp <;> with_reducible rfl)⟩) (by assumption) ?_
  (try simp only [Act.put, List.setIfInBounds_toArray, List.set_cons_zero, List.set_cons_succ])
  refine tt_take (i := 6) (v := _) (by rfl) (by decide +kernel) (by exact fun _ _ _ h => h) (Or.inl ⟨by rfl, by (intro W hSw; (try dsimp only at hSw); go_simp <;> with_reducible rfl)⟩) (by assumption) ?_
  (try simp only [Act.put, List.setIfInBounds_toArray, List.set_cons_zero, List.set_cons_succ])
  refine tt_take (i := 7) (v := _) (by rfl) (by decide +kernel) (by exact fun _ _ _ h => h) (Or.inl ⟨by rfl, by (intro W hSw; have hq1 := hSw.1.2.2; go_simp <;> with_reducible rfl)⟩) (by assumption) ?_
  (try simp only [Act.put, List.setIfInBounds_toArray, List.set_cons_zero, List.set_cons_succ])
  refine tt_take (i := 8) (v := _) (by rfl) (by decide +kernel) (by exact fun _ _ _ h => h) (Or.inl ⟨by rfl, by (intro W hSw; (try dsimp only at hSw); go_simp <;> with_reducible rfl)⟩) (by assumption) ?_
  (try simp only [Act.put, List.setIfInBounds_toArray, List.set_cons_zero, List.set_cons_succ])
  refine tt_take (i := 9) (v := _) (by rfl) (by decide +kernel) (by exact fun _ _ _ h => h) (Or.inl ⟨by rfl, by (intro W hSw; (try dsimp only at hSw); go_simp <;> with_reducible rfl)⟩) (by assumption) ?_
  (try simp only [Act.put, List.setIfInBounds_toArray, List.set_cons_zero, List.set_cons_succ])
  refine tt_take (i := 10) (v := _) (by rfl) (by decide +kernel) (by exact fun _ _ _ h => h) (Or.inl ⟨by rfl, by (intro W hSw; (try dsimp only at hSw); go_simp <;> with_reducible rfl)⟩) (by assumption) ?_
  (try simp only [Act.put, List.setIfInBounds_toArray, List.set_cons_zero, List.set_cons_succ])
  refine tt_take (i := 11) (v := _) (by rfl) (by decide +kernel) (by exact fun _ _ _ h => h) (Or.inl ⟨by rfl, by (intro W hSw; (try dsimp only at hSw); go_simp <;> with_reducible rfl)⟩) (by assumption) ?_
  (try simp only [Act.put, List.setIfInBounds_toArray, List.set_cons_zero, List.set_cons_succ])
  refine tt_take (i := 12) (v := _) (by rfl) (by decide +kernel) (by exact fun _ _ _ h => h) (Or.inl ⟨by rfl, by (intro W hSw; have hq1 := hSw.2.1; have hq2 := hSw.2.2; go_simp <;> with_reducible rfl)⟩) (by assumption) ?_
  (try simp only [Act.put, List.setIfInBounds_toArray, List.set_cons_zero, List.set_cons_succ])
  refine tt_ready (rs := [13]) (by decide +kernel) (allT_cons (by rfl) (fun K hK => ?_) allT_nil)
  go_simp
  refine hK.out _ _ (by (exact ⟨hHeld.1.alloc _, cell_more2 hHeld.2.1 _, cell_more2 hHeld.2.2 _⟩)) (fun hHeld2 => ?_)
  clear hK K
  (try simp only [Act.put, List.setIfInBounds_toArray, List.set_cons_zero, List.set_cons_succ])
  refine tt_tail (by decide +kernel) ?_
  simp only [List.drop_succ_cons, List.drop_zero]
  go_wp2
  have hB1 : Below w.heap.size w (w.alloc (.cells #[.int .i64 x1, .int .i64 x2] 79)).drew := ((Below.refl w.heap.size w).alloc (Nat.le_refl _) _).drewN 1
  have T1 := Lib.hid (h'.out.all hB1)
  have hb1 := (hB1.block p hplt).trans hblk'.out
  have n0 : ((w.alloc (.cells #[.int .i64 x1, .int .i64 x2] 79)).drew).cell? ⟨w.heap.size, 0, none⟩ = some (.int .i64 x1) := cell_p (heap_alloc_new w (.cells #[.int .i64 x1, .int .i64 x2] 79)) 0
  have n1 : ((w.alloc (.cells #[.int .i64 x1, .int .i64 x2] 79)).drew).cell? ⟨w.heap.size, 1, none⟩ = some (.int .i64 x2) := cell_p (heap_alloc_new w (.cells #[.int .i64 x1, .int .i64 x2] 79)) 1
  have hs1' := Lib.hid (PStep.of_below hplt hB1)
  have hpn : p ≠ w.heap.size := by omega
  clear hB1 m1 m2 k2 hC'
  generalize (w.alloc (.cells #[.int .i64 x1, .int .i64 x2] 79)).drew = w1 at *
  have hC1 : C3 p (.slice a1 T.sorts.length c1) (.slice a2 T.funs.length c2) (.slice (some ⟨b, o, none⟩) T.marks.length c3) w1 := ⟨cell_p hb1 0, cell_p hb1 1, cell_p hb1 2⟩
  have hb1' := Lib.hid hb1
  have g2 : w1.frozen? ⟨p, 2, none⟩ = false := frz_p hb1 2
  have r3 := run_take2 (P := Tryd.prog) (t := 47) (a := some ⟨b, o, none⟩) (k := k) Tryd.underlying47 size_level (Nat.le_of_lt hkl) hc3
  have k2w := hC1.2.2
  clear hb1
  refine wp_region_tt (S := C3 p (.slice a1 T.sorts.length c1) (.slice a2 T.funs.length c2) (.slice (some ⟨b, o, none⟩) T.marks.length c3)) 13 (by kernel_rfl) (by kernel_rfl) hC1 (fun hHeld => ?_)
  refine tt_take (i := 0) (v := _) (by rfl) (by decide +kernel) (by exact fun _ _ _ h => h) (Or.inl ⟨by rfl, by (intro W hSw; (try dsimp only at hSw); go_simp <;> with_reducible rfl)⟩) (by assumption) ?_
  (try simp only [Act.put, List.setIfInBounds_toArray, List.set_cons_zero, List.set_cons_succ])
  refine tt_take (i := 1) (v := _) (by rfl) (by decide +kernel) (by exact fun _ _ _ h => h) (Or.inl ⟨by rfl, by (intro W hSw; (try dsimp only at hSw); go_simp <;> with_reducible rfl)⟩) (by assumption) ?_
  (try simp only [Act.put, List.setIfInBounds_toArray, List.set_cons_zero, List.set_cons_succ])
  refine tt_take (i := 2) (v := _) (by rfl) (by decide +kernel) (by exact fun _ _ _ h => h) (Or.inl ⟨by rfl, by (intro W hSw; (try dsimp only at hSw); go_simp <;> with_reducible rfl)⟩) (by assumption) ?_
  (try simp only [Act.put, List.setIfInBounds_toArray, List.set_cons_zero, List.set_cons_succ])
  refine tt_take (i := 3) (v := _) (by rfl) (by decide +kernel) (by exact fun _ _ _ h => h) (Or.inl ⟨by rfl, by (intro W hSw; (try dsimp only at hSw); go_simp <;> with_reducible rfl)⟩) (by assumption) ?_
  (try simp only [Act.put, List.setIfInBounds_toArray, List.set_cons_zero, List.set_cons_succ])
  refine tt_take (i := 4) (v := _) (by rfl) (by decide +kernel) (by exact fun _ _ _ h => h) (Or.inl ⟨by rfl, by (intro W hSw; have hq1 := hSw.2.2; go_simp <;> with_reducible rfl)⟩) (by assumption) ?_
  (try simp only [Act.put, List.setIfInBounds_toArray, List.set_cons_zero, List.set_cons_succ])
  refine tt_take (i := 5) (v := _) (by rfl) (by decide +kernel) (by exact fun _ _ _ h => h) (Or.inl ⟨by rfl, by (intro W hSw; (try dsimp only at hSw); go_simp <;> with_reducible rfl)⟩) (by assumption) ?_
  (try simp only [Act.put, List.setIfInBounds_toArray, List.set_cons_zero, List.set_cons_succ])
  refine tt_take (i := 6) (v := _) (by rfl) (by decide +kernel) (by exact fun _ _ _ h => h) (Or.inl ⟨by rfl, by (intro W hSw; (try dsimp only at hSw); go_simp <;> with_reducible rfl)⟩) (by assumption) ?_
  (try simp only [Act.put, List.setIfInBounds_toArray, List.set_cons_zero, List.set_cons_succ])
  refine tt_take (i := 7) (v := _) (by rfl) (by decide +kernel) (by exact fun _ _ _ h => h) (Or.inl ⟨by rfl, by (intro W hSw; (try dsimp only at hSw); go_simp <;> with_reducible rfl)⟩) (by assumption) ?_
  (try simp only [Act.put, List.setIfInBounds_toArray, List.set_cons_zero, List.set_cons_succ])
  refine tt_take (i := 8) (v := _) (by rfl) (by decide +kernel) (by exact fun _ _ _ h => h) (Or.inl ⟨by rfl, by (intro W hSw; have hq1 := hSw.2.2; go_simp <;> with_reducible rfl)⟩) (by assumption) ?_
  (try simp only [Act.put, List.setIfInBounds_toArray, List.set_cons_zero, List.set_cons_succ])
  refine tt_take (i := 9) (v := _) (by rfl) (by decide +kernel) (by exact fun _ _ _ h => h) (Or.inl ⟨by rfl, by (intro W hSw; (try dsimp only at hSw); go_simp <;> with_reducible rfl)⟩) (by assumption) ?_
  (try simp only [Act.put, List.setIfInBounds_toArray, List.set_cons_zero, List.set_cons_succ])
  refine tt_take (i := 10) (v := _) (by rfl) (by decide +kernel) (by exact fun _ _ _ h => h) (Or.inl ⟨by rfl, by (intro W hSw; (try dsimp only at hSw); go_simp <;> with_reducible rfl)⟩) (by assumption) ?_
  (try simp only [Act.put, List.setIfInBounds_toArray, List.set_cons_zero, List.set_cons_succ])
  refine tt_take (i := 11) (v := _) (by rfl) (by decide +kernel) (by exact fun _ _ _ h => h) (Or.inl ⟨by rfl, by (intro W hSw; (try dsimp only at hSw); go_simp <;> with_reducible rfl)⟩) (by assumption) ?_
  (try simp only [Act.put, List.setIfInBounds_toArray, List.set_cons_zero, List.set_cons_succ])
  refine tt_take (i := 12) (v := _) (by rfl) (by decide +kernel) (by exact fun _ _ _ h => h) (Or.inl ⟨by rfl, by (intro W hSw; (try dsimp only at hSw); go_simp <;> with_reducible rfl)⟩) (by assumption) ?_
  (try simp only [Act.put, List.setIfInBounds_toArray, List.set_cons_zero, List.set_cons_succ])
  refine tt_tail (by decide +kernel) ?_
  simp only [List.drop_succ_cons, List.drop_zero]
  go_wp2
  obtain ⟨u1, u2, u3, e, q1, q2, q3⟩ := T1.out.blk
  rw [hb1'.out] at e
  cases e
  obtain ⟨t2, s2⟩ := T1.out.setMarks hb1'.out (grown_refl' _ _) (.inl (cutOwn (k := k) (c' := c3))) (q3.cut (Nat.le_of_lt hkl) (Nat.le_trans (Nat.le_of_lt hkl) hc3) (Nat.le_refl _))
  have T2 := Lib.hid (show RefX X B p { T with marks := T.marks.take k } (w1.setCell ⟨p, 2, none⟩ (.slice (some ⟨b, o, none⟩) k c3)).drew from t2.drewN 1)
  have S2 := Lib.hid s2.drew
  have blk2 := Lib.hid (show (w1.setCell ⟨p, 2, none⟩ (.slice (some ⟨b, o, none⟩) k c3)).drew.heap[p]? = _ from set_block (i := 2) (v := .slice (some ⟨b, o, none⟩) k c3) hb1'.out)
  obtain ⟨u1, u2, u3, e, q4, q5, q6⟩ := T2.out.blk
  rw [blk2.out] at e
  cases e
  have O1b := Lib.hid q4
  have e0 : (w1.setCell ⟨p, 2, none⟩ (.slice (some ⟨b, o, none⟩) k c3)).drew.cell? ⟨p, 0, none⟩ = some (.slice a1 T.sorts.length c1) := cell_p blk2.out 0
  have e1 : (w1.setCell ⟨p, 2, none⟩ (.slice (some ⟨b, o, none⟩) k c3)).drew.cell? ⟨p, 1, none⟩ = some (.slice a2 T.funs.length c2) := cell_p blk2.out 1
  have e2 : (w1.setCell ⟨p, 2, none⟩ (.slice (some ⟨b, o, none⟩) k c3)).drew.cell? ⟨w.heap.size, 0, none⟩ = some (.int .i64 x1) := by show (w1.setCell _ _).cell? _ = _; rw [World.cell?_setCell_other _ _ _ _ (by simp)]; exact n0
  have e3 : (w1.setCell ⟨p, 2, none⟩ (.slice (some ⟨b, o, none⟩) k c3)).drew.cell? ⟨w.heap.size, 1, none⟩ = some (.int .i64 x2) := by show (w1.setCell _ _).cell? _ = _; rw [World.cell?_setCell_other _ _ _ _ (by simp)]; exact n1
  have f0 := frz_p blk2.out 0
  have f1 := frz_p blk2.out 1
  clear q1 q2 q3 q4 q5 q6 t2 s2 n0 n1 hC1 hHeld hb1'
  generalize (w1.setCell ⟨p, 2, none⟩ (.slice (some ⟨b, o, none⟩) k c3)).drew = w2 at *
  have r1 := run_take2 (P := Tryd.prog) (t := 46) (a := a1) Tryd.underlying46 size_str ht1 hc1
  have r2 := run_take2 (P := Tryd.prog) (t := 39) (a := a2) Tryd.underlying39 size_fun ht2 hc2
  refine wp_region_tt (S := fun W => W.cell? ⟨p, 1, none⟩ = some (.slice a2 T.funs.length c2) ∧ W.cell? ⟨w.heap.size, 0, none⟩ = some (.int .i64 x1) ∧ W.cell? ⟨w.heap.size, 1, none⟩ = some (.int .i64 x2)) 19 (by kernel_rfl) (by kernel_rfl) ⟨e1, e2, e3⟩ (fun hHeld => ?_)
  refine tt_take (i := 0) (v := _) (by rfl) (by decide +kernel) (by exact fun _ _ _ h => h) (Or.inl ⟨by rfl, by (intro W hSw; (try dsimp only at hSw); go_simp <;> with_reducible rfl)⟩) (by assumption) ?_
  (try simp only [Act.put, List.setIfInBounds_toArray, List.set_cons_zero, List.set_cons_succ])
  refine tt_take (i := 1) (v := _) (by rfl) (by decide +kernel) (by exact fun _ _ _ h => h) (Or.inl ⟨by rfl, by (intro W hSw; (try dsimp only at hSw); go_simp <;> with_reducible rfl)⟩) (by assumption) ?_
  (try simp only [Act.put, List.setIfInBounds_toArray, List.set_cons_zero, List.set_cons_succ])
  refine tt_take (i := 2) (v := _) (by rfl) (by decide +kernel) (by exact fun _ _ _ h => h) (Or.inl ⟨by rfl, by (intro W hSw; (try dsimp only at hSw); go_simp <;> with_reducible rfl)⟩) (by assumption) ?_
  (try simp only [Act.put, List.setIfInBounds_toArray, List.set_cons_zero, List.set_cons_succ])
  refine tt_take (i := 3) (v := _) (by rfl) (by decide +kernel) (by exact fun _ _ _ h => h) (Or.inl ⟨by rfl, by (intro W hSw; (try dsimp only at hSw); go_simp <;> with_reducible rfl)⟩) (by assumption) ?_
  (try simp only [Act.put, List.setIfInBounds_toArray, List.set_cons_zero, List.set_cons_succ])
  refine tt_take (i := 4) (v := _) (by rfl) (by decide +kernel) (by exact fun _ _ _ h => h) (Or.inl ⟨by rfl, by (intro W hSw; (try dsimp only at hSw); go_simp <;> with_reducible rfl)⟩) (by assumption) ?_
  (try simp only [Act.put, List.setIfInBounds_toArray, List.set_cons_zero, List.set_cons_succ])
  refine tt_take (i := 6) (v := _) (by rfl) (by decide +kernel) (by exact fun _ _ _ h => h) (Or.inl ⟨by rfl, by (intro W hSw; (try dsimp only at hSw); go_simp <;> with_reducible rfl)⟩) (by assumption) ?_
  (try simp only [Act.put, List.setIfInBounds_toArray, List.set_cons_zero, List.set_cons_succ])
  refine tt_take (i := 7) (v := _) (by rfl) (by decide +kernel) (by exact fun _ _ _ h => h) (Or.inl ⟨by rfl, by (intro W hSw; have hq1 := hSw.2.1; go_simp <;> with_reducible rfl)⟩) (by assumption) ?_
  (try simp only [Act.put, List.setIfInBounds_toArray, List.set_cons_zero, List.set_cons_succ])
  refine tt_take (i := 9) (v := _) (by rfl) (by decide +kernel) (by exact fun _ _ _ h => h) (Or.inl ⟨by rfl, by (intro W hSw; (try dsimp only at hSw); go_simp <;> with_reducible rfl)⟩) (by assumption) ?_
  (try simp only [Act.put, List.setIfInBounds_toArray, List.set_cons_zero, List.set_cons_succ])
  refine tt_take (i := 10) (v := _) (by rfl) (by decide +kernel) (by exact fun _ _ _ h => h) (Or.inl ⟨by rfl, by (intro W hSw; (try dsimp only at hSw); go_simp <;> with_reducible rfl)⟩) (by assumption) ?_
  (try simp only [Act.put, List.setIfInBounds_toArray, List.set_cons_zero, List.set_cons_succ])
  refine tt_take (i := 11) (v := _) (by rfl) (by decide +kernel) (by exact fun _ _ _ h => h) (Or.inl ⟨by rfl, by (intro W hSw; (try dsimp only at hSw); go_simp <;> with_reducible rfl)⟩) (by assumption) ?_
  (try simp only [Act.put, List.setIfInBounds_toArray, List.set_cons_zero, List.set_cons_succ])
  refine tt_take (i := 12) (v := _) (by rfl) (by decide +kernel) (by exact fun _ _ _ h => h) (Or.inl ⟨by rfl, by (intro W hSw; have hq1 := hSw.1; go_simp <;> with_reducible rfl)⟩) (by assumption) ?_
  (try simp only [Act.put, List.setIfInBounds_toArray, List.set_cons_zero, List.set_cons_succ])
  refine tt_take (i := 13) (v := _) (by rfl) (by decide +kernel) (by exact fun _ _ _ h => h) (Or.inl ⟨by rfl, by (intro W hSw; (try dsimp only at hSw); go_simp <;> with_reducible rfl)⟩) (by assumption) ?_
  (try simp only [Act.put, List.setIfInBounds_toArray, List.set_cons_zero, List.set_cons_succ])
  refine tt_take (i := 14) (v := _) (by rfl) (by decide +kernel) (by exact fun _ _ _ h => h) (Or.inl ⟨by rfl, by (intro W hSw; have hq1 := hSw.2.2; go_simp <;> with_reducible rfl)⟩) (by assumption) ?_
  (try simp only [Act.put, List.setIfInBounds_toArray, List.set_cons_zero, List.set_cons_succ])
  refine tt_take (i := 15) (v := _) (by rfl) (by decide +kernel) (by exact fun _ _ _ h => h) (Or.inl ⟨by rfl, by (intro W hSw; (try dsimp only at hSw); go_simp <;> with_reducible rfl)⟩) (by assumption) ?_
  (try simp only [Act.put, List.setIfInBounds_toArray, List.set_cons_zero, List.set_cons_succ])
  refine tt_ready (rs := [5]) (by decide +kernel) (allT_cons (by rfl) (fun K hK => ?_) allT_nil)
  go_simp
  refine hK.out _ _ (by (assumption)) (fun hHeld2 => ?_)
  clear hK K
  (try simp only [Act.put, List.setIfInBounds_toArray, List.set_cons_zero, List.set_cons_succ])
  refine tt_take (i := 8) (v := _) (by rfl) (by decide +kernel) (by exact fun _ _ _ h => h) (Or.inl ⟨by rfl, by (intro W hSw; (try dsimp only at hSw); go_simp <;> with_reducible rfl)⟩) (by assumption) ?_
  (try simp only [Act.put, List.setIfInBounds_toArray, List.set_cons_zero, List.set_cons_succ])
  refine tt_take (i := 16) (v := _) (by rfl) (by decide +kernel) (by exact fun _ _ _ h => h) (Or.inl ⟨by rfl, by (intro W hSw; (try dsimp only at hSw); go_simp <;> with_reducible rfl)⟩) (by assumption) ?_
  (try simp only [Act.put, List.setIfInBounds_toArray, List.set_cons_zero, List.set_cons_succ])
  refine tt_take (i := 17) (v := _) (by rfl) (by decide +kernel) (by exact fun _ _ _ h => h) (Or.inl ⟨by rfl, by (intro W hSw; (try dsimp only at hSw); go_simp <;> with_reducible rfl)⟩) (by assumption) ?_
  (try simp only [Act.put, List.setIfInBounds_toArray, List.set_cons_zero, List.set_cons_succ])
  refine tt_ready (rs := [18]) (by decide +kernel) (allT_cons (by rfl) (fun K hK => ?_) allT_nil)
  go_simp
  refine hK.out _ _ (by (exact ⟨cell_set2 e1 (by simp), cell_set2 e2 (by simp), cell_set2 e3 (by simp)⟩)) (fun hHeld3 => ?_)
  clear hK K
  (try simp only [Act.put, List.setIfInBounds_toArray, List.set_cons_zero, List.set_cons_succ])
  refine tt_tail (by decide +kernel) ?_
  simp only [List.drop_succ_cons, List.drop_zero]
  go_wp2
  go_ret
  obtain ⟨t9, s9⟩ := rpopDone T2.out blk2.out O1b.out ht1 hc1 ht2 hc2
  refine ⟨by rw [hv.out] <;> rfl, ?_, (hs1'.out.trans S2.out).trans s9.drew⟩
  rw [ht.out]
  exact t9.drewN 1
end Go.Proofs.YtpkajhmgkmkcgaaDoor
