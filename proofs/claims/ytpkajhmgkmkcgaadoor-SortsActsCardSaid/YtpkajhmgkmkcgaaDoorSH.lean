/-
  sorts: Pop. Conditions: a table in memory of fewer than 2^40 entries, whose marks rise and lie within.
-/
import Derived.Test.YtpkajhmgkmkcgaaDoorSG
import Derived.BigRegion
namespace Go.Proofs.YtpkajhmgkmkcgaaDoor
open Go.RowKit Go.Sort Go.Lib
variable {X : Nat → Prop}

/-- 'v[:k:k]', 'v[:k]' -/
theorem run_cut3 {P : Program} {t e : TypeId} {a : Option Addr} {n c k s : Nat} (ht : P.underlying t = some (.slice e)) (hsz : ∀ w, (sizeOf e).run P w = .ok s w) (hk : k ≤ n) (hc : n ≤ c) (W : World) :
    (Instr.slice t (.slice a n c) none (some (.int .i64 k)) (some (.int .i64 k))).run P W = .ok (.slice a k k) W := by
  have e0 : (if k = 0 then a else a.map (·.add (0 * s))) = a := by
    split
    · rfl
    · cases a <;> simp [Addr.add]
  simp only [Nat.zero_mul] at e0
  have hkc : k ≤ c := by omega
  simp [Instr.slice, Instr.sliceBounds, Instr.sliceBound, run_underlying ht, hsz, hkc, asIntOf]
  simpa using e0
theorem run_cut2 {P : Program} {t e : TypeId} {a : Option Addr} {n c k s : Nat} (ht : P.underlying t = some (.slice e)) (hsz : ∀ w, (sizeOf e).run P w = .ok s w) (hk : k ≤ n) (hc : n ≤ c) (W : World) :
    (Instr.slice t (.slice a n c) none (some (.int .i64 k)) none).run P W = .ok (.slice a k c) W := by
  have e0 : (if c = 0 then a else a.map (·.add (0 * s))) = a := by
    split
    · rfl
    · cases a <;> simp [Addr.add]
  simp only [Nat.zero_mul] at e0
  have hkc : k ≤ c := by omega
  simp [Instr.slice, Instr.sliceBounds, Instr.sliceBound, run_underlying ht, hsz, hkc, asIntOf]
  simpa using e0
theorem size_str (w : World) : (sizeOf 9).run Tryd.prog w = .ok 1 w := by kernel_rfl
theorem size_fun (w : World) : (sizeOf 32).run Tryd.prog w = .ok 3 w := by kernel_rfl
theorem size_mark (w : World) : (sizeOf 77).run Tryd.prog w = .ok 2 w := by kernel_rfl

structure WfT (T : TabD) : Prop where
  mono : T.marks.Pairwise fun a b => a.1 ≤ b.1 ∧ a.2 ≤ b.2
  top : ∀ m ∈ T.marks, m.1 ≤ T.sorts.length ∧ m.2 ≤ T.funs.length
def errPop (T : TabD) (n : Int) : Int := if n < 0 then 1 else if (T.marks.length : Int) < n then 5 else 0
def markAt (T : TabD) (k : Nat) : Nat × Nat := T.marks.getD k (0, 0)
def popT (T : TabD) (n : Int) : TabD :=
  if 0 < n ∧ n ≤ (T.marks.length : Int) then ⟨T.sorts.take (markAt T (T.marks.length - n.toNat)).1, T.funs.take (markAt T (T.marks.length - n.toNat)).2, T.marks.take (T.marks.length - n.toNat)⟩ else T
def PopPost (X : Nat → Prop) (B p : Nat) (T : TabD) (n : Int) (w : World) (e : Ending) (w' : World) : Prop :=
  e = .returned (.int .i64 (errPop T n)) ∧ TabX X B p (popT T n) w' ∧ PStep p w w'
theorem SlR.markAt {S : Nat → Prop} {w : World} {a : Option Addr} {n : Nat} {ms : List (Nat × Nat)} (h : SlR repM S w a n ms) {k : Nat} (hk : k < n) :
    ∃ b o, a = some ⟨b, o, none⟩ ∧ w.cell? ⟨b, o + k * 2, none⟩ = some (.int .i64 (ms.getD k (0, 0)).1) ∧ w.cell? ⟨b, o + k * 2 + 1, none⟩ = some (.int .i64 (ms.getD k (0, 0)).2) := by
  have hkl : k < ms.length := by rw [h.1]; exact hk
  obtain ⟨b, o, cs, ha, _, hr, hc⟩ := h.at (List.getElem?_eq_getElem hkl)
  obtain ⟨rfl, _⟩ := repM_rd.1 hr
  rw [repM_k] at hc
  have e : ms.getD k (0, 0) = ms[k] := by simp [List.getD, hkl]
  rw [e]
  exact ⟨b, o, ha, hc 0 _ rfl, hc 1 _ rfl⟩
theorem grown_refl' (w : World) (row : Option Nat) : w.grownBy w row := ⟨rfl, rfl, rfl, Nat.le_refl _, fun _ _ _ => rfl⟩
theorem cutOwn {a : Option Addr} {n k c c' : Nat} : Value.ownBlock (.slice a k c') = Value.ownBlock (.slice a n c) := by cases a <;> rfl
theorem set_block {w : World} {p i : Nat} {cs : Array Value} {t : TypeId} {f : Nat × Nat} {v : Value} (hb : w.heap[p]? = some (.cells cs t f)) : (w.setCell ⟨p, i, none⟩ v).heap[p]? = some (.cells (cs.setIfInBounds i v) t f) := by
  unfold World.setCell
  rw [Array.getElem?_modify, if_pos rfl, hb]
  rfl
section
variable {P : Program} {ops : Array Oper} {Q : Exit → Act → World → Prop} {md : Region.Mode} {S : World → Prop} {fuel : Nat} {listed : Array Bool} {a : Act} {w : World}
/-- a step that is taken first, the operation read off the list -/
theorem takeL {i : Nat} {oi : Oper} {v : Value} (hi : ops.toList[i]? = some oi) (hr : (Region.ready md ops listed).contains i = true) (hs : Region.noSelect ops = true) (hf : Region.free md ops listed i = true)
    (hQ : ∀ c a w, Q (.panic c) (a.put oi.dst v) w → Q (.panic c) a w) (hy : YieldsIf P ops S oi v a) (hS : S w)
    (h : wpAnyH P md ops Q S fuel (listed.setIfInBounds i true) (a.put oi.dst v) w) : wpAnyH P md ops Q S (fuel + 1) listed a w :=
  wpAnyH_take (by simpa using hi) hs hf hr hQ hy hS h
theorem consL {i : Nat} {o : Oper} {rs : List Nat} (ho : ops.toList[i]? = some o)
    (h : ∀ K' : Act → World → Prop, Shut (∀ a w, S w → (S w → wpAnyH P md ops Q S fuel (listed.setIfInBounds i true) a w) → K' a w) → if Region.wanted o (yielded ops a.tmps) = true then Oper.wp P o a w K' Q else K' (a.put o.dst undef) w)
    (hs : AllReadyH P md ops Q S fuel listed a w rs) : AllReadyH P md ops Q S fuel listed a w (i :: rs) := AllReadyH.cons (by simpa using ho) h hs
end
theorem popDone {B p : Nat} {T : TabD} {w : World} {a1 a2 a3 : Option Addr} {c1 c2 c3 x1 x2 k : Nat} (h : TabX X B p T w)
    (hb : w.heap[p]? = some (.cells #[.slice a1 T.sorts.length c1, .slice a2 T.funs.length c2, .slice a3 T.marks.length c3] 67 (0, 0)))
    (o1 : OwnR Rep.str (fun _ => False) w B 9 (.slice a1 T.sorts.length c1) T.sorts) (_o2 : OwnR repF (IntX X w) w B 32 (.slice a2 T.funs.length c2) T.funs) (_o3 : OwnR repM (fun _ => False) w B 77 (.slice a3 T.marks.length c3) T.marks)
    (h1 : x1 ≤ T.sorts.length) (hc1 : T.sorts.length ≤ c1) (h2 : x2 ≤ T.funs.length) (hc2 : T.funs.length ≤ c2) (h3 : k ≤ T.marks.length) (hc3 : T.marks.length ≤ c3) :
    TabX X B p ⟨T.sorts.take x1, T.funs.take x2, T.marks.take k⟩ (((w.setCell ⟨p, 0, none⟩ (.slice a1 x1 x1)).setCell ⟨p, 1, none⟩ (.slice a2 x2 x2)).setCell ⟨p, 2, none⟩ (.slice a3 k c3)).drew ∧
    PStep p w (((w.setCell ⟨p, 0, none⟩ (.slice a1 x1 x1)).setCell ⟨p, 1, none⟩ (.slice a2 x2 x2)).setCell ⟨p, 2, none⟩ (.slice a3 k c3)).drew := by
  obtain ⟨tA, sA⟩ := h.setSorts hb (grown_refl' _ _) (.inl (cutOwn (k := x1) (c' := x1))) (o1.cut h1 (Nat.le_refl _) (Nat.le_trans h1 hc1))
  have hA := set_block (i := 0) (v := .slice a1 x1 x1) hb
  obtain ⟨u1, u2, u3, e, _, p2, p3⟩ := tA.blk
  rw [hA] at e
  cases e
  obtain ⟨tB, sB⟩ := tA.setFuns hA (grown_refl' _ _) (.inl (cutOwn (k := x2) (c' := x2))) (p2.cut h2 (Nat.le_refl _) (Nat.le_trans h2 hc2))
  have hB := set_block (i := 1) (v := .slice a2 x2 x2) hA
  obtain ⟨u1, u2, u3, e, _, _, p3⟩ := tB.blk
  rw [hB] at e
  cases e
  obtain ⟨tC, sC⟩ := tB.setMarks hB (grown_refl' _ _) (.inl (cutOwn (k := k) (c' := c3))) (p3.cut h3 (Nat.le_trans h3 hc3) (Nat.le_refl _))
  exact ⟨tC.drewN 1, ((sA.trans sB).trans sC).drew⟩
theorem pop_nil (n : Int) (w : World) (h0 : 0 < n) : Calls Tryd.prog 21 #[.pointer none, .int .i64 n] w fun e w' => e = .returned (.int .i64 5) ∧ w = w' := by
  have h1 : decide (n < 0) = false := by simp; omega
  go_enter Tryd.func21, Tryd.ntmps21
  go_wp2_with fail
  refine (levels_nil _).mono ?_; rintro e w' ⟨rfl, rfl⟩
  go_wp2
  go_ret
  exact ⟨rfl, rfl⟩
set_option maxRecDepth 100000 in
set_option maxHeartbeats 8000000 in
theorem pop_any (B p : Nat) (T : TabD) (n : Int) (w : World) (h : TabX X B p T w) (hs : Small T) (hw : WfT T) (hn : okI n) :
    Calls Tryd.prog 21 #[.pointer (some ⟨p, 0, none⟩), .int .i64 n] w fun e w' => PopPost X B p T n w e w' := by
  have h' := Lib.hid h
  have hlv := Lib.hid (levels_any B p T w h)
  have hplt := h.plt
  have hml := hs.m
  have hsl := hs.s
  have hfl := hs.f
  by_cases h0 : n < 0
  · have hv := @Lib.hid (errPop T n = 1) (by unfold errPop; rw [if_pos h0])
    have ht := @Lib.hid (popT T n = T) (by unfold popT; rw [if_neg (by omega)])
    clear h hs hw
    go_enter Tryd.func21, Tryd.ntmps21
    go_wp2
    go_ret
    exact ⟨by rw [hv.out] <;> rfl, by rw [ht.out]; exact h'.out, PStep.refl _ _⟩
  by_cases h1 : (T.marks.length : Int) < n
  · have hv := @Lib.hid (errPop T n = 5) (by unfold errPop; rw [if_neg h0, if_pos h1])
    have ht := @Lib.hid (popT T n = T) (by unfold popT; rw [if_neg (by omega)])
    clear h hs hw
    go_enter Tryd.func21, Tryd.ntmps21
    go_wp2_with fail
    refine hlv.out.mono ?_; rintro e w' ⟨rfl, rfl⟩
    go_wp2
    go_ret
    exact ⟨by rw [hv.out] <;> rfl, by rw [ht.out]; exact h'.out, PStep.refl _ _⟩
  have hv := @Lib.hid (errPop T n = 0) (by unfold errPop; rw [if_neg h0, if_neg h1])
  by_cases h2 : n = 0
  · have ht := @Lib.hid (popT T n = T) (by unfold popT; rw [if_neg (by omega)])
    clear h hs hw
    subst h2
    go_enter Tryd.func21, Tryd.ntmps21
    go_wp2_with fail
    refine hlv.out.mono ?_; rintro e w' ⟨rfl, rfl⟩
    go_wp2
    go_ret
    exact ⟨by rw [hv.out] <;> rfl, by rw [ht.out]; exact h'.out, PStep.refl _ _⟩
  obtain ⟨m, rfl⟩ : ∃ m : Nat, n = m := ⟨n.toNat, by omega⟩
  obtain ⟨k, hk⟩ : ∃ k : Nat, k = T.marks.length - m := ⟨_, rfl⟩
  have hkl : k < T.marks.length := by omega
  have hkn : T.marks.length - (m : Int).toNat = k := by omega
  have hki : (T.marks.length : Int) - m = k := by omega
  have ht := @Lib.hid (popT T m = ⟨T.sorts.take (markAt T k).1, T.funs.take (markAt T k).2, T.marks.take k⟩) (by unfold popT; rw [if_pos (by omega), hkn])
  obtain ⟨a1, c1, a2, c2, a3, c3, hblk, o1, o2, o3⟩ := h.look
  have q0 : w.cell? ⟨p, 0, none⟩ = some (.slice a1 T.sorts.length c1) := cell_p hblk 0
  have q1 : w.cell? ⟨p, 1, none⟩ = some (.slice a2 T.funs.length c2) := cell_p hblk 1
  have q2 : w.cell? ⟨p, 2, none⟩ = some (.slice a3 T.marks.length c3) := cell_p hblk 2
  have g0 := frz_p hblk 0
  have g1 := frz_p hblk 1
  have g2 := frz_p hblk 2
  obtain ⟨_, c1', e1, hc1, hc1'⟩ := o1.slice
  cases e1
  obtain ⟨_, c2', e2, hc2, hc2'⟩ := o2.slice
  cases e2
  obtain ⟨_, c3', e3, hc3, hc3'⟩ := o3.slice
  cases e3
  have hmk : T.marks.getD k (0, 0) = markAt T k := rfl
  obtain ⟨b, o, rfl, m1, m2⟩ := (o3.read (S' := fun _ => True) (fun _ _ _ => trivial) (fun _ _ => trivial)).markAt hkl
  have hmem : markAt T k ∈ T.marks := by
    have : T.marks.getD k (0, 0) = T.marks[k] := by simp [List.getD, hkl]
    rw [← hmk, this]; exact List.getElem_mem hkl
  obtain ⟨ht1, ht2⟩ := hw.top _ hmem
  rw [hmk] at m1 m2
  generalize hx1 : (markAt T k).1 = x1 at *
  generalize hx2 : (markAt T k).2 = x2 at *
  have hblk' := Lib.hid hblk
  have O1 := Lib.hid o1
  have O2 := Lib.hid o2
  have O3 := Lib.hid o3
  have r1 := run_cut3 (P := Tryd.prog) (t := 46) (a := a1) Tryd.underlying46 size_str ht1 hc1
  have r2 := run_cut3 (P := Tryd.prog) (t := 39) (a := a2) Tryd.underlying39 size_fun ht2 hc2
  have r3 := run_cut2 (P := Tryd.prog) (t := 65) (a := some ⟨b, o, none⟩) Tryd.underlying65 size_mark (Nat.le_of_lt hkl) hc3
  rw [← hki] at r3
  have m3 : w.cell? ⟨b, o + ((T.marks.length : Int) - m).toNat * 2, none⟩ = some (.int .i64 x1) := by rw [hki]; exact m1
  have m4 : w.cell? ⟨b, o + ((T.marks.length : Int) - m).toNat * 2 + 1, none⟩ = some (.int .i64 x2) := by rw [hki]; exact m2
  rw [hk] at m1 m2
  have b1 : 0 ≤ (T.marks.length : Int) - m := by omega
  have b2 : (T.marks.length : Int) - m < T.marks.length := by omega
  have hpos : 0 < m := by omega
  have hle : m ≤ T.marks.length := by omega
  have hk' := Lib.hid hk
  clear h hs hw hblk o1 o2 o3 hx1 hx2 hmk hkn hmem hk hki
  go_enter Tryd.func21, Tryd.ntmps21
  go_wp2_with fail
  refine hlv.out.mono ?_; rintro e w' ⟨rfl, rfl⟩
  go_wp2
  have hB1 : Below w.heap.size w (w.alloc (.cells #[.int .i64 x1, .int .i64 x2] 77)) := (Below.refl _ _).alloc (Nat.le_refl _) _
  have T1 := Lib.hid (h'.out.all hB1)
  have O1' := Lib.hid (O1.out.below hB1 (Nat.le_refl _))
  have O2' := Lib.hid (O2.out.allI hB1)
  have O3' := Lib.hid (O3.out.below hB1 (Nat.le_refl _))
  have hb1 := (hB1.block p hplt).trans hblk'.out
  have s0 := cell_p hb1 0
  have s1 := cell_p hb1 1
  have s2 := cell_p hb1 2
  have u0 := frz_p hb1 0
  have u1 := frz_p hb1 1
  have u2 := frz_p hb1 2
  have hne := World.new_ne w
  have n0 := cell_p (heap_alloc_new w (.cells #[.int .i64 x1, .int .i64 x2] 77)) 0
  have n1 := cell_p (heap_alloc_new w (.cells #[.int .i64 x1, .int .i64 x2] 77)) 1
  have hb1' := Lib.hid hb1
  have hs1' := Lib.hid (PStep.of_below hplt hB1)
  have hpn : p ≠ w.heap.size := by omega
  have hpn2 : w.heap.size ≠ p := by omega
  simp only [List.getElem?_toArray, List.getElem?_cons_succ, List.getElem?_cons_zero] at s0 s1 s2 n0 n1
  clear hB1 hb1 hne
  generalize w.alloc (.cells #[.int .i64 x1, .int .i64 x2] 77) = w1 at *
  clear q0 q1 q2 g0 g1 g2 m1 m2 m3 m4
  refine wp_region_held_drew (S := (fun W => W.cell? ⟨w.heap.size, 0, none⟩ = some (.int .i64 x1) ∧ W.cell? ⟨w.heap.size, 1, none⟩ = some (.int .i64 x2))) (by kernel_rfl) ?hS0 (fun hHeld => ?_)
  case hS0 => (try dsimp only); go_keep
  refine takeL (i := 0) (v := _) (by rfl) (by decide +kernel) (by decide +kernel) (by decide +kernel) (by exact fun _ _ _ h => h) (Or.inl ⟨by rfl, by (intro W hSw; (try dsimp only at hSw); go_simp <;> with_reducible rfl)⟩) (by assumption) ?_
  (try simp only [Act.put, List.setIfInBounds_toArray, List.set_cons_zero, List.set_cons_succ])
  refine takeL (i := 1) (v := _) (by rfl) (by decide +kernel) (by decide +kernel) (by decide +kernel) (by exact fun _ _ _ h => h) (Or.inl ⟨by rfl, by (intro W hSw; (try dsimp only at hSw); go_simp <;> with_reducible rfl)⟩) (by assumption) ?_
  (try simp only [Act.put, List.setIfInBounds_toArray, List.set_cons_zero, List.set_cons_succ])
  refine takeL (i := 2) (v := _) (by rfl) (by decide +kernel) (by decide +kernel) (by decide +kernel) (by exact fun _ _ _ h => h) (Or.inl ⟨by rfl, by (intro W hSw; (try dsimp only at hSw); go_simp <;> with_reducible rfl)⟩) (by assumption) ?_
  (try simp only [Act.put, List.setIfInBounds_toArray, List.set_cons_zero, List.set_cons_succ])
  refine takeL (i := 3) (v := _) (by rfl) (by decide +kernel) (by decide +kernel) (by decide +kernel) (by exact fun _ _ _ h => h) (Or.inl ⟨by rfl, by (intro W hSw; (try dsimp only at hSw); go_simp <;> with_reducible rfl)⟩) (by assumption) ?_
  (try simp only [Act.put, List.setIfInBounds_toArray, List.set_cons_zero, List.set_cons_succ])
  refine takeL (i := 4) (v := _) (by rfl) (by decide +kernel) (by decide +kernel) (by decide +kernel) (by exact fun _ _ _ h => h) (Or.inl ⟨by rfl, by (intro W hSw; (try dsimp only at hSw); go_simp <;> with_reducible rfl)⟩) (by assumption) ?_
  (try simp only [Act.put, List.setIfInBounds_toArray, List.set_cons_zero, List.set_cons_succ])
  refine takeL (i := 5) (v := _) (by rfl) (by decide +kernel) (by decide +kernel) (by decide +kernel) (by exact fun _ _ _ h => h) (Or.inl ⟨by rfl, by (intro W hSw; (try dsimp only at hSw); go_simp <;> with_reducible rfl)⟩) (by assumption) ?_
  (try simp only [Act.put, List.setIfInBounds_toArray, List.set_cons_zero, List.set_cons_succ])
  refine takeL (i := 7) (v := _) (by rfl) (by decide +kernel) (by decide +kernel) (by decide +kernel) (by exact fun _ _ _ h => h) (Or.inl ⟨by rfl, by (intro W hSw; (try dsimp only at hSw); go_simp <;> with_reducible rfl)⟩) (by assumption) ?_
  (try simp only [Act.put, List.setIfInBounds_toArray, List.set_cons_zero, List.set_cons_succ])
  refine takeL (i := 8) (v := _) (by rfl) (by decide +kernel) (by decide +kernel) (by decide +kernel) (by exact fun _ _ _ h => h) (Or.inl ⟨by rfl, by (intro W hSw; (try dsimp only at hSw); go_simp <;> with_reducible rfl)⟩) (by assumption) ?_
  (try simp only [Act.put, List.setIfInBounds_toArray, List.set_cons_zero, List.set_cons_succ])
  refine takeL (i := 9) (v := _) (by rfl) (by decide +kernel) (by decide +kernel) (by decide +kernel) (by exact fun _ _ _ h => h) (Or.inl ⟨by rfl, by (intro W hSw; (try dsimp only at hSw); go_simp <;> with_reducible rfl)⟩) (by assumption) ?_
  (try simp only [Act.put, List.setIfInBounds_toArray, List.set_cons_zero, List.set_cons_succ])
  refine takeL (i := 10) (v := _) (by rfl) (by decide +kernel) (by decide +kernel) (by decide +kernel) (by exact fun _ _ _ h => h) (Or.inl ⟨by rfl, by (intro W hSw; (try dsimp only at hSw); go_simp <;> with_reducible rfl)⟩) (by assumption) ?_
  (try simp only [Act.put, List.setIfInBounds_toArray, List.set_cons_zero, List.set_cons_succ])
  refine takeL (i := 12) (v := _) (by rfl) (by decide +kernel) (by decide +kernel) (by decide +kernel) (by exact fun _ _ _ h => h) (Or.inl ⟨by rfl, by (intro W hSw; (try dsimp only at hSw); go_simp <;> with_reducible rfl)⟩) (by assumption) ?_
  (try simp only [Act.put, List.setIfInBounds_toArray, List.set_cons_zero, List.set_cons_succ])
  refine takeL (i := 13) (v := _) (by rfl) (by decide +kernel) (by decide +kernel) (by decide +kernel) (by exact fun _ _ _ h => h) (Or.inl ⟨by rfl, by (intro W hSw; (try dsimp only at hSw); go_simp <;> with_reducible rfl)⟩) (by assumption) ?_
  (try simp only [Act.put, List.setIfInBounds_toArray, List.set_cons_zero, List.set_cons_succ])
  refine takeL (i := 14) (v := _) (by rfl) (by decide +kernel) (by decide +kernel) (by decide +kernel) (by exact fun _ _ _ h => h) (Or.inl ⟨by rfl, by (intro W hSw; (try dsimp only at hSw); go_simp <;> with_reducible rfl)⟩) (by assumption) ?_
  (try simp only [Act.put, List.setIfInBounds_toArray, List.set_cons_zero, List.set_cons_succ])
  refine takeL (i := 16) (v := _) (by rfl) (by decide +kernel) (by decide +kernel) (by decide +kernel) (by exact fun _ _ _ h => h) (Or.inl ⟨by rfl, by (intro W hSw; (try dsimp only at hSw); go_simp <;> with_reducible rfl)⟩) (by assumption) ?_
  (try simp only [Act.put, List.setIfInBounds_toArray, List.set_cons_zero, List.set_cons_succ])
  refine takeL (i := 17) (v := _) (by rfl) (by decide +kernel) (by decide +kernel) (by decide +kernel) (by exact fun _ _ _ h => h) (Or.inl ⟨by rfl, by (intro W hSw; (try dsimp only at hSw); go_simp <;> with_reducible rfl)⟩) (by assumption) ?_
  (try simp only [Act.put, List.setIfInBounds_toArray, List.set_cons_zero, List.set_cons_succ])
  refine takeL (i := 18) (v := _) (by rfl) (by decide +kernel) (by decide +kernel) (by decide +kernel) (by exact fun _ _ _ h => h) (Or.inl ⟨by rfl, by (intro W hSw; (try dsimp only at hSw); go_simp <;> with_reducible rfl)⟩) (by assumption) ?_
  (try simp only [Act.put, List.setIfInBounds_toArray, List.set_cons_zero, List.set_cons_succ])
  refine takeL (i := 19) (v := _) (by rfl) (by decide +kernel) (by decide +kernel) (by decide +kernel) (by exact fun _ _ _ h => h) (Or.inl ⟨by rfl, by (intro W hSw; (try dsimp only at hSw); go_simp <;> with_reducible rfl)⟩) (by assumption) ?_
  (try simp only [Act.put, List.setIfInBounds_toArray, List.set_cons_zero, List.set_cons_succ])
  refine takeL (i := 21) (v := _) (by rfl) (by decide +kernel) (by decide +kernel) (by decide +kernel) (by exact fun _ _ _ h => h) (Or.inl ⟨by rfl, by (intro W hSw; (try dsimp only at hSw); go_simp <;> with_reducible rfl)⟩) (by assumption) ?_
  (try simp only [Act.put, List.setIfInBounds_toArray, List.set_cons_zero, List.set_cons_succ])
  refine takeL (i := 22) (v := _) (by rfl) (by decide +kernel) (by decide +kernel) (by decide +kernel) (by exact fun _ _ _ h => h) (Or.inl ⟨by rfl, by (intro W hSw; (try dsimp only at hSw); go_simp <;> with_reducible rfl)⟩) (by assumption) ?_
  (try simp only [Act.put, List.setIfInBounds_toArray, List.set_cons_zero, List.set_cons_succ])
  refine takeL (i := 23) (v := _) (by rfl) (by decide +kernel) (by decide +kernel) (by decide +kernel) (by exact fun _ _ _ h => h) (Or.inl ⟨by rfl, by (intro W hSw; (try dsimp only at hSw); go_simp <;> with_reducible rfl)⟩) (by assumption) ?_
  (try simp only [Act.put, List.setIfInBounds_toArray, List.set_cons_zero, List.set_cons_succ])
  refine takeL (i := 25) (v := _) (by rfl) (by decide +kernel) (by decide +kernel) (by decide +kernel) (by exact fun _ _ _ h => h) (Or.inl ⟨by rfl, by (intro W hSw; (try dsimp only at hSw); go_simp <;> with_reducible rfl)⟩) (by assumption) ?_
  (try simp only [Act.put, List.setIfInBounds_toArray, List.set_cons_zero, List.set_cons_succ])
  refine wpAnyH_ready (rs := [6, 15, 24]) (by decide +kernel) (by simp) (consL (by rfl) (fun K hK => ?_) (consL (by rfl) (fun K hK => ?_) (consL (by rfl) (fun K hK => ?_) AllReadyH.nil)))
  · skip
    go_simp
    refine hK.out _ _ (by ((try dsimp only); go_keep)) (fun hHeld2 => ?_)
    clear hK K
    (try simp only [Act.put, List.setIfInBounds_toArray, List.set_cons_zero, List.set_cons_succ])
    refine takeL (i := 11) (v := _) (by rfl) (by decide +kernel) (by decide +kernel) (by decide +kernel) (by exact fun _ _ _ h => h) (Or.inl ⟨by rfl, by (intro W hSw; (try dsimp only at hSw); go_simp <;> with_reducible rfl)⟩) (by assumption) ?_
    (try simp only [Act.put, List.setIfInBounds_toArray, List.set_cons_zero, List.set_cons_succ])
    refine wpAnyH_ready (rs := [15, 24]) (by decide +kernel) (by simp) (consL (by rfl) (fun K hK => ?_) (consL (by rfl) (fun K hK => ?_) AllReadyH.nil))
    · skip
      go_simp
      refine hK.out _ _ (by ((try dsimp only); go_keep)) (fun hHeld3 => ?_)
      clear hK K
      (try simp only [Act.put, List.setIfInBounds_toArray, List.set_cons_zero, List.set_cons_succ])
      refine takeL (i := 20) (v := _) (by rfl) (by decide +kernel) (by decide +kernel) (by decide +kernel) (by exact fun _ _ _ h => h) (Or.inl ⟨by rfl, by (intro W hSw; (try dsimp only at hSw); go_simp <;> with_reducible rfl)⟩) (by assumption) ?_
      (try simp only [Act.put, List.setIfInBounds_toArray, List.set_cons_zero, List.set_cons_succ])
      refine wpAnyH_ready (rs := [24]) (by decide +kernel) (by simp) (consL (by rfl) (fun K hK => ?_) AllReadyH.nil)
      go_simp
      refine hK.out _ _ (by ((try dsimp only); go_keep)) (fun hHeld4 => ?_)
      clear hK K
      (try simp only [Act.put, List.setIfInBounds_toArray, List.set_cons_zero, List.set_cons_succ])
      refine takeL (i := 26) (v := _) (by rfl) (by decide +kernel) (by decide +kernel) (by decide +kernel) (by exact fun _ _ _ h => h) (Or.inl ⟨by rfl, by (intro W hSw; (try dsimp only at hSw); go_simp <;> with_reducible rfl)⟩) (by assumption) ?_
      (try simp only [Act.put, List.setIfInBounds_toArray, List.set_cons_zero, List.set_cons_succ])
      refine takeL (i := 27) (v := _) (by rfl) (by decide +kernel) (by decide +kernel) (by decide +kernel) (by exact fun _ _ _ h => h) (Or.inl ⟨by rfl, by (intro W hSw; (try dsimp only at hSw); go_simp <;> with_reducible rfl)⟩) (by assumption) ?_
      (try simp only [Act.put, List.setIfInBounds_toArray, List.set_cons_zero, List.set_cons_succ])
      refine takeL (i := 28) (v := _) (by rfl) (by decide +kernel) (by decide +kernel) (by decide +kernel) (by exact fun _ _ _ h => h) (Or.inl ⟨by rfl, by (intro W hSw; (try dsimp only at hSw); go_simp <;> with_reducible rfl)⟩) (by assumption) ?_
      (try simp only [Act.put, List.setIfInBounds_toArray, List.set_cons_zero, List.set_cons_succ])
      refine wpAnyH_ready (rs := [29]) (by decide +kernel) (by simp) (consL (by rfl) (fun K hK => ?_) AllReadyH.nil)
      go_simp
      refine hK.out _ _ (by ((try dsimp only); go_keep)) (fun hHeld5 => ?_)
      clear hK K
      (try simp only [Act.put, List.setIfInBounds_toArray, List.set_cons_zero, List.set_cons_succ])
      refine takeL (i := 30) (v := _) (by rfl) (by decide +kernel) (by decide +kernel) (by decide +kernel) (by exact fun _ _ _ h => h) (Or.inl ⟨by rfl, by (intro W hSw; (try dsimp only at hSw); go_simp <;> with_reducible rfl)⟩) (by assumption) ?_
      (try simp only [Act.put, List.setIfInBounds_toArray, List.set_cons_zero, List.set_cons_succ])
      refine takeL (i := 31) (v := _) (by rfl) (by decide +kernel) (by decide +kernel) (by decide +kernel) (by exact fun _ _ _ h => h) (Or.inl ⟨by rfl, by (intro W hSw; (try dsimp only at hSw); go_simp <;> with_reducible rfl)⟩) (by assumption) ?_
      (try simp only [Act.put, List.setIfInBounds_toArray, List.set_cons_zero, List.set_cons_succ])
      refine wpAnyH_ready (rs := [32]) (by decide +kernel) (by simp) (consL (by rfl) (fun K hK => ?_) AllReadyH.nil)
      go_simp
      refine hK.out _ _ (by ((try dsimp only); go_keep)) (fun hHeld6 => ?_)
      clear hK K
      (try simp only [Act.put, List.setIfInBounds_toArray, List.set_cons_zero, List.set_cons_succ])
      refine takeL (i := 33) (v := _) (by rfl) (by decide +kernel) (by decide +kernel) (by decide +kernel) (by exact fun _ _ _ h => h) (Or.inl ⟨by rfl, by (intro W hSw; (try dsimp only at hSw); go_simp <;> with_reducible rfl)⟩) (by assumption) ?_
      (try simp only [Act.put, List.setIfInBounds_toArray, List.set_cons_zero, List.set_cons_succ])
      refine takeL (i := 34) (v := _) (by rfl) (by decide +kernel) (by decide +kernel) (by decide +kernel) (by exact fun _ _ _ h => h) (Or.inl ⟨by rfl, by (intro W hSw; (try dsimp only at hSw); go_simp <;> with_reducible rfl)⟩) (by assumption) ?_
      (try simp only [Act.put, List.setIfInBounds_toArray, List.set_cons_zero, List.set_cons_succ])
      refine wpAnyH_ready (rs := [35]) (by decide +kernel) (by simp) (consL (by rfl) (fun K hK => ?_) AllReadyH.nil)
      go_simp
      refine hK.out _ _ (by ((try dsimp only); go_keep)) (fun hHeld7 => ?_)
      clear hK K
      (try simp only [Act.put, List.setIfInBounds_toArray, List.set_cons_zero, List.set_cons_succ])
      refine wpAnyH_done (by decide +kernel) ?_ _
      go_wp2
      go_ret
      obtain ⟨t1, st⟩ := popDone T1.out hb1'.out O1'.out O2'.out O3'.out ht1 hc1 ht2 hc2 (Nat.le_of_lt hkl) hc3
      exact ⟨by rw [hv.out] <;> rfl, by rw [ht.out]; exact t1, hs1'.out.trans st⟩
    · skip
      go_simp
      refine hK.out _ _ (by ((try dsimp only); go_keep)) (fun hHeld3 => ?_)
      clear hK K
      (try simp only [Act.put, List.setIfInBounds_toArray, List.set_cons_zero, List.set_cons_succ])
      refine takeL (i := 26) (v := _) (by rfl) (by decide +kernel) (by decide +kernel) (by decide +kernel) (by exact fun _ _ _ h => h) (Or.inl ⟨by rfl, by (intro W hSw; (try dsimp only at hSw); go_simp <;> with_reducible rfl)⟩) (by assumption) ?_
      (try simp only [Act.put, List.setIfInBounds_toArray, List.set_cons_zero, List.set_cons_succ])
      refine wpAnyH_ready (rs := [15]) (by decide +kernel) (by simp) (consL (by rfl) (fun K hK => ?_) AllReadyH.nil)
      go_simp
      refine hK.out _ _ (by ((try dsimp only); go_keep)) (fun hHeld4 => ?_)
      clear hK K
      (try simp only [Act.put, List.setIfInBounds_toArray, List.set_cons_zero, List.set_cons_succ])
      refine takeL (i := 20) (v := _) (by rfl) (by decide +kernel) (by decide +kernel) (by decide +kernel) (by exact fun _ _ _ h => h) (Or.inl ⟨by rfl, by (intro W hSw; (try dsimp only at hSw); go_simp <;> with_reducible rfl)⟩) (by assumption) ?_
      (try simp only [Act.put, List.setIfInBounds_toArray, List.set_cons_zero, List.set_cons_succ])
      refine takeL (i := 27) (v := _) (by rfl) (by decide +kernel) (by decide +kernel) (by decide +kernel) (by exact fun _ _ _ h => h) (Or.inl ⟨by rfl, by (intro W hSw; (try dsimp only at hSw); go_simp <;> with_reducible rfl)⟩) (by assumption) ?_
      (try simp only [Act.put, List.setIfInBounds_toArray, List.set_cons_zero, List.set_cons_succ])
      refine takeL (i := 28) (v := _) (by rfl) (by decide +kernel) (by decide +kernel) (by decide +kernel) (by exact fun _ _ _ h => h) (Or.inl ⟨by rfl, by (intro W hSw; (try dsimp only at hSw); go_simp <;> with_reducible rfl)⟩) (by assumption) ?_
      (try simp only [Act.put, List.setIfInBounds_toArray, List.set_cons_zero, List.set_cons_succ])
      refine wpAnyH_ready (rs := [29]) (by decide +kernel) (by simp) (consL (by rfl) (fun K hK => ?_) AllReadyH.nil)
      go_simp
      refine hK.out _ _ (by ((try dsimp only); go_keep)) (fun hHeld5 => ?_)
      clear hK K
      (try simp only [Act.put, List.setIfInBounds_toArray, List.set_cons_zero, List.set_cons_succ])
      refine takeL (i := 30) (v := _) (by rfl) (by decide +kernel) (by decide +kernel) (by decide +kernel) (by exact fun _ _ _ h => h) (Or.inl ⟨by rfl, by (intro W hSw; (try dsimp only at hSw); go_simp <;> with_reducible rfl)⟩) (by assumption) ?_
      (try simp only [Act.put, List.setIfInBounds_toArray, List.set_cons_zero, List.set_cons_succ])
      refine takeL (i := 31) (v := _) (by rfl) (by decide +kernel) (by decide +kernel) (by decide +kernel) (by exact fun _ _ _ h => h) (Or.inl ⟨by rfl, by (intro W hSw; (try dsimp only at hSw); go_simp <;> with_reducible rfl)⟩) (by assumption) ?_
      (try simp only [Act.put, List.setIfInBounds_toArray, List.set_cons_zero, List.set_cons_succ])
      refine wpAnyH_ready (rs := [32]) (by decide +kernel) (by simp) (consL (by rfl) (fun K hK => ?_) AllReadyH.nil)
      go_simp
      refine hK.out _ _ (by ((try dsimp only); go_keep)) (fun hHeld6 => ?_)
      clear hK K
      (try simp only [Act.put, List.setIfInBounds_toArray, List.set_cons_zero, List.set_cons_succ])
      refine takeL (i := 33) (v := _) (by rfl) (by decide +kernel) (by decide +kernel) (by decide +kernel) (by exact fun _ _ _ h => h) (Or.inl ⟨by rfl, by (intro W hSw; (try dsimp only at hSw); go_simp <;> with_reducible rfl)⟩) (by assumption) ?_
      (try simp only [Act.put, List.setIfInBounds_toArray, List.set_cons_zero, List.set_cons_succ])
      refine takeL (i := 34) (v := _) (by rfl) (by decide +kernel) (by decide +kernel) (by decide +kernel) (by exact fun _ _ _ h => h) (Or.inl ⟨by rfl, by (intro W hSw; (try dsimp only at hSw); go_simp <;> with_reducible rfl)⟩) (by assumption) ?_
      (try simp only [Act.put, List.setIfInBounds_toArray, List.set_cons_zero, List.set_cons_succ])
      refine wpAnyH_ready (rs := [35]) (by decide +kernel) (by simp) (consL (by rfl) (fun K hK => ?_) AllReadyH.nil)
      go_simp
      refine hK.out _ _ (by ((try dsimp only); go_keep)) (fun hHeld7 => ?_)
      clear hK K
      (try simp only [Act.put, List.setIfInBounds_toArray, List.set_cons_zero, List.set_cons_succ])
      refine wpAnyH_done (by decide +kernel) ?_ _
      go_wp2
      go_ret
      obtain ⟨t1, st⟩ := popDone T1.out hb1'.out O1'.out O2'.out O3'.out ht1 hc1 ht2 hc2 (Nat.le_of_lt hkl) hc3
      exact ⟨by rw [hv.out] <;> rfl, by rw [ht.out]; exact t1, hs1'.out.trans st⟩
  · skip
    go_simp
    refine hK.out _ _ (by ((try dsimp only); go_keep)) (fun hHeld2 => ?_)
    clear hK K
    (try simp only [Act.put, List.setIfInBounds_toArray, List.set_cons_zero, List.set_cons_succ])
    refine takeL (i := 20) (v := _) (by rfl) (by decide +kernel) (by decide +kernel) (by decide +kernel) (by exact fun _ _ _ h => h) (Or.inl ⟨by rfl, by (intro W hSw; (try dsimp only at hSw); go_simp <;> with_reducible rfl)⟩) (by assumption) ?_
    (try simp only [Act.put, List.setIfInBounds_toArray, List.set_cons_zero, List.set_cons_succ])
    refine wpAnyH_ready (rs := [6, 24]) (by decide +kernel) (by simp) (consL (by rfl) (fun K hK => ?_) (consL (by rfl) (fun K hK => ?_) AllReadyH.nil))
    · skip
      go_simp
      refine hK.out _ _ (by ((try dsimp only); go_keep)) (fun hHeld3 => ?_)
      clear hK K
      (try simp only [Act.put, List.setIfInBounds_toArray, List.set_cons_zero, List.set_cons_succ])
      refine takeL (i := 11) (v := _) (by rfl) (by decide +kernel) (by decide +kernel) (by decide +kernel) (by exact fun _ _ _ h => h) (Or.inl ⟨by rfl, by (intro W hSw; (try dsimp only at hSw); go_simp <;> with_reducible rfl)⟩) (by assumption) ?_
      (try simp only [Act.put, List.setIfInBounds_toArray, List.set_cons_zero, List.set_cons_succ])
      refine wpAnyH_ready (rs := [24]) (by decide +kernel) (by simp) (consL (by rfl) (fun K hK => ?_) AllReadyH.nil)
      go_simp
      refine hK.out _ _ (by ((try dsimp only); go_keep)) (fun hHeld4 => ?_)
      clear hK K
      (try simp only [Act.put, List.setIfInBounds_toArray, List.set_cons_zero, List.set_cons_succ])
      refine takeL (i := 26) (v := _) (by rfl) (by decide +kernel) (by decide +kernel) (by decide +kernel) (by exact fun _ _ _ h => h) (Or.inl ⟨by rfl, by (intro W hSw; (try dsimp only at hSw); go_simp <;> with_reducible rfl)⟩) (by assumption) ?_
      (try simp only [Act.put, List.setIfInBounds_toArray, List.set_cons_zero, List.set_cons_succ])
      refine takeL (i := 27) (v := _) (by rfl) (by decide +kernel) (by decide +kernel) (by decide +kernel) (by exact fun _ _ _ h => h) (Or.inl ⟨by rfl, by (intro W hSw; (try dsimp only at hSw); go_simp <;> with_reducible rfl)⟩) (by assumption) ?_
      (try simp only [Act.put, List.setIfInBounds_toArray, List.set_cons_zero, List.set_cons_succ])
      refine takeL (i := 28) (v := _) (by rfl) (by decide +kernel) (by decide +kernel) (by decide +kernel) (by exact fun _ _ _ h => h) (Or.inl ⟨by rfl, by (intro W hSw; (try dsimp only at hSw); go_simp <;> with_reducible rfl)⟩) (by assumption) ?_
      (try simp only [Act.put, List.setIfInBounds_toArray, List.set_cons_zero, List.set_cons_succ])
      refine wpAnyH_ready (rs := [29]) (by decide +kernel) (by simp) (consL (by rfl) (fun K hK => ?_) AllReadyH.nil)
      go_simp
      refine hK.out _ _ (by ((try dsimp only); go_keep)) (fun hHeld5 => ?_)
      clear hK K
      (try simp only [Act.put, List.setIfInBounds_toArray, List.set_cons_zero, List.set_cons_succ])
      refine takeL (i := 30) (v := _) (by rfl) (by decide +kernel) (by decide +kernel) (by decide +kernel) (by exact fun _ _ _ h => h) (Or.inl ⟨by rfl, by (intro W hSw; (try dsimp only at hSw); go_simp <;> with_reducible rfl)⟩) (by assumption) ?_
      (try simp only [Act.put, List.setIfInBounds_toArray, List.set_cons_zero, List.set_cons_succ])
      refine takeL (i := 31) (v := _) (by rfl) (by decide +kernel) (by decide +kernel) (by decide +kernel) (by exact fun _ _ _ h => h) (Or.inl ⟨by rfl, by (intro W hSw; (try dsimp only at hSw); go_simp <;> with_reducible rfl)⟩) (by assumption) ?_
      (try simp only [Act.put, List.setIfInBounds_toArray, List.set_cons_zero, List.set_cons_succ])
      refine wpAnyH_ready (rs := [32]) (by decide +kernel) (by simp) (consL (by rfl) (fun K hK => ?_) AllReadyH.nil)
      go_simp
      refine hK.out _ _ (by ((try dsimp only); go_keep)) (fun hHeld6 => ?_)
      clear hK K
      (try simp only [Act.put, List.setIfInBounds_toArray, List.set_cons_zero, List.set_cons_succ])
      refine takeL (i := 33) (v := _) (by rfl) (by decide +kernel) (by decide +kernel) (by decide +kernel) (by exact fun _ _ _ h => h) (Or.inl ⟨by rfl, by (intro W hSw; (try dsimp only at hSw); go_simp <;> with_reducible rfl)⟩) (by assumption) ?_
      (try simp only [Act.put, List.setIfInBounds_toArray, List.set_cons_zero, List.set_cons_succ])
      refine takeL (i := 34) (v := _) (by rfl) (by decide +kernel) (by decide +kernel) (by decide +kernel) (by exact fun _ _ _ h => h) (Or.inl ⟨by rfl, by (intro W hSw; (try dsimp only at hSw); go_simp <;> with_reducible rfl)⟩) (by assumption) ?_
      (try simp only [Act.put, List.setIfInBounds_toArray, List.set_cons_zero, List.set_cons_succ])
      refine wpAnyH_ready (rs := [35]) (by decide +kernel) (by simp) (consL (by rfl) (fun K hK => ?_) AllReadyH.nil)
      go_simp
      refine hK.out _ _ (by ((try dsimp only); go_keep)) (fun hHeld7 => ?_)
      clear hK K
      (try simp only [Act.put, List.setIfInBounds_toArray, List.set_cons_zero, List.set_cons_succ])
      refine wpAnyH_done (by decide +kernel) ?_ _
      go_wp2
      go_ret
      obtain ⟨t1, st⟩ := popDone T1.out hb1'.out O1'.out O2'.out O3'.out ht1 hc1 ht2 hc2 (Nat.le_of_lt hkl) hc3
      exact ⟨by rw [hv.out] <;> rfl, by rw [ht.out]; exact t1, hs1'.out.trans st⟩
    · skip
      go_simp
      refine hK.out _ _ (by ((try dsimp only); go_keep)) (fun hHeld3 => ?_)
      clear hK K
      (try simp only [Act.put, List.setIfInBounds_toArray, List.set_cons_zero, List.set_cons_succ])
      refine takeL (i := 26) (v := _) (by rfl) (by decide +kernel) (by decide +kernel) (by decide +kernel) (by exact fun _ _ _ h => h) (Or.inl ⟨by rfl, by (intro W hSw; (try dsimp only at hSw); go_simp <;> with_reducible rfl)⟩) (by assumption) ?_
      (try simp only [Act.put, List.setIfInBounds_toArray, List.set_cons_zero, List.set_cons_succ])
      refine wpAnyH_ready (rs := [6]) (by decide +kernel) (by simp) (consL (by rfl) (fun K hK => ?_) AllReadyH.nil)
      go_simp
      refine hK.out _ _ (by ((try dsimp only); go_keep)) (fun hHeld4 => ?_)
      clear hK K
      (try simp only [Act.put, List.setIfInBounds_toArray, List.set_cons_zero, List.set_cons_succ])
      refine takeL (i := 11) (v := _) (by rfl) (by decide +kernel) (by decide +kernel) (by decide +kernel) (by exact fun _ _ _ h => h) (Or.inl ⟨by rfl, by (intro W hSw; (try dsimp only at hSw); go_simp <;> with_reducible rfl)⟩) (by assumption) ?_
      (try simp only [Act.put, List.setIfInBounds_toArray, List.set_cons_zero, List.set_cons_succ])
      refine takeL (i := 27) (v := _) (by rfl) (by decide +kernel) (by decide +kernel) (by decide +kernel) (by exact fun _ _ _ h => h) (Or.inl ⟨by rfl, by (intro W hSw; (try dsimp only at hSw); go_simp <;> with_reducible rfl)⟩) (by assumption) ?_
      (try simp only [Act.put, List.setIfInBounds_toArray, List.set_cons_zero, List.set_cons_succ])
      refine takeL (i := 28) (v := _) (by rfl) (by decide +kernel) (by decide +kernel) (by decide +kernel) (by exact fun _ _ _ h => h) (Or.inl ⟨by rfl, by (intro W hSw; (try dsimp only at hSw); go_simp <;> with_reducible rfl)⟩) (by assumption) ?_
      (try simp only [Act.put, List.setIfInBounds_toArray, List.set_cons_zero, List.set_cons_succ])
      refine wpAnyH_ready (rs := [29]) (by decide +kernel) (by simp) (consL (by rfl) (fun K hK => ?_) AllReadyH.nil)
      go_simp
      refine hK.out _ _ (by ((try dsimp only); go_keep)) (fun hHeld5 => ?_)
      clear hK K
      (try simp only [Act.put, List.setIfInBounds_toArray, List.set_cons_zero, List.set_cons_succ])
      refine takeL (i := 30) (v := _) (by rfl) (by decide +kernel) (by decide +kernel) (by decide +kernel) (by exact fun _ _ _ h => h) (Or.inl ⟨by rfl, by (intro W hSw; (try dsimp only at hSw); go_simp <;> with_reducible rfl)⟩) (by assumption) ?_
      (try simp only [Act.put, List.setIfInBounds_toArray, List.set_cons_zero, List.set_cons_succ])
      refine takeL (i := 31) (v := _) (by rfl) (by decide +kernel) (by decide +kernel) (by decide +kernel) (by exact fun _ _ _ h => h) (Or.inl ⟨by rfl, by (intro W hSw; (try dsimp only at hSw); go_simp <;> with_reducible rfl)⟩) (by assumption) ?_
      (try simp only [Act.put, List.setIfInBounds_toArray, List.set_cons_zero, List.set_cons_succ])
      refine wpAnyH_ready (rs := [32]) (by decide +kernel) (by simp) (consL (by rfl) (fun K hK => ?_) AllReadyH.nil)
      go_simp
      refine hK.out _ _ (by ((try dsimp only); go_keep)) (fun hHeld6 => ?_)
      clear hK K
      (try simp only [Act.put, List.setIfInBounds_toArray, List.set_cons_zero, List.set_cons_succ])
      refine takeL (i := 33) (v := _) (by rfl) (by decide +kernel) (by decide +kernel) (by decide +kernel) (by exact fun _ _ _ h => h) (Or.inl ⟨by rfl, by (intro W hSw; (try dsimp only at hSw); go_simp <;> with_reducible rfl)⟩) (by assumption) ?_
      (try simp only [Act.put, List.setIfInBounds_toArray, List.set_cons_zero, List.set_cons_succ])
      refine takeL (i := 34) (v := _) (by rfl) (by decide +kernel) (by decide +kernel) (by decide +kernel) (by exact fun _ _ _ h => h) (Or.inl ⟨by rfl, by (intro W hSw; (try dsimp only at hSw); go_simp <;> with_reducible rfl)⟩) (by assumption) ?_
      (try simp only [Act.put, List.setIfInBounds_toArray, List.set_cons_zero, List.set_cons_succ])
      refine wpAnyH_ready (rs := [35]) (by decide +kernel) (by simp) (consL (by rfl) (fun K hK => ?_) AllReadyH.nil)
      go_simp
      refine hK.out _ _ (by ((try dsimp only); go_keep)) (fun hHeld7 => ?_)
      clear hK K
      (try simp only [Act.put, List.setIfInBounds_toArray, List.set_cons_zero, List.set_cons_succ])
      refine wpAnyH_done (by decide +kernel) ?_ _
      go_wp2
      go_ret
      obtain ⟨t1, st⟩ := popDone T1.out hb1'.out O1'.out O2'.out O3'.out ht1 hc1 ht2 hc2 (Nat.le_of_lt hkl) hc3
      exact ⟨by rw [hv.out] <;> rfl, by rw [ht.out]; exact t1, hs1'.out.trans st⟩
  · skip
    go_simp
    refine hK.out _ _ (by ((try dsimp only); go_keep)) (fun hHeld2 => ?_)
    clear hK K
    (try simp only [Act.put, List.setIfInBounds_toArray, List.set_cons_zero, List.set_cons_succ])
    refine takeL (i := 26) (v := _) (by rfl) (by decide +kernel) (by decide +kernel) (by decide +kernel) (by exact fun _ _ _ h => h) (Or.inl ⟨by rfl, by (intro W hSw; (try dsimp only at hSw); go_simp <;> with_reducible rfl)⟩) (by assumption) ?_
    (try simp only [Act.put, List.setIfInBounds_toArray, List.set_cons_zero, List.set_cons_succ])
    refine wpAnyH_ready (rs := [6, 15]) (by decide +kernel) (by simp) (consL (by rfl) (fun K hK => ?_) (consL (by rfl) (fun K hK => ?_) AllReadyH.nil))
    · skip
      go_simp
      refine hK.out _ _ (by ((try dsimp only); go_keep)) (fun hHeld3 => ?_)
      clear hK K
      (try simp only [Act.put, List.setIfInBounds_toArray, List.set_cons_zero, List.set_cons_succ])
      refine takeL (i := 11) (v := _) (by rfl) (by decide +kernel) (by decide +kernel) (by decide +kernel) (by exact fun _ _ _ h => h) (Or.inl ⟨by rfl, by (intro W hSw; (try dsimp only at hSw); go_simp <;> with_reducible rfl)⟩) (by assumption) ?_
      (try simp only [Act.put, List.setIfInBounds_toArray, List.set_cons_zero, List.set_cons_succ])
      refine wpAnyH_ready (rs := [15]) (by decide +kernel) (by simp) (consL (by rfl) (fun K hK => ?_) AllReadyH.nil)
      go_simp
      refine hK.out _ _ (by ((try dsimp only); go_keep)) (fun hHeld4 => ?_)
      clear hK K
      (try simp only [Act.put, List.setIfInBounds_toArray, List.set_cons_zero, List.set_cons_succ])
      refine takeL (i := 20) (v := _) (by rfl) (by decide +kernel) (by decide +kernel) (by decide +kernel) (by exact fun _ _ _ h => h) (Or.inl ⟨by rfl, by (intro W hSw; (try dsimp only at hSw); go_simp <;> with_reducible rfl)⟩) (by assumption) ?_
      (try simp only [Act.put, List.setIfInBounds_toArray, List.set_cons_zero, List.set_cons_succ])
      refine takeL (i := 27) (v := _) (by rfl) (by decide +kernel) (by decide +kernel) (by decide +kernel) (by exact fun _ _ _ h => h) (Or.inl ⟨by rfl, by (intro W hSw; (try dsimp only at hSw); go_simp <;> with_reducible rfl)⟩) (by assumption) ?_
      (try simp only [Act.put, List.setIfInBounds_toArray, List.set_cons_zero, List.set_cons_succ])
      refine takeL (i := 28) (v := _) (by rfl) (by decide +kernel) (by decide +kernel) (by decide +kernel) (by exact fun _ _ _ h => h) (Or.inl ⟨by rfl, by (intro W hSw; (try dsimp only at hSw); go_simp <;> with_reducible rfl)⟩) (by assumption) ?_
      (try simp only [Act.put, List.setIfInBounds_toArray, List.set_cons_zero, List.set_cons_succ])
      refine wpAnyH_ready (rs := [29]) (by decide +kernel) (by simp) (consL (by rfl) (fun K hK => ?_) AllReadyH.nil)
      go_simp
      refine hK.out _ _ (by ((try dsimp only); go_keep)) (fun hHeld5 => ?_)
      clear hK K
      (try simp only [Act.put, List.setIfInBounds_toArray, List.set_cons_zero, List.set_cons_succ])
      refine takeL (i := 30) (v := _) (by rfl) (by decide +kernel) (by decide +kernel) (by decide +kernel) (by exact fun _ _ _ h => h) (Or.inl ⟨by rfl, by (intro W hSw; (try dsimp only at hSw); go_simp <;> with_reducible rfl)⟩) (by assumption) ?_
      (try simp only [Act.put, List.setIfInBounds_toArray, List.set_cons_zero, List.set_cons_succ])
      refine takeL (i := 31) (v := _) (by rfl) (by decide +kernel) (by decide +kernel) (by decide +kernel) (by exact fun _ _ _ h => h) (Or.inl ⟨by rfl, by (intro W hSw; (try dsimp only at hSw); go_simp <;> with_reducible rfl)⟩) (by assumption) ?_
      (try simp only [Act.put, List.setIfInBounds_toArray, List.set_cons_zero, List.set_cons_succ])
      refine wpAnyH_ready (rs := [32]) (by decide +kernel) (by simp) (consL (by rfl) (fun K hK => ?_) AllReadyH.nil)
      go_simp
      refine hK.out _ _ (by ((try dsimp only); go_keep)) (fun hHeld6 => ?_)
      clear hK K
      (try simp only [Act.put, List.setIfInBounds_toArray, List.set_cons_zero, List.set_cons_succ])
      refine takeL (i := 33) (v := _) (by rfl) (by decide +kernel) (by decide +kernel) (by decide +kernel) (by exact fun _ _ _ h => h) (Or.inl ⟨by rfl, by (intro W hSw; (try dsimp only at hSw); go_simp <;> with_reducible rfl)⟩) (by assumption) ?_
      (try simp only [Act.put, List.setIfInBounds_toArray, List.set_cons_zero, List.set_cons_succ])
      refine takeL (i := 34) (v := _) (by rfl) (by decide +kernel) (by decide +kernel) (by decide +kernel) (by exact fun _ _ _ h => h) (Or.inl ⟨by rfl, by (intro W hSw; (try dsimp only at hSw); go_simp <;> with_reducible rfl)⟩) (by assumption) ?_
      (try simp only [Act.put, List.setIfInBounds_toArray, List.set_cons_zero, List.set_cons_succ])
      refine wpAnyH_ready (rs := [35]) (by decide +kernel) (by simp) (consL (by rfl) (fun K hK => ?_) AllReadyH.nil)
      go_simp
      refine hK.out _ _ (by ((try dsimp only); go_keep)) (fun hHeld7 => ?_)
      clear hK K
      (try simp only [Act.put, List.setIfInBounds_toArray, List.set_cons_zero, List.set_cons_succ])
      refine wpAnyH_done (by decide +kernel) ?_ _
      go_wp2
      go_ret
      obtain ⟨t1, st⟩ := popDone T1.out hb1'.out O1'.out O2'.out O3'.out ht1 hc1 ht2 hc2 (Nat.le_of_lt hkl) hc3
      exact ⟨by rw [hv.out] <;> rfl, by rw [ht.out]; exact t1, hs1'.out.trans st⟩
    · skip
      go_simp
      refine hK.out _ _ (by ((try dsimp only); go_keep)) (fun hHeld3 => ?_)
      clear hK K
      (try simp only [Act.put, List.setIfInBounds_toArray, List.set_cons_zero, List.set_cons_succ])
      refine takeL (i := 20) (v := _) (by rfl) (by decide +kernel) (by decide +kernel) (by decide +kernel) (by exact fun _ _ _ h => h) (Or.inl ⟨by rfl, by (intro W hSw; (try dsimp only at hSw); go_simp <;> with_reducible rfl)⟩) (by assumption) ?_
      (try simp only [Act.put, List.setIfInBounds_toArray, List.set_cons_zero, List.set_cons_succ])
      refine wpAnyH_ready (rs := [6]) (by decide +kernel) (by simp) (consL (by rfl) (fun K hK => ?_) AllReadyH.nil)
      go_simp
      refine hK.out _ _ (by ((try dsimp only); go_keep)) (fun hHeld4 => ?_)
      clear hK K
      (try simp only [Act.put, List.setIfInBounds_toArray, List.set_cons_zero, List.set_cons_succ])
      refine takeL (i := 11) (v := _) (by rfl) (by decide +kernel) (by decide +kernel) (by decide +kernel) (by exact fun _ _ _ h => h) (Or.inl ⟨by rfl, by (intro W hSw; (try dsimp only at hSw); go_simp <;> with_reducible rfl)⟩) (by assumption) ?_
      (try simp only [Act.put, List.setIfInBounds_toArray, List.set_cons_zero, List.set_cons_succ])
      refine takeL (i := 27) (v := _) (by rfl) (by decide +kernel) (by decide +kernel) (by decide +kernel) (by exact fun _ _ _ h => h) (Or.inl ⟨by rfl, by (intro W hSw; (try dsimp only at hSw); go_simp <;> with_reducible rfl)⟩) (by assumption) ?_
      (try simp only [Act.put, List.setIfInBounds_toArray, List.set_cons_zero, List.set_cons_succ])
      refine takeL (i := 28) (v := _) (by rfl) (by decide +kernel) (by decide +kernel) (by decide +kernel) (by exact fun _ _ _ h => h) (Or.inl ⟨by rfl, by (intro W hSw; (try dsimp only at hSw); go_simp <;> with_reducible rfl)⟩) (by assumption) ?_
      (try simp only [Act.put, List.setIfInBounds_toArray, List.set_cons_zero, List.set_cons_succ])
      refine wpAnyH_ready (rs := [29]) (by decide +kernel) (by simp) (consL (by rfl) (fun K hK => ?_) AllReadyH.nil)
      go_simp
      refine hK.out _ _ (by ((try dsimp only); go_keep)) (fun hHeld5 => ?_)
      clear hK K
      (try simp only [Act.put, List.setIfInBounds_toArray, List.set_cons_zero, List.set_cons_succ])
      refine takeL (i := 30) (v := _) (by rfl) (by decide +kernel) (by decide +kernel) (by decide +kernel) (by exact fun _ _ _ h => h) (Or.inl ⟨by rfl, by (intro W hSw; (try dsimp only at hSw); go_simp <;> with_reducible rfl)⟩) (by assumption) ?_
      (try simp only [Act.put, List.setIfInBounds_toArray, List.set_cons_zero, List.set_cons_succ])
      refine takeL (i := 31) (v := _) (by rfl) (by decide +kernel) (by decide +kernel) (by decide +kernel) (by exact fun _ _ _ h => h) (Or.inl ⟨by rfl, by (intro W hSw; (try dsimp only at hSw); go_simp <;> with_reducible rfl)⟩) (by assumption) ?_
      (try simp only [Act.put, List.setIfInBounds_toArray, List.set_cons_zero, List.set_cons_succ])
      refine wpAnyH_ready (rs := [32]) (by decide +kernel) (by simp) (consL (by rfl) (fun K hK => ?_) AllReadyH.nil)
      go_simp
      refine hK.out _ _ (by ((try dsimp only); go_keep)) (fun hHeld6 => ?_)
      clear hK K
      (try simp only [Act.put, List.setIfInBounds_toArray, List.set_cons_zero, List.set_cons_succ])
      refine takeL (i := 33) (v := _) (by rfl) (by decide +kernel) (by decide +kernel) (by decide +kernel) (by exact fun _ _ _ h => h) (Or.inl ⟨by rfl, by (intro W hSw; (try dsimp only at hSw); go_simp <;> with_reducible rfl)⟩) (by assumption) ?_
      (try simp only [Act.put, List.setIfInBounds_toArray, List.set_cons_zero, List.set_cons_succ])
      refine takeL (i := 34) (v := _) (by rfl) (by decide +kernel) (by decide +kernel) (by decide +kernel) (by exact fun _ _ _ h => h) (Or.inl ⟨by rfl, by (intro W hSw; (try dsimp only at hSw); go_simp <;> with_reducible rfl)⟩) (by assumption) ?_
      (try simp only [Act.put, List.setIfInBounds_toArray, List.set_cons_zero, List.set_cons_succ])
      refine wpAnyH_ready (rs := [35]) (by decide +kernel) (by simp) (consL (by rfl) (fun K hK => ?_) AllReadyH.nil)
      go_simp
      refine hK.out _ _ (by ((try dsimp only); go_keep)) (fun hHeld7 => ?_)
      clear hK K
      (try simp only [Act.put, List.setIfInBounds_toArray, List.set_cons_zero, List.set_cons_succ])
      refine wpAnyH_done (by decide +kernel) ?_ _
      go_wp2
      go_ret
      obtain ⟨t1, st⟩ := popDone T1.out hb1'.out O1'.out O2'.out O3'.out ht1 hc1 ht2 hc2 (Nat.le_of_lt hkl) hc3
      exact ⟨by rw [hv.out] <;> rfl, by rw [ht.out]; exact t1, hs1'.out.trans st⟩
end Go.Proofs.YtpkajhmgkmkcgaaDoor
