/-
  theodoliteref19.Store: Add, Forget. Conditions: a store in memory of fewer than 2^40 clauses; fewer than 2^40 literals; numbers that are not used twice.
-/
import Derived.Test.YtglbdkjdglcncaaHC
namespace Go.Proofs.Ytglbdkjdglcncaa
open Go.RowKit Go.Sort Go.Lib

theorem info_item : (Try.prog.info? 44).map (fun i => (i.zero, i.size, i.bytes)) = some (some (.agg #[.int .i64 0, .slice none 0 0, .bool false]), 3, 40) := by kernel_rfl
theorem info_item1 : ∃ (i : TypeInfo) (z : Value), Try.prog.info? 44 = some i ∧ i.zero = some z ∧ i.size = 3 ∧ i.bytes = 40 ∧ z.cells.size = 3 := by
  cases h : Try.prog.info? 44 with
  | none => exact absurd h (by decide +kernel)
  | some i =>
    have := info_item
    rw [h] at this
    simp at this
    exact ⟨i, _, rfl, this.1, this.2.1, this.2.2, rfl⟩
theorem size_item (w : World) : (sizeOf 44).run Try.prog w = .ok 3 w := by kernel_rfl
theorem CellsF.lit3 {w : World} {e : TypeId} {s : Nat} {x y z : Value} (hs : s = w.heap.size) : CellsF (w.alloc (.cells #[x, y, z] e)) s [x, y, z] := CellsF.lit (us := [x, y, z]) hs
theorem item_one {x : Int} {a : Option Addr} {n c : Nat} {b : Bool} : ∀ u ∈ [Value.int .i64 x, .slice a n c, .bool b], u.oneCell' = true := by intro u hu; simp at hu; rcases hu with rfl | rfl | rfl <;> rfl
section
variable {q : Nat} {S : St} {w W : World}
theorem RStIs.setItems (h : RStIs q S w) (hW : Below w.heap.size w W) {v' : Value} {its : List Item} (ho : OwnR repIt (fun b => q < b) W (q + 1) 44 v' its) :
    RStIs q { S with items := its } (W.setCell ⟨q, 1, none⟩ v') ∧ Touch (fun k => k = q) w (W.setCell ⟨q, 1, none⟩ v') := by
  obtain ⟨v, hb, _⟩ := h.blk
  have hbW : W.heap[q]? = some (.cells #[.int .i64 S.most, v, .int .i64 S.next] 29 (0, 0)) := (hW.block q h.lt).trans hb
  have h1 : (W.setCell ⟨q, 1, none⟩ v').heap[q]? = some (.cells #[.int .i64 S.most, v', .int .i64 S.next] 29 (0, 0)) := by
    unfold World.setCell
    rw [Array.getElem?_modify, if_pos rfl, hbW]
    rfl
  have h2 : ∀ k, k ≠ q → (W.setCell ⟨q, 1, none⟩ v').heap[k]? = W.heap[k]? := fun k hk => Below.heap_setCell _ _ _ _ (fun e => hk e)
  have hsz : (W.setCell ⟨q, 1, none⟩ v').heap.size = W.heap.size := by simp [World.setCell]
  refine ⟨⟨v', h1, ho.keep (fun b _ hb => h2 b (by omega)) (fun k e => h2 k (by have := (ho.lt k e).1; omega)) (Nat.le_of_eq hsz.symm)⟩, ⟨hW.os, hW.tape, hW.output, by rw [hsz]; exact hW.size, fun k hk hne => (h2 k hne).trans (hW.block k hk)⟩⟩
theorem RStIs.setNext (h : RStIs q S w) (z : Int) :
    RStIs q { S with next := z } (w.setCell ⟨q, 2, none⟩ (.int .i64 z)) ∧ Touch (fun k => k = q) w (w.setCell ⟨q, 2, none⟩ (.int .i64 z)) := by
  obtain ⟨v, hb, ho⟩ := h.blk
  have h1 : (w.setCell ⟨q, 2, none⟩ (.int .i64 z)).heap[q]? = some (.cells #[.int .i64 S.most, v, .int .i64 z] 29 (0, 0)) := by
    unfold World.setCell
    rw [Array.getElem?_modify, if_pos rfl, hb]
    rfl
  have h2 : ∀ k, k ≠ q → (w.setCell ⟨q, 2, none⟩ (.int .i64 z)).heap[k]? = w.heap[k]? := fun k hk => Below.heap_setCell _ _ _ _ (fun e => hk e)
  have hsz : (w.setCell ⟨q, 2, none⟩ (.int .i64 z)).heap.size = w.heap.size := by simp [World.setCell]
  refine ⟨⟨v, h1, ho.keep (fun b _ hb => h2 b (by omega)) (fun k e => h2 k (by have := (ho.lt k e).1; omega)) (Nat.le_of_eq hsz.symm)⟩, ⟨rfl, rfl, rfl, Nat.le_of_eq hsz.symm, fun k _ hne => h2 k hne⟩⟩
end
def RAddPost (q : Nat) (S : St) (xs : List Int) (b : Bool) (w : World) (e : Ending) (w' : World) : Prop :=
  e = .returned (.tuple #[.int .i64 (idAdd S xs), .int .i64 (eAdd S xs)]) ∧ RStIs q (sAdd S xs b) w' ∧ Touch (fun k => k = q) w w'
theorem radd_err {q : Nat} {S : St} {xs : List Int} {b : Bool} {w w1 : World} {e : Int} (h : RStIs q S w) (hB : Below w.heap.size w w1) (he : eAdd S xs = e) (h0 : e ≠ 0) : RAddPost q S xs b w (.returned (.tuple #[.int .i64 0, .int .i64 e])) w1 := by
  have h1 : idAdd S xs = 0 := by unfold idAdd; rw [if_neg (by rw [he]; exact h0)]
  have h2 : sAdd S xs b = S := by unfold sAdd; rw [if_neg (by rw [he]; exact h0)]
  exact ⟨by rw [h1, he], by rw [h2]; exact h.all hB, .of_below hB⟩
theorem add_ok {S : St} {xs : List Int} {b : Bool} (he : eAdd S xs = 0) : idAdd S xs = S.next ∧ eAdd S xs = 0 ∧ sAdd S xs b = { S with items := S.items ++ [⟨S.next, nrm xs, b⟩], next := S.next + 1 } :=
  ⟨by unfold idAdd; rw [if_pos he], he, by unfold sAdd; rw [if_pos he]⟩
set_option maxRecDepth 100000 in
set_option maxHeartbeats 4000000 in
theorem add19_any (q : Nat) (S : St) (a : Option Addr) (n c : Nat) (xs : List Int) (b : Bool) (w : World) (h : RStIs q S w) (hx : RdI w a n xs) (hn : n < 1099511627776) (hl : S.items.length < 1099511627776) (hnx : 0 ≤ S.next ∧ S.next < 4611686018427387904) :
    Calls Try.prog 7 #[.pointer (some ⟨q, 0, none⟩), .slice a n c, .bool b] w fun e w' => RAddPost q S xs b w e w' := by
  have h' := Lib.hid h
  have hx' := Lib.hid hx
  have hed := @Lib.hid (eAdd S xs = if alw xs then 1 else if S.most ≤ S.items.length then 4 else 0) rfl
  obtain ⟨i0, z0, hi, hz0, hz1, hz2, hz3⟩ := info_item1
  clear h hx
  go_enter Try.func7, Try.ntmps7
  go_wp2_with fail
  refine (norm19_any a n c xs w hx'.out hn).mono ?_
  rintro e w1 ⟨a1, m1, c1, rfl, hmc, hcm, hr1, hfr1, hb1'⟩
  have hb1 := Lib.hid hb1'
  have R1 := Lib.hid (h'.out.all hb1')
  have hrl := Lib.hid hr1
  have hfr := Lib.hid hfr1
  have hlt := h'.out.lt
  have hmc' := Lib.hid hmc
  have hcm' := Lib.hid hcm
  clear hb1' hr1 hfr1 hmc hcm
  cases hal : alw xs
  case true =>
    have he' := Lib.hid (show eAdd S xs = 1 by rw [hed.out, hal]; rfl)
    go_wp2
    go_ret2
    exact radd_err h'.out hb1.out he'.out (by decide)
  case false =>
  rw [hal] at hed
  obtain ⟨aa, cc, hblk0, hic, hcx, ho⟩ := R1.out.look
  have hblk := Lib.hid hblk0
  have k0 : w1.cell? ⟨q, 0, none⟩ = some (.int .i64 S.most) := cell_p hblk0 0
  have k1 : w1.cell? ⟨q, 1, none⟩ = some (.slice aa S.items.length cc) := cell_p hblk0 1
  have k2 : w1.cell? ⟨q, 2, none⟩ = some (.int .i64 S.next) := cell_p hblk0 2
  by_cases hge : S.most ≤ S.items.length
  · have he' := Lib.hid (show eAdd S xs = 4 by rw [hed.out, if_neg (by decide), if_pos hge])
    clear hblk0 ho
    go_wp2
    go_quiet (fail)
    go_wp2
    go_ret2
    exact radd_err h'.out (hb1.out.drewN _) he'.out (by decide)
  · have hv := Lib.hid (add_ok (b := b) (show eAdd S xs = 0 by rw [hed.out, if_neg (by decide), if_neg hge]))
    obtain ⟨css, pA0, sA0, _⟩ := (ho.read (S' := fun b => q < b) (fun _ _ h => h) (fun k e => (ho.lt k e).1)).pairs
    have sA := Lib.hid (show Src w1 3 aa S.items.length css.flatten by have := sA0 S.items.length (Nat.le_refl _); rwa [List.take_of_length_le (by rw [pA0.1]; exact Nat.le_refl _)] at this)
    have pA := Lib.hid pA0
    have pO := Lib.hid pA0.ones
    have hno : nout xs = nrm xs := by unfold nout; rw [hal]; rfl
    have hit := Lib.hid (show repIt.rd (fun b => q < b) w1 ⟨S.next, nrm xs, b⟩ [.int .i64 S.next, .slice a1 m1 c1, .bool b] from repIt_rd.2 ⟨a1, m1, c1, rfl, hmc'.out, hcm'.out, SlR.ofI (by rw [← hno]; exact hrl.out) (fun x _ hx => Nat.lt_of_lt_of_le hlt (hfr.out x hx)), by show okI S.next; unfold okI; omega⟩)
    clear hblk0 ho pA0 sA0 hno
    go_wp2
    go_quiet (fail)
    go_wp2
    refine wp_region_tt (S := fun W => Below w1.heap.size w1 W) 16 (by kernel_rfl) (by kernel_rfl) ⟨rfl, rfl, rfl, Nat.le_refl _, fun _ _ => rfl⟩ (fun _ => ?_)
    have hHeld : Below w1.heap.size w1 (w1.drewN (nq + 1)) := ⟨rfl, rfl, rfl, Nat.le_refl _, fun _ _ => rfl⟩
    refine tt_take (i := 0) (v := _) (by rfl) (by decide +kernel) (by exact fun _ _ _ h => h) (Or.inl ⟨by rfl, by (intro W hSw; (try dsimp only at hSw); go_simp <;> with_reducible rfl)⟩) (by assumption) ?_
    (try simp only [Act.put, List.setIfInBounds_toArray, List.set_cons_zero, List.set_cons_succ])
    refine tt_take (i := 2) (v := _) (by rfl) (by decide +kernel) (by exact fun _ _ _ h => h) (Or.inl ⟨by rfl, by (intro W hSw; (try dsimp only at hSw); go_simp <;> with_reducible rfl)⟩) (by assumption) ?_
    (try simp only [Act.put, List.setIfInBounds_toArray, List.set_cons_zero, List.set_cons_succ])
    refine tt_take (i := 3) (v := _) (by rfl) (by decide +kernel) (by exact fun _ _ _ h => h) (Or.inl ⟨by rfl, by (intro W hSw; (try dsimp only at hSw); go_simp <;> with_reducible rfl)⟩) (by assumption) ?_
    (try simp only [Act.put, List.setIfInBounds_toArray, List.set_cons_zero, List.set_cons_succ])
    refine tt_take (i := 4) (v := _) (by rfl) (by decide +kernel) (by exact fun _ _ _ h => h) (Or.inl ⟨by rfl, by (intro W hSw; (try dsimp only at hSw); go_simp <;> with_reducible rfl)⟩) (by assumption) ?_
    (try simp only [Act.put, List.setIfInBounds_toArray, List.set_cons_zero, List.set_cons_succ])
    refine tt_take (i := 5) (v := _) (by rfl) (by decide +kernel) (by exact fun _ _ _ h => h) (Or.inl ⟨by rfl, by (intro W hSw; have hq1 := keep_cell (p := ⟨q, 1, none⟩) hSw k1; go_simp <;> with_reducible rfl)⟩) (by assumption) ?_
    (try simp only [Act.put, List.setIfInBounds_toArray, List.set_cons_zero, List.set_cons_succ])
    refine tt_take (i := 7) (v := _) (by rfl) (by decide +kernel) (by exact fun _ _ _ h => h) (Or.inl ⟨by rfl, by (intro W hSw; (try dsimp only at hSw); go_simp <;> with_reducible rfl)⟩) (by assumption) ?_
    (try simp only [Act.put, List.setIfInBounds_toArray, List.set_cons_zero, List.set_cons_succ])
    refine tt_take (i := 8) (v := _) (by rfl) (by decide +kernel) (by exact fun _ _ _ h => h) (Or.inl ⟨by rfl, by (intro W hSw; (try dsimp only at hSw); go_simp <;> with_reducible rfl)⟩) (by assumption) ?_
    (try simp only [Act.put, List.setIfInBounds_toArray, List.set_cons_zero, List.set_cons_succ])
    refine tt_take (i := 9) (v := _) (by rfl) (by decide +kernel) (by exact fun _ _ _ h => h) (Or.inl ⟨by rfl, by (intro W hSw; (try dsimp only at hSw); go_simp <;> with_reducible rfl)⟩) (by assumption) ?_
    (try simp only [Act.put, List.setIfInBounds_toArray, List.set_cons_zero, List.set_cons_succ])
    refine tt_take (i := 10) (v := _) (by rfl) (by decide +kernel) (by exact fun _ _ _ h => h) (Or.inl ⟨by rfl, by (intro W hSw; have hq1 := keep_cell (p := ⟨q, 2, none⟩) hSw k2; go_simp <;> with_reducible rfl)⟩) (by assumption) ?_
    (try simp only [Act.put, List.setIfInBounds_toArray, List.set_cons_zero, List.set_cons_succ])
    refine tt_take (i := 11) (v := _) (by rfl) (by decide +kernel) (by exact fun _ _ _ h => h) (Or.inl ⟨by rfl, by (intro W hSw; (try dsimp only at hSw); go_simp <;> with_reducible rfl)⟩) (by assumption) ?_
    (try simp only [Act.put, List.setIfInBounds_toArray, List.set_cons_zero, List.set_cons_succ])
    refine tt_take (i := 12) (v := _) (by rfl) (by decide +kernel) (by exact fun _ _ _ h => h) (Or.inl ⟨by rfl, by (intro W hSw; (try dsimp only at hSw); go_simp <;> with_reducible rfl)⟩) (by assumption) ?_
    (try simp only [Act.put, List.setIfInBounds_toArray, List.set_cons_zero, List.set_cons_succ])
    refine tt_take (i := 13) (v := _) (by rfl) (by decide +kernel) (by exact fun _ _ _ h => h) (Or.inl ⟨by rfl, by (intro W hSw; (try dsimp only at hSw); go_simp <;> with_reducible rfl)⟩) (by assumption) ?_
    (try simp only [Act.put, List.setIfInBounds_toArray, List.set_cons_zero, List.set_cons_succ])
    refine tt_ready (rs := [1, 14]) (by decide +kernel) (allT_cons (by rfl) (fun K hK => ?_) (allT_cons (by rfl) (fun K hK => ?_) allT_nil))
    · skip
      go_simp
      refine hK.out _ _ (by (exact keep_alloc (by assumption) _)) (fun hHeld2 => ?_)
      clear hK K
      (try simp only [Act.put, List.setIfInBounds_toArray, List.set_cons_zero, List.set_cons_succ])
      refine tt_ready (rs := [6, 14]) (by decide +kernel) (allT_cons (by rfl) (fun K hK => ?_) (allT_cons (by rfl) (fun K hK => ?_) allT_nil))
      · skip
        refine step_append_C (base := w1.heap.size) (by rfl) (.tmp 27) (.tmp 31) (by rfl) Try.underlying27 hi hz0 hz1 hz2 hz3 (by decide) (Eq.refl (Value.slice _ _ _)) (by rfl) (by first | exact OwnC.lit0 (by simp) (by simp) | exact (OwnC.lit0 (by simp) (by simp)).alloc _) (Src.keep sA.out (by assumption)) pO.out (by unfold maxLen; omega) (by omega) (Below.size (w := w1) (by assumption)) ?_
        intro v' w2 ho2 hg2 _
        rw [Nat.zero_add, List.nil_append] at ho2
        obtain ⟨a', c', rfl, _, _⟩ := ho2.slice
        first
        | have L1 := Lib.hid (CellsF.push (s := w1.heap.size + 1) (us := [Value.int .i64 S.next, .slice a1 m1 c1, .bool b]) hg2 (CellsF.lit3 (by simp)) (by simp [Value.ownBlock]))
        | have L1 := Lib.hid (CellsF.push (s := w1.heap.size) (us := [Value.int .i64 S.next, .slice a1 m1 c1, .bool b]) hg2 ((CellsF.lit3 (by simp)).more _) (by simp [Value.ownBlock]))
        | have L1 := Lib.hid True.intro
        refine hK.out _ _ (by (exact keep_push (by assumption) hg2 (by intro k hk; simp [Value.ownBlock] at hk; omega))) (fun hHeld3 => ?_)
        clear hK K
        (try simp only [Act.put, List.setIfInBounds_toArray, List.set_cons_zero, List.set_cons_succ])
        refine tt_ready (rs := [14]) (by decide +kernel) (allT_cons (by rfl) (fun K hK => ?_) allT_nil)
        go_simp
        refine hK.out _ _ (by (exact keep_alloc (by assumption) _)) (fun hHeld4 => ?_)
        clear hK K
        (try simp only [Act.put, List.setIfInBounds_toArray, List.set_cons_zero, List.set_cons_succ])
        refine tt_ready (rs := [15]) (by decide +kernel) (allT_cons (by rfl) (fun K hK => ?_) allT_nil)
        refine step_append_C (base := w1.heap.size) (by rfl) (.tmp 32) (.tmp 40) (by rfl) Try.underlying27 hi hz0 hz1 hz2 hz3 (by decide) (Eq.refl (Value.slice _ _ _)) (by rfl) (by first | exact ho2 | exact ho2.alloc _) (by first | exact Src.lit L1.out rfl | exact Src.lit (CellsF.lit3 (by first | rfl | simp)) rfl) item_one (by unfold maxLen; omega) (by omega) (Below.size (w := w1) (by assumption)) ?_
        intro v' w3 ho3 hg3 _
        obtain ⟨a'', c'', rfl, _, _⟩ := ho3.slice
        refine hK.out _ _ (by (exact keep_push (by assumption) hg3 (fun k hk => by first | exact (ho2.lt k hk).1 | exact ((ho2.alloc _).lt k hk).1))) (fun hHeld5 => ?_)
        clear hK K
        (try simp only [Act.put, List.setIfInBounds_toArray, List.set_cons_zero, List.set_cons_succ])
        refine tt_tail (by decide +kernel) ?_
        simp only [List.drop_succ_cons, List.drop_zero]
        have hB3 : Below w1.heap.size w1 w3 := by assumption
        have O3 := Lib.hid (((pA.out.append (Pairs.one hit.out)).below hB3).own (by rw [List.flatten_append, List.flatten_singleton]; exact ho3.lower R1.out.lt) (by simp))
        have B3 := Lib.hid hB3
        have g1 := keep_cell (p := ⟨q, 1, none⟩) hB3 k1
        have g2 := keep_cell (p := ⟨q, 2, none⟩) hB3 k2
        have f1 := (frz_p (hB3.block q R1.out.lt |>.trans hblk.out) 1)
        have f2 := (frz_p (hB3.block q R1.out.lt |>.trans hblk.out) 2)
        clear ho2 ho3 hg2 hg3 L1 hB3 k1 k2
        go_wp2
        go_ret2
        obtain ⟨t1, s1⟩ := R1.out.setItems B3.out O3.out
        obtain ⟨t2, s2⟩ := t1.setNext (S.next + 1)
        refine ⟨by rw [hv.out.1, hv.out.2.1] <;> rfl, ?_, (Touch.of_below hb1.out).trans (s1.trans s2)⟩
        rw [hv.out.2.2]
        exact t2
      · skip
        go_simp
        refine hK.out _ _ (by (exact keep_alloc (by assumption) _)) (fun hHeld3 => ?_)
        clear hK K
        (try simp only [Act.put, List.setIfInBounds_toArray, List.set_cons_zero, List.set_cons_succ])
        refine tt_ready (rs := [6]) (by decide +kernel) (allT_cons (by rfl) (fun K hK => ?_) allT_nil)
        refine step_append_C (base := w1.heap.size) (by rfl) (.tmp 27) (.tmp 31) (by rfl) Try.underlying27 hi hz0 hz1 hz2 hz3 (by decide) (Eq.refl (Value.slice _ _ _)) (by rfl) (by first | exact OwnC.lit0 (by simp) (by simp) | exact (OwnC.lit0 (by simp) (by simp)).alloc _) (Src.keep sA.out (by assumption)) pO.out (by unfold maxLen; omega) (by omega) (Below.size (w := w1) (by assumption)) ?_
        intro v' w2 ho2 hg2 _
        rw [Nat.zero_add, List.nil_append] at ho2
        obtain ⟨a', c', rfl, _, _⟩ := ho2.slice
        first
        | have L1 := Lib.hid (CellsF.push (s := w1.heap.size + 1) (us := [Value.int .i64 S.next, .slice a1 m1 c1, .bool b]) hg2 (CellsF.lit3 (by simp)) (by simp [Value.ownBlock]))
        | have L1 := Lib.hid (CellsF.push (s := w1.heap.size) (us := [Value.int .i64 S.next, .slice a1 m1 c1, .bool b]) hg2 ((CellsF.lit3 (by simp)).more _) (by simp [Value.ownBlock]))
        | have L1 := Lib.hid True.intro
        refine hK.out _ _ (by (exact keep_push (by assumption) hg2 (by intro k hk; simp [Value.ownBlock] at hk; omega))) (fun hHeld4 => ?_)
        clear hK K
        (try simp only [Act.put, List.setIfInBounds_toArray, List.set_cons_zero, List.set_cons_succ])
        refine tt_ready (rs := [15]) (by decide +kernel) (allT_cons (by rfl) (fun K hK => ?_) allT_nil)
        refine step_append_C (base := w1.heap.size) (by rfl) (.tmp 32) (.tmp 40) (by rfl) Try.underlying27 hi hz0 hz1 hz2 hz3 (by decide) (Eq.refl (Value.slice _ _ _)) (by rfl) (by first | exact ho2 | exact ho2.alloc _) (by first | exact Src.lit L1.out rfl | exact Src.lit (CellsF.lit3 (by first | rfl | simp)) rfl) item_one (by unfold maxLen; omega) (by omega) (Below.size (w := w1) (by assumption)) ?_
        intro v' w3 ho3 hg3 _
        obtain ⟨a'', c'', rfl, _, _⟩ := ho3.slice
        refine hK.out _ _ (by (exact keep_push (by assumption) hg3 (fun k hk => by first | exact (ho2.lt k hk).1 | exact ((ho2.alloc _).lt k hk).1))) (fun hHeld5 => ?_)
        clear hK K
        (try simp only [Act.put, List.setIfInBounds_toArray, List.set_cons_zero, List.set_cons_succ])
        refine tt_tail (by decide +kernel) ?_
        simp only [List.drop_succ_cons, List.drop_zero]
        have hB3 : Below w1.heap.size w1 w3 := by assumption
        have O3 := Lib.hid (((pA.out.append (Pairs.one hit.out)).below hB3).own (by rw [List.flatten_append, List.flatten_singleton]; exact ho3.lower R1.out.lt) (by simp))
        have B3 := Lib.hid hB3
        have g1 := keep_cell (p := ⟨q, 1, none⟩) hB3 k1
        have g2 := keep_cell (p := ⟨q, 2, none⟩) hB3 k2
        have f1 := (frz_p (hB3.block q R1.out.lt |>.trans hblk.out) 1)
        have f2 := (frz_p (hB3.block q R1.out.lt |>.trans hblk.out) 2)
        clear ho2 ho3 hg2 hg3 L1 hB3 k1 k2
        go_wp2
        go_ret2
        obtain ⟨t1, s1⟩ := R1.out.setItems B3.out O3.out
        obtain ⟨t2, s2⟩ := t1.setNext (S.next + 1)
        refine ⟨by rw [hv.out.1, hv.out.2.1] <;> rfl, ?_, (Touch.of_below hb1.out).trans (s1.trans s2)⟩
        rw [hv.out.2.2]
        exact t2
    · skip
      go_simp
      refine hK.out _ _ (by (exact keep_alloc (by assumption) _)) (fun hHeld2 => ?_)
      clear hK K
      (try simp only [Act.put, List.setIfInBounds_toArray, List.set_cons_zero, List.set_cons_succ])
      refine tt_ready (rs := [1]) (by decide +kernel) (allT_cons (by rfl) (fun K hK => ?_) allT_nil)
      go_simp
      refine hK.out _ _ (by (exact keep_alloc (by assumption) _)) (fun hHeld3 => ?_)
      clear hK K
      (try simp only [Act.put, List.setIfInBounds_toArray, List.set_cons_zero, List.set_cons_succ])
      refine tt_ready (rs := [6]) (by decide +kernel) (allT_cons (by rfl) (fun K hK => ?_) allT_nil)
      refine step_append_C (base := w1.heap.size) (by rfl) (.tmp 27) (.tmp 31) (by rfl) Try.underlying27 hi hz0 hz1 hz2 hz3 (by decide) (Eq.refl (Value.slice _ _ _)) (by rfl) (by first | exact OwnC.lit0 (by simp) (by simp) | exact (OwnC.lit0 (by simp) (by simp)).alloc _) (Src.keep sA.out (by assumption)) pO.out (by unfold maxLen; omega) (by omega) (Below.size (w := w1) (by assumption)) ?_
      intro v' w2 ho2 hg2 _
      rw [Nat.zero_add, List.nil_append] at ho2
      obtain ⟨a', c', rfl, _, _⟩ := ho2.slice
      first
      | have L1 := Lib.hid (CellsF.push (s := w1.heap.size + 1) (us := [Value.int .i64 S.next, .slice a1 m1 c1, .bool b]) hg2 (CellsF.lit3 (by simp)) (by simp [Value.ownBlock]))
      | have L1 := Lib.hid (CellsF.push (s := w1.heap.size) (us := [Value.int .i64 S.next, .slice a1 m1 c1, .bool b]) hg2 ((CellsF.lit3 (by simp)).more _) (by simp [Value.ownBlock]))
      | have L1 := Lib.hid True.intro
      refine hK.out _ _ (by (exact keep_push (by assumption) hg2 (by intro k hk; simp [Value.ownBlock] at hk; omega))) (fun hHeld4 => ?_)
      clear hK K
      (try simp only [Act.put, List.setIfInBounds_toArray, List.set_cons_zero, List.set_cons_succ])
      refine tt_ready (rs := [15]) (by decide +kernel) (allT_cons (by rfl) (fun K hK => ?_) allT_nil)
      refine step_append_C (base := w1.heap.size) (by rfl) (.tmp 32) (.tmp 40) (by rfl) Try.underlying27 hi hz0 hz1 hz2 hz3 (by decide) (Eq.refl (Value.slice _ _ _)) (by rfl) (by first | exact ho2 | exact ho2.alloc _) (by first | exact Src.lit L1.out rfl | exact Src.lit (CellsF.lit3 (by first | rfl | simp)) rfl) item_one (by unfold maxLen; omega) (by omega) (Below.size (w := w1) (by assumption)) ?_
      intro v' w3 ho3 hg3 _
      obtain ⟨a'', c'', rfl, _, _⟩ := ho3.slice
      refine hK.out _ _ (by (exact keep_push (by assumption) hg3 (fun k hk => by first | exact (ho2.lt k hk).1 | exact ((ho2.alloc _).lt k hk).1))) (fun hHeld5 => ?_)
      clear hK K
      (try simp only [Act.put, List.setIfInBounds_toArray, List.set_cons_zero, List.set_cons_succ])
      refine tt_tail (by decide +kernel) ?_
      simp only [List.drop_succ_cons, List.drop_zero]
      have hB3 : Below w1.heap.size w1 w3 := by assumption
      have O3 := Lib.hid (((pA.out.append (Pairs.one hit.out)).below hB3).own (by rw [List.flatten_append, List.flatten_singleton]; exact ho3.lower R1.out.lt) (by simp))
      have B3 := Lib.hid hB3
      have g1 := keep_cell (p := ⟨q, 1, none⟩) hB3 k1
      have g2 := keep_cell (p := ⟨q, 2, none⟩) hB3 k2
      have f1 := (frz_p (hB3.block q R1.out.lt |>.trans hblk.out) 1)
      have f2 := (frz_p (hB3.block q R1.out.lt |>.trans hblk.out) 2)
      clear ho2 ho3 hg2 hg3 L1 hB3 k1 k2
      go_wp2
      go_ret2
      obtain ⟨t1, s1⟩ := R1.out.setItems B3.out O3.out
      obtain ⟨t2, s2⟩ := t1.setNext (S.next + 1)
      refine ⟨by rw [hv.out.1, hv.out.2.1] <;> rfl, ?_, (Touch.of_below hb1.out).trans (s1.trans s2)⟩
      rw [hv.out.2.2]
      exact t2
/-! ### Forget -/
theorem filter_pos {l : List Item} {x : Int} {k : Nat} {it : Item} (hnd : l.Pairwise fun a b => a.id ≠ b.id) (hk : l[k]? = some it) (hx : it.id = x) : l.filter (fun it => it.id != x) = l.take k ++ l.drop (k + 1) := by
  have hkl := (List.getElem?_eq_some_iff.1 hk).1
  have hsp : l = l.take k ++ (it :: l.drop (k + 1)) := by
    have h1 := List.take_append_drop k l
    rw [List.drop_eq_getElem_cons hkl, (List.getElem?_eq_some_iff.1 hk).2] at h1
    exact h1.symm
  rw [hsp, List.pairwise_append] at hnd
  obtain ⟨_, h2, h3⟩ := hnd
  rw [List.pairwise_cons] at h2
  have e1 : (l.take k).filter (fun it => it.id != x) = l.take k := by
    rw [List.filter_eq_self]
    intro a ha
    have := h3 a ha it (by simp)
    rw [hx] at this
    simpa using this
  have e2 : (l.drop (k + 1)).filter (fun it => it.id != x) = l.drop (k + 1) := by
    rw [List.filter_eq_self]
    intro a ha
    have := h2.1 a ha
    rw [hx] at this
    simpa using Ne.symm this
  have e3 : (it.id != x) = false := by simp [hx]
  have : l.filter (fun it => it.id != x) = (l.take k ++ (it :: l.drop (k + 1))).filter (fun it => it.id != x) := congrArg (List.filter _) hsp
  rw [this, List.filter_append, List.filter_cons, e1, e2, e3]
  rfl
def RForgetPost (q : Nat) (S : St) (x : Int) (w : World) (e : Ending) (w' : World) : Prop :=
  e = .returned (.int .i64 (eForget S x)) ∧ RStIs q (sForget S x) w' ∧ Touch (fun k => k = q) w w'
theorem rforget_no {q : Nat} {S : St} {x z : Int} {w : World} (h : RStIs q S w) (he : eForget S x = z) (h0 : z ≠ 0) : RForgetPost q S x w (.returned (.int .i64 z)) w := by
  have hs : sForget S x = S := by unfold sForget; rw [if_neg (by rw [he]; exact h0)]
  exact ⟨by rw [he], by rw [hs]; exact h, Touch.refl _ _⟩
set_option maxRecDepth 100000 in
set_option maxHeartbeats 4000000 in
theorem forget19_any (q : Nat) (S : St) (x : Int) (w : World) (h : RStIs q S w) (hl : S.items.length < 1099511627776) (hnd : S.items.Pairwise fun a b => a.id ≠ b.id) :
    Calls Try.prog 9 #[.pointer (some ⟨q, 0, none⟩), .int .i64 x] w fun e w' => RForgetPost q S x w e w' := by
  have h' := Lib.hid h
  have hfc := Lib.hid (find19_any q S x w h hl)
  have hidx := idxP_find (p := fun it : Item => it.id == x) S.items 0
  have e1 : List.find? (fun it : Item => it.id == x) S.items = findIt S.items x := rfl
  have e2 : idxP (fun it : Item => it.id == x) S.items 0 = posIt S.items x := rfl
  rw [e1, e2] at hidx
  clear e1 e2
  obtain ⟨i0, z0, hi, hz0, hz1, hz2, hz3⟩ := info_item1
  cases hf : findIt S.items x with
  | none =>
    rw [hf] at hidx
    dsimp only at hidx
    rw [hidx] at hfc
    have he := Lib.hid (eForget_none hf)
    clear hidx hf h
    go_enter Try.func9, Try.ntmps9
    go_wp2_with fail
    refine hfc.out.mono ?_; rintro e w' ⟨rfl, rfl⟩
    go_wp2
    go_ret
    exact rforget_no h'.out he.out (by decide)
  | some it =>
    rw [hf] at hidx
    dsimp only at hidx
    obtain ⟨k, hk1, hk2, _⟩ := hidx
    rw [Nat.zero_add] at hk1
    rw [hk1] at hfc
    have hkl := (List.getElem?_eq_some_iff.1 hk2).1
    have hid : it.id = x := by
      have := List.find?_some (p := fun it : Item => it.id == x) hf
      simpa using this
    have he := Lib.hid (eForget_some hf)
    obtain ⟨aa, cc, hblk0, hic, hcx, ho⟩ := h.look
    have hblk := Lib.hid hblk0
    have k1 : w.cell? ⟨q, 1, none⟩ = some (.slice aa S.items.length cc) := cell_p hblk0 1
    have hrd := ho.read (S' := fun b => q < b) (fun _ _ h => h) (fun k e => (ho.lt k e).1)
    obtain ⟨b, o, a', c', rfl, _, _, q2, _⟩ := hrd.itAt hk2
    have hkn : 0 ≤ (k : Int) := by omega
    have hw1 : IntKind.i64.wrap ((k : Int) + 1) = (k : Int) + 1 := by simp [IntKind.wrap, IntKind.bits, IntKind.signed]; omega
    cases hlr : it.learned
    · rw [hlr] at he q2
      clear hk1 hf hblk0 ho hrd h
      go_enter Try.func9, Try.ntmps9
      go_wp2_with fail
      refine hfc.out.mono ?_; rintro e w' ⟨rfl, rfl⟩
      go_wp2
      go_ret
      exact rforget_no h'.out (show eForget S x = 1 from he.out) (by decide)
    · rw [hlr] at he q2
      have hv := Lib.hid (show eForget S x = 0 ∧ sForget S x = { S with items := S.items.take k ++ S.items.drop (k + 1) } from ⟨he.out, by unfold sForget; rw [if_pos (show eForget S x = 0 from he.out), filter_pos hnd hk2 hid]⟩)
      obtain ⟨css, pA0, sA0, sB0⟩ := hrd.pairs
      have sT := Lib.hid (show Src w 3 (some ⟨b, o, none⟩) k (css.take k).flatten from sA0 k (by omega))
      have sD := Lib.hid (show Src w 3 (fromA (some ⟨b, o, none⟩) cc (k + 1) 3) (S.items.length - (k + 1)) (css.drop (k + 1)).flatten from sB0 (k + 1) (by omega) cc hic)
      have pA := Lib.hid ((pA0.take k).append (pA0.drop (k + 1)))
      have pT := Lib.hid (pA0.take k).ones
      have pD := Lib.hid (pA0.drop (k + 1)).ones
      have hln := Lib.hid (show k + (S.items.length - (k + 1)) = (S.items.take k ++ S.items.drop (k + 1)).length by rw [List.length_append, List.length_take, List.length_drop]; omega)
      have r1 := run_take2 (P := Try.prog) (t := 27) (a := some ⟨b, o, none⟩) (k := k) Try.underlying27 size_item (by omega) hic
      have r2 : ∀ W, (Instr.slice 27 (.slice (some ⟨b, o, none⟩) S.items.length cc) (some (.int .i64 ((k : Int) + 1))) none none).run Try.prog W = .ok (.slice (fromA (some ⟨b, o, none⟩) cc (k + 1) 3) (S.items.length - (k + 1)) (cc - (k + 1))) W := fun W => run_from2 (P := Try.prog) (k := k + 1) Try.underlying27 size_item (by omega) hic W
      clear hk1 hf hblk0 ho hrd h pA0 sA0 sB0 hnd hk2 hid
      go_enter Try.func9, Try.ntmps9
      go_wp2_with fail
      refine hfc.out.mono ?_; rintro e w' ⟨rfl, rfl⟩
      go_wp2
      refine wp_region_tt (S := fun W => Below w.heap.size w W) 17 (by kernel_rfl) (by kernel_rfl) ⟨rfl, rfl, rfl, Nat.le_refl _, fun _ _ => rfl⟩ (fun _ => ?_)
      have hHeld : Below w.heap.size w w.drew := ⟨rfl, rfl, rfl, Nat.le_refl _, fun _ _ => rfl⟩
      refine tt_take (i := 0) (v := _) (by rfl) (by decide +kernel) (by exact fun _ _ _ h => h) (Or.inl ⟨by rfl, by (intro W hSw; (try dsimp only at hSw); go_simp <;> with_reducible rfl)⟩) (by assumption) ?_
      (try simp only [Act.put, List.setIfInBounds_toArray, List.set_cons_zero, List.set_cons_succ])
      refine tt_take (i := 2) (v := _) (by rfl) (by decide +kernel) (by exact fun _ _ _ h => h) (Or.inl ⟨by rfl, by (intro W hSw; (try dsimp only at hSw); go_simp <;> with_reducible rfl)⟩) (by assumption) ?_
      (try simp only [Act.put, List.setIfInBounds_toArray, List.set_cons_zero, List.set_cons_succ])
      refine tt_take (i := 3) (v := _) (by rfl) (by decide +kernel) (by exact fun _ _ _ h => h) (Or.inl ⟨by rfl, by (intro W hSw; (try dsimp only at hSw); go_simp <;> with_reducible rfl)⟩) (by assumption) ?_
      (try simp only [Act.put, List.setIfInBounds_toArray, List.set_cons_zero, List.set_cons_succ])
      refine tt_take (i := 4) (v := _) (by rfl) (by decide +kernel) (by exact fun _ _ _ h => h) (Or.inl ⟨by rfl, by (intro W hSw; (try dsimp only at hSw); go_simp <;> with_reducible rfl)⟩) (by assumption) ?_
      (try simp only [Act.put, List.setIfInBounds_toArray, List.set_cons_zero, List.set_cons_succ])
      refine tt_take (i := 5) (v := _) (by rfl) (by decide +kernel) (by exact fun _ _ _ h => h) (Or.inl ⟨by rfl, by (intro W hSw; have hq1 := keep_cell (p := ⟨q, 1, none⟩) hSw k1; go_simp <;> with_reducible rfl)⟩) (by assumption) ?_
      (try simp only [Act.put, List.setIfInBounds_toArray, List.set_cons_zero, List.set_cons_succ])
      refine tt_take (i := 6) (v := _) (by rfl) (by decide +kernel) (by exact fun _ _ _ h => h) (Or.inl ⟨by rfl, by (intro W hSw; (try dsimp only at hSw); go_simp <;> with_reducible rfl)⟩) (by assumption) ?_
      (try simp only [Act.put, List.setIfInBounds_toArray, List.set_cons_zero, List.set_cons_succ])
      refine tt_take (i := 7) (v := _) (by rfl) (by decide +kernel) (by exact fun _ _ _ h => h) (Or.inl ⟨by rfl, by (intro W hSw; (try dsimp only at hSw); go_simp <;> with_reducible rfl)⟩) (by assumption) ?_
      (try simp only [Act.put, List.setIfInBounds_toArray, List.set_cons_zero, List.set_cons_succ])
      refine tt_take (i := 9) (v := _) (by rfl) (by decide +kernel) (by exact fun _ _ _ h => h) (Or.inl ⟨by rfl, by (intro W hSw; (try dsimp only at hSw); go_simp <;> with_reducible rfl)⟩) (by assumption) ?_
      (try simp only [Act.put, List.setIfInBounds_toArray, List.set_cons_zero, List.set_cons_succ])
      refine tt_take (i := 10) (v := _) (by rfl) (by decide +kernel) (by exact fun _ _ _ h => h) (Or.inl ⟨by rfl, by (intro W hSw; (try dsimp only at hSw); go_simp <;> with_reducible rfl)⟩) (by assumption) ?_
      (try simp only [Act.put, List.setIfInBounds_toArray, List.set_cons_zero, List.set_cons_succ])
      refine tt_take (i := 11) (v := _) (by rfl) (by decide +kernel) (by exact fun _ _ _ h => h) (Or.inl ⟨by rfl, by (intro W hSw; (try dsimp only at hSw); go_simp <;> with_reducible rfl)⟩) (by assumption) ?_
      (try simp only [Act.put, List.setIfInBounds_toArray, List.set_cons_zero, List.set_cons_succ])
      refine tt_take (i := 12) (v := _) (by rfl) (by decide +kernel) (by exact fun _ _ _ h => h) (Or.inl ⟨by rfl, by (intro W hSw; have hq1 := keep_cell (p := ⟨q, 1, none⟩) hSw k1; go_simp <;> with_reducible rfl)⟩) (by assumption) ?_
      (try simp only [Act.put, List.setIfInBounds_toArray, List.set_cons_zero, List.set_cons_succ])
      refine tt_take (i := 13) (v := _) (by rfl) (by decide +kernel) (by exact fun _ _ _ h => h) (Or.inl ⟨by rfl, by (intro W hSw; (try dsimp only at hSw); go_simp <;> with_reducible rfl)⟩) (by assumption) ?_
      (try simp only [Act.put, List.setIfInBounds_toArray, List.set_cons_zero, List.set_cons_succ])
      refine tt_take (i := 14) (v := _) (by rfl) (by decide +kernel) (by exact fun _ _ _ h => h) (Or.inl ⟨by rfl, by (intro W hSw; (try dsimp only at hSw); go_simp <;> with_reducible rfl)⟩) (by assumption) ?_
      (try simp only [Act.put, List.setIfInBounds_toArray, List.set_cons_zero, List.set_cons_succ])
      refine tt_take (i := 15) (v := _) (by rfl) (by decide +kernel) (by exact fun _ _ _ h => h) (Or.inl ⟨by rfl, by (intro W hSw; (try dsimp only at hSw); go_simp <;> with_reducible rfl)⟩) (by assumption) ?_
      (try simp only [Act.put, List.setIfInBounds_toArray, List.set_cons_zero, List.set_cons_succ])
      refine tt_ready (rs := [1]) (by decide +kernel) (allT_cons (by rfl) (fun K hK => ?_) allT_nil)
      go_simp
      refine hK.out _ _ (by (exact keep_alloc (by assumption) _)) (fun hHeld2 => ?_)
      clear hK K
      (try simp only [Act.put, List.setIfInBounds_toArray, List.set_cons_zero, List.set_cons_succ])
      refine tt_ready (rs := [8]) (by decide +kernel) (allT_cons (by rfl) (fun K hK => ?_) allT_nil)
      refine step_append_C (base := w.heap.size) (by rfl) (.tmp 23) (.tmp 29) (by rfl) Try.underlying27 hi hz0 hz1 hz2 hz3 (by decide) (Eq.refl (Value.slice _ _ _)) (by rfl) (OwnC.lit0 (by simp) (by simp)) (Src.keep sT.out (by assumption)) pT.out (by unfold maxLen; omega) (by omega) (Below.size (w := w) (by assumption)) ?_
      intro v' w2 ho2 hg2 _
      rw [Nat.zero_add, List.nil_append] at ho2
      obtain ⟨a', c', rfl, _, _⟩ := ho2.slice
      refine hK.out _ _ (by (exact keep_push (by assumption) hg2 (by intro k hk; simp [Value.ownBlock] at hk; omega))) (fun hHeld3 => ?_)
      clear hK K
      (try simp only [Act.put, List.setIfInBounds_toArray, List.set_cons_zero, List.set_cons_succ])
      refine tt_ready (rs := [16]) (by decide +kernel) (allT_cons (by rfl) (fun K hK => ?_) allT_nil)
      refine step_append_C (base := w.heap.size) (by rfl) (.tmp 30) (.tmp 37) (by rfl) Try.underlying27 hi hz0 hz1 hz2 hz3 (by decide) (Eq.refl (Value.slice _ _ _)) (by rfl) ho2 (Src.keep sD.out (by assumption)) pD.out (by unfold maxLen; omega) (by omega) (Below.size (w := w) (by assumption)) ?_
      intro v' w3 ho3 hg3 _
      obtain ⟨a'', c'', rfl, _, _⟩ := ho3.slice
      refine hK.out _ _ (by (exact keep_push (by assumption) hg3 (fun k hk => (ho2.lt k hk).1))) (fun hHeld4 => ?_)
      clear hK K
      (try simp only [Act.put, List.setIfInBounds_toArray, List.set_cons_zero, List.set_cons_succ])
      refine tt_tail (by decide +kernel) ?_
      simp only [List.drop_succ_cons, List.drop_zero]
      have hB3 : Below w.heap.size w w3 := by assumption
      have O3 := Lib.hid ((pA.out.below hB3).own (by rw [List.flatten_append]; exact ho3.lower h'.out.lt) hln.out)
      have B3 := Lib.hid hB3
      have g1 := keep_cell (p := ⟨q, 1, none⟩) hB3 k1
      have f1 := (frz_p (hB3.block q h'.out.lt |>.trans hblk.out) 1)
      clear ho2 ho3 hg2 hg3 hB3 k1
      go_wp2
      go_ret
      obtain ⟨t1, s1⟩ := h'.out.setItems B3.out O3.out
      refine ⟨by rw [hv.out.1] <;> rfl, ?_, s1⟩
      rw [hv.out.2]
      exact t1
end Go.Proofs.Ytglbdkjdglcncaa
