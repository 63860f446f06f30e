/-
  theodoliteref6.Sorts: Name, Push, Pop. Conditions: a table in memory of fewer than 2^40 entries, whose marks rise and lie within.
-/
import Derived.Test.YtpkajhmgkmkcgaaDoorRC
import Derived.Test.YtpkajhmgkmkcgaaDoorSH
namespace Go.Proofs.YtpkajhmgkmkcgaaDoor
open Go.RowKit Go.Sort Go.Lib
variable {X : Nat → Prop}

theorem info_level : (Tryd.prog.info? 79).map (fun i => (i.zero, i.size, i.bytes)) = some (some (.agg #[.int .i64 0, .int .i64 0]), 2, 16) := by kernel_rfl
theorem info_level1 : ∃ (i : TypeInfo) (z : Value), Tryd.prog.info? 79 = some i ∧ i.zero = some z ∧ i.size = 2 ∧ i.bytes = 16 ∧ z.cells.size = 2 := by
  cases h : Tryd.prog.info? 79 with
  | none => exact absurd h (by decide +kernel)
  | some i =>
    have := info_level
    rw [h] at this
    simp at this
    exact ⟨i, _, rfl, this.1, this.2.1, this.2.2, rfl⟩
theorem OwnC.lits {w : World} {base : Nat} {e : TypeId} {us : List Value} (hb : base ≤ w.heap.size) (hn : us.length ≤ maxLen) : OwnC (w.alloc (.cells us.toArray e)) base e 1 (.slice (some ⟨w.heap.size, 0, none⟩) us.length us.length) us.length us := by
  refine ⟨by simp, .inr ⟨w.heap.size, us.length, us.toArray, rfl, hb, ?_, Nat.le_refl _, hn, by simp, by simp⟩⟩
  show (w.heap.push _)[w.heap.size]? = _
  simp
/-- the three cells of a struct -/
def C3 (p : Nat) (x y z : Value) (W : World) : Prop := W.cell? ⟨p, 0, none⟩ = some x ∧ W.cell? ⟨p, 1, none⟩ = some y ∧ W.cell? ⟨p, 2, none⟩ = some z
theorem cell_more2 {W : World} {y : Addr} {u : Value} (h : W.cell? y = some u) (o : Obj) : (W.alloc o).cell? y = some u := by
  rw [World.cell?_alloc_lt _ _ _ (World.block_lt_of_cell? W _ h)]; exact h
theorem C3.alloc {p : Nat} {x y z : Value} {W : World} (h : C3 p x y z W) (o : Obj) : C3 p x y z (W.alloc o) := ⟨cell_more2 h.1 o, cell_more2 h.2.1 o, cell_more2 h.2.2 o⟩
theorem C3.grown {p : Nat} {x y z : Value} {W W' : World} {row : Option Nat} (h : C3 p x y z W) (hg : W.grownBy W' row) (hp : p < W.heap.size) (hr : row ≠ some p) : C3 p x y z W' :=
  ⟨(cell_grown hg hp hr).trans h.1, (cell_grown hg hp hr).trans h.2.1, (cell_grown hg hp hr).trans h.2.2⟩
/-! ### Push -/
def RPushPost (X : Nat → Prop) (B p : Nat) (T : TabD) (w : World) (e : Ending) (w' : World) : Prop :=
  e = .returned (.tuple #[]) ∧ RefX X B p { T with marks := T.marks ++ [(T.sorts.length, T.funs.length)] } w' ∧ PStep p w w'
set_option maxRecDepth 100000 in
set_option maxHeartbeats 2000000 in
theorem rpush_any (B p : Nat) (T : TabD) (w : World) (h : RefX X B p T w) (hs : Small T) :
    Calls Tryd.prog 20 #[.pointer (some ⟨p, 0, none⟩)] w fun e w' => RPushPost X B p T w e w' := by
  have h' := Lib.hid h
  obtain ⟨a1, c1, a2, c2, a3, c3, hblk, o1, o2, o3⟩ := h.look
  have hC := Lib.hid (show C3 p (.slice a1 T.sorts.length c1) (.slice a2 T.funs.length c2) (.slice a3 T.marks.length c3) w from ⟨cell_p hblk 0, cell_p hblk 1, cell_p hblk 2⟩)
  have f2 : w.frozen? ⟨p, 2, none⟩ = false := frz_p hblk 2
  have hblk' := Lib.hid hblk
  obtain ⟨css, oc, ol, oe⟩ := o3
  have oc' := Lib.hid oc
  have ol' := Lib.hid ol
  have oe' := Lib.hid oe
  have hp3 := Lib.hid (show Value.ownBlock (.slice a3 T.marks.length c3) ≠ some p from fun e => ty_ne (by decide) (oc.ty p e) ⟨_, _, hblk⟩)
  have hplt := h.plt
  have hBs := Nat.le_trans h.bp (Nat.le_of_lt hplt)
  have s1 := hs.s
  have s2 := hs.f
  have s3 := hs.m
  obtain ⟨i0, z0, hi, hz0, hz1, hz2, hz3⟩ := info_level1
  clear h hblk o1 o2 oc ol oe hs
  go_enter Tryd.func20, Tryd.ntmps20
  go_wp2
  refine wp_region_tt (S := C3 p (.slice a1 T.sorts.length c1) (.slice a2 T.funs.length c2) (.slice a3 T.marks.length c3)) 18 (by kernel_rfl) (by kernel_rfl) hC.out (fun hHeld => ?_)
  refine tt_take (i := 0) (v := _) (by rfl) (by decide +kernel) (by exact fun _ _ _ h => h) (Or.inl ⟨by rfl, by (intro W hSw; (try dsimp only at hSw); go_simp <;> with_reducible rfl)⟩) (by assumption) ?_
  (try simp only [Act.put, List.setIfInBounds_toArray, List.set_cons_zero, List.set_cons_succ])
  refine tt_take (i := 1) (v := _) (by rfl) (by decide +kernel) (by exact fun _ _ _ h => h) (Or.inl ⟨by rfl, by (intro W hSw; (try dsimp only at hSw); go_simp <;> with_reducible rfl)⟩) (by assumption) ?_
  (try simp only [Act.put, List.setIfInBounds_toArray, List.set_cons_zero, List.set_cons_succ])
  refine tt_take (i := 2) (v := _) (by rfl) (by decide +kernel) (by exact fun _ _ _ h => h) (Or.inl ⟨by rfl, by (intro W hSw; (try dsimp only at hSw); go_simp <;> with_reducible rfl)⟩) (by assumption) ?_
  (try simp only [Act.put, List.setIfInBounds_toArray, List.set_cons_zero, List.set_cons_succ])
  refine tt_take (i := 3) (v := _) (by rfl) (by decide +kernel) (by exact fun _ _ _ h => h) (Or.inl ⟨by rfl, by (intro W hSw; (try dsimp only at hSw); go_simp <;> with_reducible rfl)⟩) (by assumption) ?_
  (try simp only [Act.put, List.setIfInBounds_toArray, List.set_cons_zero, List.set_cons_succ])
  refine tt_take (i := 4) (v := _) (by rfl) (by decide +kernel) (by exact fun _ _ _ h => h) (Or.inl ⟨by rfl, by (intro W hSw; have hq1 := hSw.2.2; go_simp <;> with_reducible rfl)⟩) (by assumption) ?_
  (try simp only [Act.put, List.setIfInBounds_toArray, List.set_cons_zero, List.set_cons_succ])
  refine tt_take (i := 5) (v := _) (by rfl) (by decide +kernel) (by exact fun _ _ _ h => h) (Or.inl ⟨by rfl, by (intro W hSw; (try dsimp only at hSw); go_simp <;> with_reducible rfl)⟩) (by assumption) ?_
  (try simp only [Act.put, List.setIfInBounds_toArray, List.set_cons_zero, List.set_cons_succ])
  refine tt_take (i := 6) (v := _) (by rfl) (by decide +kernel) (by exact fun _ _ _ h => h) (Or.inl ⟨by rfl, by (intro W hSw; (try dsimp only at hSw); go_simp <;> with_reducible rfl)⟩) (by assumption) ?_
  (try simp only [Act.put, List.setIfInBounds_toArray, List.set_cons_zero, List.set_cons_succ])
  refine tt_take (i := 7) (v := _) (by rfl) (by decide +kernel) (by exact fun _ _ _ h => h) (Or.inl ⟨by rfl, by (intro W hSw; (try dsimp only at hSw); go_simp <;> with_reducible rfl)⟩) (by assumption) ?_
  (try simp only [Act.put, List.setIfInBounds_toArray, List.set_cons_zero, List.set_cons_succ])
  refine tt_take (i := 8) (v := _) (by rfl) (by decide +kernel) (by exact fun _ _ _ h => h) (Or.inl ⟨by rfl, by (intro W hSw; have hq1 := hSw.1; go_simp <;> with_reducible rfl)⟩) (by assumption) ?_
  (try simp only [Act.put, List.setIfInBounds_toArray, List.set_cons_zero, List.set_cons_succ])
  refine tt_take (i := 9) (v := _) (by rfl) (by decide +kernel) (by exact fun _ _ _ h => h) (Or.inl ⟨by rfl, by (intro W hSw; (try dsimp only at hSw); go_simp <;> with_reducible rfl)⟩) (by assumption) ?_
  (try simp only [Act.put, List.setIfInBounds_toArray, List.set_cons_zero, List.set_cons_succ])
  refine tt_take (i := 10) (v := _) (by rfl) (by decide +kernel) (by exact fun _ _ _ h => h) (Or.inl ⟨by rfl, by (intro W hSw; (try dsimp only at hSw); go_simp <;> with_reducible rfl)⟩) (by assumption) ?_
  (try simp only [Act.put, List.setIfInBounds_toArray, List.set_cons_zero, List.set_cons_succ])
  refine tt_take (i := 11) (v := _) (by rfl) (by decide +kernel) (by exact fun _ _ _ h => h) (Or.inl ⟨by rfl, by (intro W hSw; (try dsimp only at hSw); go_simp <;> with_reducible rfl)⟩) (by assumption) ?_
  (try simp only [Act.put, List.setIfInBounds_toArray, List.set_cons_zero, List.set_cons_succ])
  refine tt_take (i := 12) (v := _) (by rfl) (by decide +kernel) (by exact fun _ _ _ h => h) (Or.inl ⟨by rfl, by (intro W hSw; (try dsimp only at hSw); go_simp <;> with_reducible rfl)⟩) (by assumption) ?_
  (try simp only [Act.put, List.setIfInBounds_toArray, List.set_cons_zero, List.set_cons_succ])
  refine tt_take (i := 13) (v := _) (by rfl) (by decide +kernel) (by exact fun _ _ _ h => h) (Or.inl ⟨by rfl, by (intro W hSw; have hq1 := hSw.2.1; go_simp <;> with_reducible rfl)⟩) (by assumption) ?_
  (try simp only [Act.put, List.setIfInBounds_toArray, List.set_cons_zero, List.set_cons_succ])
  refine tt_take (i := 14) (v := _) (by rfl) (by decide +kernel) (by exact fun _ _ _ h => h) (Or.inl ⟨by rfl, by (intro W hSw; (try dsimp only at hSw); go_simp <;> with_reducible rfl)⟩) (by assumption) ?_
  (try simp only [Act.put, List.setIfInBounds_toArray, List.set_cons_zero, List.set_cons_succ])
  refine tt_take (i := 15) (v := _) (by rfl) (by decide +kernel) (by exact fun _ _ _ h => h) (Or.inl ⟨by rfl, by (intro W hSw; (try dsimp only at hSw); go_simp <;> with_reducible rfl)⟩) (by assumption) ?_
  (try simp only [Act.put, List.setIfInBounds_toArray, List.set_cons_zero, List.set_cons_succ])
  refine tt_ready (rs := [16]) (by decide +kernel) (allT_cons (by rfl) (fun K hK => ?_) allT_nil)
  go_simp
  refine hK.out _ _ (by (exact C3.alloc (by assumption) _)) (fun hHeld2 => ?_)
  clear hK K
  (try simp only [Act.put, List.setIfInBounds_toArray, List.set_cons_zero, List.set_cons_succ])
  refine tt_ready (rs := [17]) (by decide +kernel) (allT_cons (by rfl) (fun K hK => ?_) allT_nil)
  refine step_append_C (by rfl) (.tmp 6) (.tmp 18) (by rfl) Tryd.underlying47 hi hz0 hz1 hz2 hz3 (by decide) (Eq.refl (Value.slice _ _ _)) (by rfl) (oc'.out.alloc _).drew (Src.one (b := w.heap.size) (news := [.int .i64 T.sorts.length, .int .i64 T.funs.length]) rfl (pair_new _ _ w _)) pair_one (by unfold maxLen; omega) (by omega) (by simp; omega) ?_
  intro v' w2 ho2 hg2 hl2
  obtain ⟨a', c', rfl, _, _⟩ := ho2.slice
  have hg2' := Lib.hid (grown_alloc (grown_drew hg2))
  have hl2' := Lib.hid (loc_alloc (loc_drew hl2))
  have ho2' := Lib.hid (OwnR.push (R := repM) (S := fun _ => False) (x := (T.sorts.length, T.funs.length)) ol'.out oe'.out (repM_rd.2 ⟨rfl, okI_len s1, okI_len s2⟩) ho2 (fun _ _ h => h.elim) (grown_alloc (grown_drew hg2)).size)
  have hC2 : C3 p (.slice a1 T.sorts.length c1) (.slice a2 T.funs.length c2) (.slice a3 T.marks.length c3) w2 := hC.out.grown hg2'.out hplt hp3.out
  have k2' := hC2.2.2
  have f2' := (frozen_grown (j := 2) hg2'.out hplt hp3.out).trans f2
  clear ho2 hg2 hl2
  refine hK.out _ _ (by (exact hC2)) (fun hHeld3 => ?_)
  clear hK K
  (try simp only [Act.put, List.setIfInBounds_toArray, List.set_cons_zero, List.set_cons_succ])
  refine tt_tail (by decide +kernel) ?_
  simp only [List.drop_succ_cons, List.drop_zero]
  go_wp2
  go_end0
  obtain ⟨t1, s1⟩ := h'.out.setMarks hblk'.out hg2'.out hl2'.out ho2'.out
  exact ⟨rfl, t1, s1⟩
/-! ### Name -/
set_option maxRecDepth 100000 in
set_option maxHeartbeats 1000000 in
theorem rnameOf_any (B p : Nat) (T : TabD) (s : Int) (w : World) (h : RefX X B p T w) (hl : T.sorts.length < 1099511627776) :
    Calls Tryd.prog 28 #[.pointer (some ⟨p, 0, none⟩), .int .i64 s] w fun e w' => e = .returned (.tuple #[.string (nameOf T s).1, .bool (nameOf T s).2]) ∧ Below w.heap.size w w' := by
  obtain ⟨a1, c1, a2, c2, a3, c3, hb, o1, _⟩ := h.look
  have k0 : w.cell? ⟨p, 0, none⟩ = some (.slice a1 T.sorts.length c1) := cell_p hb 0
  have hrd := o1.read (S' := fun _ => True) (fun _ _ _ => trivial) (fun _ _ => trivial)
  have his := Lib.hid (ris_any B p T s w h hl)
  have hd := @Lib.hid (nameOf T s = if !isB T.sorts.length s then (⟨#[]⟩, false) else if s == 0 then (⟨#[66, 111, 111, 108]⟩, true) else if s == 1 then (⟨#[82, 101, 97, 108]⟩, true) else (T.sorts.getD (s.toNat - 2) ByteArray.empty, true)) rfl
  have hdi := @Lib.hid (isB T.sorts.length s = (decide (0 ≤ s) && decide (s < 2 + (T.sorts.length : Int)))) rfl
  have hplt := h.plt
  obtain ⟨css, pA0, sA0, _⟩ := hrd.pairs
  have ecss : css.flatten = T.sorts.map Value.string := by
    have : css = T.sorts.map fun z => [Value.string z] := by
      apply List.ext_getElem?
      intro j
      by_cases hj : j < T.sorts.length
      · obtain ⟨x1, y1, z1⟩ := pA0.2 j _ (List.getElem?_eq_getElem hj)
        have z1' : x1 = [.string _] := z1
        rw [y1, z1', List.getElem?_map, List.getElem?_eq_getElem hj]; rfl
      · rw [List.getElem?_eq_none (by rw [pA0.1]; omega), List.getElem?_eq_none (by rw [List.length_map]; omega)]
    rw [this]
    induction T.sorts with
    | nil => rfl
    | cons z zs ih => rw [List.map_cons, List.flatten_cons, ih]; rfl
  have sA := Lib.hid (show Src w 1 a1 T.sorts.length (T.sorts.map Value.string) by have := sA0 T.sorts.length (Nat.le_refl _); rw [List.take_of_length_le (by rw [pA0.1]; exact Nat.le_refl _), ecss] at this; exact this)
  obtain ⟨i0, hi, hz0, hz1, hz2⟩ := info_parts info_str
  clear hb h o1 hrd pA0 sA0 ecss
  cases hi2 : isB T.sorts.length s
  case false =>
    have hv := @Lib.hid (nameOf T s = (⟨#[]⟩, false)) (by rw [hd.out, hi2]; rfl)
    rw [hi2] at his
    clear hi2
    go_enter Tryd.func28, Tryd.ntmps28
    go_wp2_with fail
    refine his.out.mono ?_; rintro e w' ⟨rfl, rfl⟩
    go_wp2
    go_ret2
    exact ⟨by rw [hv.out] <;> rfl, Below.refl _ _⟩
  case true =>
    have hbd : 0 ≤ s ∧ s < 2 + (T.sorts.length : Int) := by have := hdi.out; rw [hi2] at this; simpa using this.symm
    obtain ⟨k, rfl⟩ : ∃ k : Nat, s = k := ⟨s.toNat, by omega⟩
    have hrow := Lib.hid (show ([Value.string ⟨#[66, 111, 111, 108]⟩, .string ⟨#[82, 101, 97, 108]⟩] ++ T.sorts.map Value.string)[k]? = some (.string (nameOf T k).1) ∧ (nameOf T k).2 = true from by
      rw [hd.out, hi2]
      by_cases h0 : k = 0
      · subst h0; exact ⟨rfl, rfl⟩
      by_cases h1 : k = 1
      · subst h1; exact ⟨rfl, rfl⟩
      have e0 : ((k : Int) == 0) = false := by simp; omega
      have e1 : ((k : Int) == 1) = false := by simp; omega
      rw [e0, e1]
      refine ⟨?_, rfl⟩
      rw [List.getElem?_append_right (by simp; omega)]
      have hk2 : k - 2 < T.sorts.length := by omega
      simp [List.getD, hk2])
    rw [hi2] at his
    clear hi2 hd hdi
    have hK : Below w.heap.size w (w.alloc (.cells #[.string ⟨#[66, 111, 111, 108]⟩, .string ⟨#[82, 101, 97, 108]⟩] 9)) := keep_alloc (Below.refl _ _) _
    have hK' := Lib.hid hK
    clear hK
    go_enter Tryd.func28, Tryd.ntmps28
    go_wp2_with fail
    refine his.out.mono ?_; rintro e w' ⟨rfl, rfl⟩
    go_wp2_with (at_builtin; refine wpList_append_C (base := w.heap.size) rfl (.tmp 10) (.tmp 14) rfl Tryd.underlying46 hi hz0 hz1 hz2 rfl (by decide) (Eq.refl (Value.slice _ _ _)) rfl (OwnC.lits (us := [Value.string ⟨#[66, 111, 111, 108]⟩, .string ⟨#[82, 101, 97, 108]⟩]) (Nat.le_refl _) (by decide)) (Src.keep sA.out hK'.out) str_one ?c3 ?c4 ?c5 ?_)
    case c3 => simp only [List.length_cons, List.length_nil]; unfold maxLen; omega
    case c4 => simp only [List.length_cons, List.length_nil]; omega
    case c5 => simp
    intro v' w2 ho2 hg2 _
    have B2 := Lib.hid (keep_push hK'.out hg2 (by intro k hk; simp [Value.ownBlock] at hk; omega))
    obtain ⟨g, cap, rfl, _, _⟩ := ho2.form (by omega)
    have hc := ho2.cells (g := g) rfl k _ hrow.out.1
    have hr2 := Lib.hid hrow.out.2
    have hln : (k : Int) < ((([Value.string ⟨#[66, 111, 111, 108]⟩, .string ⟨#[82, 101, 97, 108]⟩] : List Value).length + T.sorts.length : Nat) : Int) := by simp; omega
    clear ho2 hg2 hrow
    go_wp2
    go_ret2
    exact ⟨by rw [hr2.out] <;> rfl, B2.out⟩
end Go.Proofs.YtpkajhmgkmkcgaaDoor
