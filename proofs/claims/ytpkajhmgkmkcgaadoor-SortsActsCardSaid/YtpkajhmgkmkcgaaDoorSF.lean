/-
  sorts: Push, Fun, Pop. Conditions: a table in memory of fewer than 2^40 entries, each function of fewer than 2^40 sorts; the library's table of spaces is as its text lays it.
-/
import Derived.Test.YtpkajhmgkmkcgaaDoorSE
namespace Go.Proofs.YtpkajhmgkmkcgaaDoor
open Go.RowKit Go.Sort Go.Lib
variable {X : Nat → Prop}

theorem pair_new (x y : Value) (w : World) (e : TypeId) : ∀ j u, [x, y][j]? = some u → (w.alloc (.cells #[x, y] e)).cell? ⟨w.heap.size, j, none⟩ = some u := by
  intro j u hu
  rw [World.cell?_alloc_new]
  simpa using hu
theorem pair_one {x y : Int} : ∀ u ∈ [Value.int .i64 x, .int .i64 y], u.oneCell' = true := by intro u hu; simp at hu; rcases hu with rfl | rfl <;> rfl
theorem loc_alloc {v v' : Value} {w : World} {o : Obj} (h : v'.ownBlock = v.ownBlock ∨ ∀ k, v'.ownBlock = some k → (w.alloc o).heap.size ≤ k) : v'.ownBlock = v.ownBlock ∨ ∀ k, v'.ownBlock = some k → w.heap.size ≤ k :=
  h.imp id fun hh k hk => by have := hh k hk; rw [World.size_alloc] at this; omega
theorem okI_len {n : Nat} (h : n < 1099511627776) : okI n := by unfold okI; omega
theorem cell_grown {w W : World} {row : Option Nat} {p j : Nat} (h : w.grownBy W row) (hp : p < w.heap.size) (hr : row ≠ some p) : W.cell? ⟨p, j, none⟩ = w.cell? ⟨p, j, none⟩ := World.cell?_of_block (a := ⟨p, j, none⟩) (h.block p hp (Ne.symm hr))
theorem frozen_grown {w W : World} {row : Option Nat} {p j : Nat} (h : w.grownBy W row) (hp : p < w.heap.size) (hr : row ≠ some p) : W.frozen? ⟨p, j, none⟩ = w.frozen? ⟨p, j, none⟩ := World.frozen?_of_block (a := ⟨p, j, none⟩) (h.block p hp (Ne.symm hr))
theorem OwnC.drew {w : World} {base : Nat} {e : TypeId} {size n : Nat} {v : Value} {xs : List Value} (h : OwnC w base e size v n xs) : OwnC w.drew base e size v n xs := h
theorem grown_drew {w W : World} {row : Option Nat} (h : w.drew.grownBy W row) : w.grownBy W row := ⟨h.os, h.tape, h.output, h.size, h.block⟩
theorem loc_drew {v v' : Value} {w : World} (h : v'.ownBlock = v.ownBlock ∨ ∀ k, v'.ownBlock = some k → w.drew.heap.size ≤ k) : v'.ownBlock = v.ownBlock ∨ ∀ k, v'.ownBlock = some k → w.heap.size ≤ k := h
def PushPost (X : Nat → Prop) (B p : Nat) (T : TabD) (w : World) (e : Ending) (w' : World) : Prop :=
  e = .returned (.tuple #[]) ∧ TabX X B p { T with marks := T.marks ++ [(T.sorts.length, T.funs.length)] } w' ∧ PStep p w w'
set_option maxRecDepth 100000 in
set_option maxHeartbeats 1000000 in
theorem push_any (B p : Nat) (T : TabD) (w : World) (h : TabX X B p T w) (hs : Small T) :
    Calls Tryd.prog 19 #[.pointer (some ⟨p, 0, none⟩)] w fun e w' => PushPost X B p T w e w' := by
  have hdw := h
  have h' := Lib.hid hdw
  obtain ⟨a1, c1, a2, c2, a3, c3, hblk, o1, o2, o3⟩ := hdw.look
  have k0 : w.cell? ⟨p, 0, none⟩ = some (.slice a1 T.sorts.length c1) := cell_p hblk 0
  have k1 : w.cell? ⟨p, 1, none⟩ = some (.slice a2 T.funs.length c2) := cell_p hblk 1
  have k2 : w.cell? ⟨p, 2, none⟩ = some (.slice a3 T.marks.length c3) := cell_p hblk 2
  have f2 : w.frozen? ⟨p, 2, none⟩ = false := frz_p hblk 2
  have hblk' := Lib.hid hblk
  obtain ⟨css, oc, ol, oe⟩ := o3
  have oc' := Lib.hid oc
  have ol' := Lib.hid ol
  have oe' := Lib.hid oe
  have hp3 := Lib.hid (show Value.ownBlock (.slice a3 T.marks.length c3) ≠ some p from fun e => ty_ne (by decide) (oc.ty p e) ⟨_, _, hblk⟩)
  have hplt := h.plt
  have hBs := Nat.le_trans h.bp (Nat.le_of_lt hplt)
  have s1 := hs.s
  have s2 := hs.f
  have s3 := hs.m
  obtain ⟨i0, hi, hz0, hz1, hz2⟩ := info_parts info_mark
  clear h hdw hblk o1 o2 oc ol oe hs
  go_enter Tryd.func19, Tryd.ntmps19
  go_wp2
  go_region_law ((refine step_append_C (by rfl) (.tmp 8) (.tmp 20) (by rfl) Tryd.underlying65 hi hz0 hz1 hz2 rfl (by decide) (by rfl) (by rfl) (oc'.out.alloc _).drew (Src.one (b := w.heap.size) (news := [.int .i64 T.sorts.length, .int .i64 T.funs.length]) rfl (pair_new _ _ w _)) pair_one (by unfold maxLen; omega) (by omega) (by simp; omega) ?_; intro v' w2 ho2 hg2 hl2; obtain ⟨a', c', rfl, _, _⟩ := ho2.slice; have hg2' := Lib.hid (grown_alloc (grown_drew hg2)); have hl2' := Lib.hid (loc_alloc (loc_drew hl2)); have ho2' := Lib.hid (OwnR.push (R := repM) (S := fun _ => False) (x := (T.sorts.length, T.funs.length)) ol'.out oe'.out (repM_rd.2 ⟨rfl, okI_len s1, okI_len s2⟩) ho2 (fun _ _ h => h.elim) (grown_alloc (grown_drew hg2)).size); have k2' := (cell_grown hg2'.out hplt hp3.out).trans k2; have f2' := (frozen_grown hg2'.out hplt hp3.out).trans f2; clear ho2 hg2 hl2))
  all_goals
    go_wp2
    go_end0
    obtain ⟨t1, s1⟩ := h'.out.setMarks hblk'.out hg2'.out hl2'.out ho2'.out
    exact ⟨rfl, t1, s1⟩
end Go.Proofs.YtpkajhmgkmkcgaaDoor
