/-
  watch.Watch: the walk of Undo. Conditions: ints, bounded lengths.
-/
import Derived.Test.YtdmnpjlgldlodaaWG
namespace Go.Proofs.Ytdmnpjlgldlodaa
open Go.RowKit Go.Sort Go.Lib Go.Maps

theorem size_intW (w : World) : (sizeOf 3).run Try.prog w = .ok 1 w := by kernel_rfl
def undoN (n : Int) (S : List Int) : Nat := (max (min n S.length) 0).toNat
def UndoPost (B p m1 m2 : Nat) (C : List (Int × List Int)) (S : List Int) (n : Int) (w : World) (e : Ending) (w' : World) : Prop :=
  e = .returned (.tuple #[]) ∧ WatchIs B p m1 m2 C (S.take (S.length - undoN n S)) w' ∧ WStep p m1 m2 w w'
set_option maxRecDepth 100000 in
set_option maxHeartbeats 1000000 in
theorem wundo_any (B p m1 m2 : Nat) (C : List (Int × List Int)) (S : List Int) (n : Int) (w : World) (h : WatchIs B p m1 m2 C S w) (hS : S.length < 1099511627776) :
    Calls Try.prog 30 #[.pointer (some ⟨p, 0, none⟩), .int .i64 n] w fun e w' => UndoPost B p m1 m2 C S n w e w' := by
  have h' := Lib.hid h
  obtain ⟨v, hb, ho⟩ := h.blk
  have c1 : w.cell? ⟨p, 1, none⟩ = some v := cell_p hb 1
  obtain ⟨a, c, rfl, hnc⟩ := ho.slice
  clear h hb ho
  go_enter Try.func30, Try.ntmps30
  go_wp2
  go_loopw [4, 14] (fun _ i wr => ∃ k : Nat, i = .int .i64 k ∧ k ≤ undoN n S ∧ Hid (WatchIs B p m1 m2 C (S.take (S.length - k)) wr) ∧ Hid (WStep p m1 m2 w wr)) (fun _ i _ => undoN n S - (intOf i).toNat)
  case atStart =>
    refine ⟨0, rfl, Nat.zero_le _, ?_, ⟨rfl, rfl, rfl, Nat.le_refl _, fun k _ _ _ _ hr => ⟨rfl, hr⟩⟩⟩
    rw [Nat.sub_zero, List.take_length]; exact h'
  case round =>
    obtain ⟨k, rfl, hk, hW, hS2⟩ := hrel
    by_cases hlt : (k : Int) < min n ↑S.length
    · have hku : k < undoN n S := by unfold undoN; omega
      obtain ⟨j, hj⟩ : ∃ j, S.length - k = j + 1 := ⟨S.length - k - 1, by omega⟩
      rw [hj] at hW
      have hTl : (S.take (j + 1)).length = j + 1 := by rw [List.length_take]; omega
      have hb0 : Below wr.heap.size wr wr.drew := (Below.refl _ _).drewN 1
      have hW1 : WatchIs B p m1 m2 C (S.take (j + 1)) wr.drew := hW.out.below hb0
      have hstep := hW.out
      obtain ⟨v2, hb2, ho2⟩ := hstep.blk
      rw [hTl] at ho2
      have d0 : wr.cell? ⟨p, 2, none⟩ = some (.map (some m2)) := cell_p hb2 2
      have d1 : wr.cell? ⟨p, 1, none⟩ = some v2 := cell_p hb2 1
      obtain ⟨a2, e2, rfl, hc2⟩ := ho2.slice
      have hrd := (RdI.own ho2 hstep.tru.wf).2.1
      have hru := (run_upto (P := Try.prog) (t := 22) (e := 3) (c := e2) (k := j) Try.underlying22 size_intW hrd (by omega) hc2).1
      obtain ⟨b2, o2, rfl, d2⟩ := hrd.at j (Nat.lt_succ_self j)
      obtain ⟨w2, hst, hT2, ht2⟩ := hW1.tru.dropLast hTl 0
      have hne := hstep.ne2
      have hplt := hstep.plt
      have hu := Lib.hid (hW1.undo1 hTl d1 ht2 hT2)
      have f1 : w2.cell? ⟨p, 1, none⟩ = some (.slice (some ⟨b2, o2, none⟩) (j + 1) e2) := (cell_grown ht2 hne hplt).trans d1
      have f2 : w2.frozen? ⟨p, 1, none⟩ = false := frz_p ((ht2.grown.block p hplt (by simpa using hne)).trans hb2) 1
      have hstep0 := Lib.hid (WStep.of_below (m1 := m1) (m2 := m2) hplt hb0)
      have hjj : (j : Int) < (j : Int) + 1 := by omega
      have hjb : j < 1099511627776 := by omega
      have hku' := Lib.hid hku
      have hj' := Lib.hid hj
      clear hstep hW1 hb0 ht2 hT2 hrd ho2 hb2 hW hj hTl hku hc2 hne hplt c1 hnc
      generalize nth (S.take (j + 1)) j = x at *
      go_wp2
      refine wp_tail 11 (by kernel_rfl) (by kernel_rfl) ?_
      intro W hW
      have g0 : W.cell? ⟨p, 2, none⟩ = some (.map (some m2)) := by rw [hW]; exact d0
      have g1 : W.cell? ⟨p, 1, none⟩ = some (.slice (some ⟨b2, o2, none⟩) (j + 1) e2) := by rw [hW]; exact d1
      have g2 : W.cell? ⟨b2, o2 + j, none⟩ = some (.int .i64 x) := by rw [hW]; exact d2
      rw [← hW] at hst
      clear hW d0 d1 d2
      simp only [List.take_succ_cons, List.take_zero, List.drop_succ_cons, List.drop_zero]
      repeat still_step
      refine wpStill_nil ?_
      go_wp2
      go_roundw
      case rel =>
        refine ⟨k + 1, by go_num, hku'.out, ?_, Lib.hid (hS2.out.trans (hstep0.out.trans hu.out.2))⟩
        have e : S.length - (k + 1) = j := by have := hj'.out; omega
        rw [e]
        have h2 := hu.out.1
        rw [List.take_take, Nat.min_eq_left (Nat.le_succ j)] at h2
        exact h2
      case measure => have := hku'.out; simp [intOf]; omega
    · have hku : k = undoN n S := by unfold undoN at *; omega
      have hku' := Lib.hid hku
      clear hku hk
      go_wp2
      go_end0
      unfold UndoPost
      rw [← hku'.out]
      exact ⟨rfl, hW.out, hS2.out⟩
end Go.Proofs.Ytdmnpjlgldlodaa
