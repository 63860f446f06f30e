/-
  theodolitelaw21.awake: the walk. No condition.
-/
import Derived.Test.YtdmnpjlgldlodaaWM
import Derived.Test.YtdmnpjlgldlodaaK
namespace Go.Proofs.Ytdmnpjlgldlodaa
open Go.RowKit Go.Sort Go.Lib Go.Maps

theorem below_old {B : Nat} {w w' : World} (h : Below w.heap.size w w') (hB : B ≤ w.heap.size) : Below B w w' := h.mono hB
theorem lit4_below {w : World} {a b c d : Obj} : Below w.heap.size w ((((w.alloc a).alloc b).alloc c).alloc d) :=
  ((((Below.refl _ _).alloc (Nat.le_refl _) _).alloc (by simp) _).alloc (by simp; omega) _).alloc (by simp; omega) _
theorem lit3_below {w : World} {a b c : Obj} : Below w.heap.size w (((w.alloc a).alloc b).alloc c) :=
  (((Below.refl _ _).alloc (Nat.le_refl _) _).alloc (by simp) _).alloc (by simp; omega) _
theorem WSetPost.fresh {B p m1 m2 : Nat} {C : List (Int × List Int)} {S : List Int} {x : Int} {w : World} {e : Ending} {w' : World} (h : WSetPost B p m1 m2 C S x w e w') (hg : (x == 0 || valS S x != 0) = false) :
    WatchIs B p m1 m2 C (S ++ [x]) w' ∧ WStep p p m2 w w' ∧ ∃ a n c, e = .returned (.tuple #[.slice a n c, .int .i64 (setC C (S ++ [x]))]) ∧ AtR p m1 m2 w' a n (setU C (S ++ [x])) ∧ ∀ y, a = some y → w.heap.size ≤ y.block := by
  unfold WSetPost at h; rw [if_neg (by rw [hg]; decide)] at h; exact h
theorem WSetPost.go {B p m1 m2 : Nat} {C : List (Int × List Int)} {S : List Int} {x : Int} {w : World} {e : Ending} {w' : World} (h : WSetPost B p m1 m2 C S x w e w') (hg : (x == 0 || valS S x != 0) = false) :
    WatchIs B p m1 m2 C (S ++ [x]) w' ∧ WStep p m1 m2 w w' ∧ ∃ a n c, e = .returned (.tuple #[.slice a n c, .int .i64 (setC C (S ++ [x]))]) ∧ AtR p m1 m2 w' a n (setU C (S ++ [x])) := by
  obtain ⟨h1, h2, a, n, c, h3, h4, _⟩ := h.fresh hg
  exact ⟨h1, h2.weaken, a, n, c, h3, h4⟩
theorem WSetPost.stay {B p m1 m2 : Nat} {C : List (Int × List Int)} {S : List Int} {x : Int} {w : World} {e : Ending} {w' : World} (h : WSetPost B p m1 m2 C S x w e w') (hg : (x == 0 || valS S x != 0) = true) :
    e = .returned (.tuple #[.slice none 0 0, .int .i64 (-1)]) ∧ w = w' := by
  unfold WSetPost at h; rw [if_pos hg] at h; exact h
theorem AddW.out {B p m1 m2 : Nat} {C C' : List (Int × List Int)} {S : List Int} {id z : Int} {l : List Int} {w w' : World} {e : Ending} (h : AddW B p m1 m2 C S id l w e w') (hz : (if badAdd C id l then 1 else 0) = z) (hC : (if badAdd C id l then C else C ++ [(id, nout l)]) = C') :
    e = .returned (.int .i64 z) ∧ WatchIs B p m1 m2 C' S w' ∧ WStep p m1 m2 w w' := by
  subst hz hC; exact h
theorem aw_a1 : (if badAdd [] 4 [1, 2] then 1 else 0) = (0 : Int) ∧ (if badAdd [] 4 [1, 2] then [] else [] ++ [((4 : Int), nout [1, 2])]) = awC := by decide +kernel
theorem aw_a2 : (if badAdd awC 4 [5] then 1 else 0) = (1 : Int) ∧ (if badAdd awC 4 [5] then awC else awC ++ [((4 : Int), nout [5])]) = awC := by decide +kernel
theorem okI_lit {x : Int} (h : -9223372036854775808 ≤ x ∧ x ≤ 9223372036854775807) : okI x := h

set_option maxRecDepth 100000 in
set_option maxHeartbeats 1000000 in
theorem awake21_any (w : World) : Calls Try.prog 22 #[] w fun e w' => e = .returned (.bool true) ∧ Below w.heap.size w w' := by
  go_enter Try.func22, Try.ntmps22
  have wf2 : ∀ x y : Int, okI x → okI y → WfI [x, y] := fun x y hx hy z hz => by simp at hz; rcases hz with rfl | rfl <;> assumption
  have wf1 : ∀ x : Int, okI x → WfI [x] := fun x hx z hz => by simp at hz; subst hz; assumption
  have hR1 := RdR.lit2 [1, 2] [-2, 3] 3 22 w (wf2 _ _ (by unfold okI; omega) (by unfold okI; omega)) (wf2 _ _ (by unfold okI; omega) (by unfold okI; omega))
  have hR1' := Lib.hid (hR1.below (lit_below (o := .cells #[.int .i64 (-1)] 3)) (Nat.le_refl _))
  have hG1 := RdI.lit [-1] 3 (((w.alloc (.cells #[.int .i64 1, .int .i64 2] 3)).alloc (.cells #[.int .i64 (-2), .int .i64 3] 3)).alloc (.cells #[.slice (some ⟨w.heap.size, 0, none⟩) 2 2, .slice (some ⟨w.heap.size + 1, 0, none⟩) 2 2] 22)) (wf1 _ (by unfold okI; omega))
  simp only [World.size_alloc] at hG1
  have hG1' := Lib.hid hG1
  have hc1 := Lib.hid (close_any _ _ 2 1 2 1 [[1, 2], [-2, 3]] [-1] _ hR1'.out hG1'.out (by omega) (by omega) (by decide) (by decide))
  clear hR1 hR1' hG1 hG1'
  go_wp2_with fail
  refine hc1.out.mono ?_
  rintro e w1 ⟨b1, h1⟩
  rw [aw_close1] at h1
  obtain ⟨a1, n1, c1, rfl, r1⟩ := h1
  rw [aw_nrm1] at r1
  have hl := r1.len
  simp only [List.length_cons, List.length_nil, Nat.zero_add, Nat.reduceAdd] at hl
  subst hl
  have B1 := Lib.hid (lit4_below.trans (b1.mono lit4_below.size))
  have R1 := Lib.hid r1
  clear b1 r1 hc1
  have hR2 := RdR.lit2 [1] [-1] 3 22 w1 (wf1 _ (by unfold okI; omega)) (wf1 _ (by unfold okI; omega))
  have hc2 := Lib.hid (close_any _ none 2 0 2 0 [[1], [-1]] [] _ hR2 (RdI.nil _ _) (by omega) (by omega) (by decide) (by decide))
  clear hR2
  go_wp2_with fail
  refine hc2.out.mono ?_
  rintro e w2 ⟨b2, h2⟩
  rw [aw_close2] at h2
  obtain rfl : e = _ := h2
  have B2 := Lib.hid (lit3_below.trans (b2.mono lit3_below.size))
  clear b2 hc2
  go_wp2_with fail
  refine (wnew_any w2).mono ?_
  rintro e w3 ⟨p, m1, m2, rfl, h3, b3⟩
  have W3 := Lib.hid h3
  have B3 := Lib.hid b3
  clear h3 b3
  go_wp2_with fail
  refine (wadd_any w2.heap.size p m1 m2 [] [] 4 _ 2 2 [1, 2] _ (W3.out.below lit_below) (RdI.lit [1, 2] 3 w3 (wf2 _ _ (by unfold okI; omega) (by unfold okI; omega))) (by omega) (by unfold okI; omega) (by decide)).mono ?_
  rintro e w4 h4
  obtain ⟨rfl, h4a, h4b⟩ := h4.out aw_a1.1 aw_a1.2
  have W4 := Lib.hid h4a
  have S4 := Lib.hid ((WStep.of_below W3.out.plt lit_below).trans h4b)
  clear h4 h4a h4b
  go_wp2_with fail
  refine (wadd_any w2.heap.size p m1 m2 awC [] 4 _ 1 1 [5] _ (W4.out.below lit_below) (RdI.lit [5] 3 w4 (wf1 _ (by unfold okI; omega))) (by omega) (by unfold okI; omega) (by decide)).mono ?_
  rintro e w5 h5
  obtain ⟨rfl, h5a, h5b⟩ := h5.out aw_a2.1 aw_a2.2
  have W5 := Lib.hid h5a
  have S5 := Lib.hid (S4.out.trans ((WStep.of_below W4.out.plt lit_below).trans h5b))
  clear h5 h5a h5b S4 W4
  go_wp2_with fail
  refine (wset_any w2.heap.size p m1 m2 awC [] (-1) _ W5.out (by unfold okI; omega) (by decide) (by decide)).mono ?_
  rintro e w6 h6
  obtain ⟨h6a, h6b, au, nu, cu, rfl, r6⟩ := h6.go aw_set1.1
  have e6 : [] ++ [(-1 : Int)] = [-1] := rfl
  rw [e6] at h6a r6 ⊢
  rw [aw_set1.2.1]
  rw [aw_set1.2.2] at r6
  have hl := r6.1.len
  simp only [List.length_cons, List.length_nil, Nat.zero_add, Nat.reduceAdd] at hl
  subst hl
  have W6 := Lib.hid h6a
  have S6 := Lib.hid (S5.out.trans h6b)
  have R6 := Lib.hid r6
  clear h6 h6a h6b r6 e6 S5 W5
  go_wp2_with fail
  refine (wset_any w2.heap.size p m1 m2 awC [-1] (-2) _ W6.out (by unfold okI; omega) (by decide) (by decide)).mono ?_
  rintro e w7 h7
  obtain ⟨h7a, h7b, av, nv, cv, rfl, r7⟩ := h7.go aw_set2.1
  have e7 : [(-1 : Int)] ++ [(-2 : Int)] = [-1, -2] := rfl
  rw [e7] at h7a r7 ⊢
  rw [aw_set2.2.1]
  rw [aw_set2.2.2] at r7
  have hl := r7.1.len
  simp only [List.length_nil] at hl
  subst hl
  have W7 := Lib.hid h7a
  have S7 := Lib.hid (S6.out.trans h7b)
  have R7 := Lib.hid (R6.out.wstep h7b)
  clear h7 h7a h7b r7 e7 S6 W6 R6
  go_wp2_with fail
  refine (wundo_any w2.heap.size p m1 m2 awC [-1, -2] 1 _ W7.out (by decide)).mono ?_
  rintro e w8 ⟨rfl, h8a, h8b⟩
  have e8 : [-1, -2].take ([-1, -2].length - undoN 1 [-1, -2]) = [-1] := aw_undo
  rw [e8] at h8a
  have W8 := Lib.hid h8a
  have S8 := Lib.hid (S7.out.trans h8b)
  have R8 := Lib.hid (R7.out.wstep h8b)
  clear h8a h8b e8 S7 W7 R7
  go_wp2_with fail
  refine (wset_any w2.heap.size p m1 m2 awC [-1] (-1) _ W8.out (by unfold okI; omega) (by decide) (by decide)).mono ?_
  rintro e w9 h9
  obtain ⟨rfl, rfl⟩ := h9.stay aw_set3
  clear h9
  go_wp2_with fail
  refine (wset_nil _ _).mono ?_
  rintro e w10 ⟨rfl, rfl⟩
  go_wp2_with fail
  have R1b := R1.out.below B2.out (Nat.le_refl _)
  have R1c := (W3.out.atOld R1b (Nat.le_refl _) (R1b.below B3.out (Nat.le_refl _)) (by omega)).wstep S8.out
  have R1' := Lib.hid R1c
  have B8 := Lib.hid (((B1.out.trans (B2.out.mono B1.out.size)).trans (B3.out.mono (Nat.le_trans B1.out.size B2.out.size))).trans ((W3.out.stepBelow S8.out).mono (Nat.le_trans B1.out.size B2.out.size)))
  clear R1b R1c R1 B1 B2 B3 S8 W3
  refine (ints_any _ _ 3 3 _ _ [-1, 2, 3] [-1, 2, 3] _ (R1'.out.1.below lit_below (Nat.le_refl _)) (RdI.lit [-1, 2, 3] 3 w8 (by decide)) (by omega)).mono ?_; rintro e w9 ⟨rfl, q, hw⟩
  rw [show sameI [-1, 2, 3] [-1, 2, 3] = true by decide]
  have T9 := Lib.hid (show Below w8.heap.size w8 w9 by rw [hw]; exact lit_below.drewN q)
  have W9 := Lib.hid (W8.out.below T9.out)
  have R9 := Lib.hid (R8.out.wstep (WStep.of_below (m1 := m1) (m2 := m2) W8.out.plt T9.out))
  have B9 := Lib.hid (B8.out.trans (T9.out.mono B8.out.size))
  clear hw T9 R1' R8 W8 B8
  go_wp2_with fail
  refine (ints_any _ _ 1 1 _ _ [2] [2] _ (R9.out.1.below lit_below (Nat.le_refl _)) (RdI.lit [2] 3 w9 (by decide)) (by omega)).mono ?_; rintro e w10 ⟨rfl, q, hw⟩
  rw [show sameI [2] [2] = true by decide]
  have T10 := Lib.hid (show Below w9.heap.size w9 w10 by rw [hw]; exact lit_below.drewN q)
  have W10 := Lib.hid (W9.out.below T10.out)
  have B10 := Lib.hid (B9.out.trans (T10.out.mono B9.out.size))
  clear hw T10 R9 W9 B9
  go_wp2_with fail
  refine (wlen_any w2.heap.size p m1 m2 awC [-1] w10 W10.out).mono ?_; rintro e w' ⟨rfl, rfl⟩
  go_wp2_with fail
  refine (wvalue_any w2.heap.size p m1 m2 awC [-1] 1 w10 W10.out (by unfold okI; omega)).mono ?_; rintro e w' ⟨rfl, rfl⟩
  rw [aw_val.1]
  go_wp2_with fail
  refine (wvalue_any w2.heap.size p m1 m2 awC [-1] 2 w10 W10.out (by unfold okI; omega)).mono ?_; rintro e w' ⟨rfl, rfl⟩
  rw [aw_val.2]
  go_wp2_with fail
  refine (wlen_nil w10).mono ?_; rintro e w' ⟨rfl, rfl⟩
  go_wp2
  go_ret
  exact ⟨rfl, B10.out⟩
end Go.Proofs.Ytdmnpjlgldlodaa
