/-
  theodolitelaw19.awake returns true, whatever the world; it writes nothing old. No condition.
-/
import Derived.Test.YtglbdkjdglcncaaT
namespace Go.Proofs.Ytglbdkjdglcncaa
open Go.RowKit Go.Sort Go.Lib

theorem nout_a : alw [3, -2, 3, 1] = false ∧ nout [3, -2, 3, 1] = [1, -2, 3] := by decide
theorem alw_b : alw [1, -1] = true := by decide
theorem res_c : resE [1, 2] [-1, 3] 1 = 0 := by decide +kernel
theorem res_c' : resL [1, 2] [-1, 3] 1 = [2, 3] := by decide +kernel
theorem res_d : resE [1, 2] [-1, -2] 1 = 1 := by decide +kernel
def aw0 : St := ⟨1, 0, []⟩
def aw1 : St := ⟨1, 1, [⟨0, [1, 2], true⟩]⟩
def aw2 : St := ⟨1, 1, []⟩
def aw3 : St := ⟨1, 2, [⟨1, [7], false⟩]⟩
theorem st_a : idAdd aw0 [2, 1] = 0 ∧ eAdd aw0 [2, 1] = 0 ∧ sAdd aw0 [2, 1] true = aw1 := ⟨by decide +kernel, by decide +kernel, by kernel_rfl⟩
theorem st_b : idAdd aw1 [5] = 0 ∧ eAdd aw1 [5] = 4 ∧ sAdd aw1 [5] false = aw1 := ⟨by decide +kernel, by decide +kernel, by kernel_rfl⟩
theorem st_c : (findIt aw1.items 0).isSome = true ∧ lOf aw1 0 = [1, 2] := ⟨by kernel_rfl, by kernel_rfl⟩
theorem st_d : eForget aw1 0 = 0 ∧ sForget aw1 0 = aw2 := ⟨by decide +kernel, by kernel_rfl⟩
theorem st_e : eForget aw2 0 = 5 ∧ sForget aw2 0 = aw2 := ⟨by decide +kernel, by kernel_rfl⟩
theorem st_f : idAdd aw2 [7] = 1 ∧ eAdd aw2 [7] = 0 ∧ sAdd aw2 [7] false = aw3 := ⟨by decide +kernel, by decide +kernel, by kernel_rfl⟩
theorem st_g : eForget aw3 1 = 1 := by decide +kernel

theorem same_a : sameI [1, -2, 3] [1, -2, 3] = true := by decide
theorem same_b : sameI [2, 3] [2, 3] = true := by decide
theorem same_c : sameI [1, 2] [1, 2] = true := by decide
theorem with_a : withinB [1] [2, 1] = true := by decide
theorem touch_draw {S : Nat → Prop} {w w' : World} {q : Nat} (hw : w' = w.drewN q) : Touch S w w' := by rw [hw]; exact (Touch.refl _ _).drewN q
theorem okI_0 : okI 0 := by unfold okI; omega
theorem okI_1 : okI 1 := by unfold okI; omega
theorem lit_below {w : World} {o : Obj} : Below w.heap.size w (w.alloc o) := (Below.refl _ _).alloc (Nat.le_refl _) _
theorem lit2_below {w w' : World} {o o' : Obj} (h : Below ((w.alloc o).alloc o').heap.size ((w.alloc o).alloc o') w') : Below w.heap.size w w' :=
  ((lit_below).trans (lit_below.mono (by rw [World.size_alloc]; omega))).trans (h.mono (by rw [World.size_alloc, World.size_alloc]; omega))
theorem lit_touch {S : Nat → Prop} {w : World} {o : Obj} : Touch S w (w.alloc o) := .of_below lit_below
theorem touch_lit {S : Nat → Prop} {w w' : World} {o : Obj} (h : Touch S (w.alloc o) w') : Touch S w w' := lit_touch.trans h
theorem off_lt {p m : Nat} {a : Option Addr} {w : World} {n : Nat} {xs : List Int} (h : RdI w a n xs) (hn : 0 < n) (hp : w.heap.size ≤ p) (hm : w.heap.size ≤ m) : Off (Own2 p m) a := by
  obtain ⟨b, o, ha, hlt, _⟩ := h.cells hn
  intro x hx hs
  rw [ha] at hx
  cases hx
  rcases hs with hs | hs <;> simp at hs <;> omega

set_option maxRecDepth 100000 in
set_option maxHeartbeats 4000000 in
theorem awake_any (w : World) : Calls Try.prog 4 #[] w fun e w' => e = .returned (.bool true) ∧ Below w.heap.size w w' := by
  go_enter Try.func4, Try.ntmps4
  go_wp2_with fail
  refine (norm_any _ 4 _ [3, -2, 3, 1] _ (RdI.lit [3, -2, 3, 1] 3 w (by decide)) (by omega)).mono ?_; rintro e w1 ⟨an, mn, cn, rfl, rn, _, b1⟩
  rw [nout_a.1]
  rw [nout_a.2] at rn
  have hl := rn.len
  simp only [List.length_cons, List.length_nil, Nat.zero_add, Nat.reduceAdd] at hl
  subst hl
  have B1 := Lib.hid (lit_below.trans (b1.mono (by simp)))
  have Rn := Lib.hid rn
  clear b1 rn
  go_wp2_with fail
  refine (norm_any _ 2 _ [1, -1] _ (RdI.lit [1, -1] 3 w1 (by decide)) (by omega)).mono ?_; rintro e w2 ⟨a2, m2, c2, rfl, _, _, b2⟩
  rw [alw_b]
  have B2 := Lib.hid (lit_below.trans (b2.mono (by simp)))
  clear b2
  go_wp2_with fail
  refine (resolve_any _ _ 2 2 _ _ [1, 2] [-1, 3] 1 _ (RdI.lit2 [1, 2] [-1, 3] 3 w2 (by decide) (by decide)).1 (RdI.lit2 [1, 2] [-1, 3] 3 w2 (by decide) (by decide)).2 (by omega) (by omega)).mono ?_; rintro e w3 ⟨ar, mr, cr, rfl, rr, b3⟩
  rw [res_c]
  rw [res_c'] at rr
  have hl := rr.len
  simp only [List.length_cons, List.length_nil, Nat.zero_add, Nat.reduceAdd] at hl
  subst hl
  have B3 := Lib.hid (lit2_below b3)
  have Rr := Lib.hid rr
  clear b3 rr
  go_wp2_with fail
  refine (resolve_any _ _ 2 2 _ _ [1, 2] [-1, -2] 1 _ (RdI.lit2 [1, 2] [-1, -2] 3 w3 (by decide) (by decide)).1 (RdI.lit2 [1, 2] [-1, -2] 3 w3 (by decide) (by decide)).2 (by omega) (by omega)).mono ?_; rintro e w4 ⟨a4, m4, c4, rfl, _, b4⟩
  rw [res_d]
  have B4 := Lib.hid (lit2_below b4)
  clear b4
  go_wp2_with fail
  refine (new_any 1 w4).mono ?_; rintro e w5 ⟨p, m, rfl, s5, hp, hm, b5⟩
  have B5 := Lib.hid b5
  have S5 := Lib.hid s5
  have Hp := Lib.hid hp
  have Hm := Lib.hid hm
  clear b5 s5 hp hm
  go_wp2_with fail
  refine (add_any _ p m aw0 _ 2 _ [2, 1] true _ (S5.out.touch lit_touch) (RdI.lit [2, 1] 3 w5 (by decide)) (by omega) (by decide) (by kernel_rfl) (by decide)).mono ?_; rintro e w6 ⟨rfl, s6, t6⟩
  rw [st_a.1, st_a.2.1]
  rw [st_a.2.2] at s6
  have S6 := Lib.hid s6
  have T6 := Lib.hid (touch_lit t6)
  clear s6 t6
  go_wp2_with fail
  refine (add_any _ p m aw1 _ 1 _ [5] false _ (S6.out.touch lit_touch) (RdI.lit [5] 3 w6 (by decide)) (by omega) (by decide) (by kernel_rfl) (by decide)).mono ?_; rintro e w7 ⟨rfl, s7, t7⟩
  rw [st_b.1, st_b.2.1]
  rw [st_b.2.2] at s7
  have S7 := Lib.hid s7
  have T7 := Lib.hid (touch_lit t7)
  clear s7 t7
  go_wp2_with fail
  refine (get_any _ p m aw1 0 w7 S7.out okI_0).mono ?_; rintro e w8 ⟨al, ml, cl, rfl, rl, hml, frl, b8⟩
  rw [st_c.1]
  rw [st_c.2] at rl
  have hl := rl.len
  simp only [List.length_cons, List.length_nil, Nat.zero_add, Nat.reduceAdd] at hl
  subst hl
  have Rl := Lib.hid rl
  have Fl := Lib.hid frl
  have T8 := Lib.hid (Touch.of_below (S := Own2 p m) b8)
  have S8 := Lib.hid (S7.out.touch (.of_below b8))
  clear b8 rl frl hml
  go_wp2_with fail
  refine (forget_any _ p m aw1 0 w8 S8.out okI_0 (by simp [aw1])).mono ?_; rintro e w9 ⟨rfl, s9, t9⟩
  rw [st_d.1]
  rw [st_d.2] at s9
  have S9 := Lib.hid s9
  have T9 := Lib.hid t9
  clear s9 t9
  go_wp2_with fail
  refine (forget_any _ p m aw2 0 w9 S9.out okI_0 (by simp [aw2])).mono ?_; rintro e w10 ⟨rfl, s10, t10⟩
  rw [st_e.1]
  rw [st_e.2] at s10
  have S10 := Lib.hid s10
  have T10 := Lib.hid t10
  clear s10 t10
  go_wp2_with fail
  refine (add_any _ p m aw2 _ 1 _ [7] false _ (S10.out.touch lit_touch) (RdI.lit [7] 3 w10 (by decide)) (by omega) (by decide) (by kernel_rfl) (by decide)).mono ?_; rintro e w11 ⟨rfl, s11, t11⟩
  rw [st_f.1, st_f.2.1]
  rw [st_f.2.2] at s11
  have S11 := Lib.hid s11
  have T11 := Lib.hid (touch_lit t11)
  clear s11 t11
  go_wp2_with fail
  refine (addnil_any _ _ _ _ _).mono ?_; rintro e w' ⟨rfl, rfl⟩
  have hp1 : w1.heap.size ≤ p := Nat.le_trans (Nat.le_trans (Nat.le_trans B2.out.size B3.out.size) B4.out.size) Hp.out
  have hm1 : w1.heap.size ≤ m := Nat.le_trans (Nat.le_trans (Nat.le_trans B2.out.size B3.out.size) B4.out.size) Hm.out
  have T11' := Lib.hid (T6.out.trans (T7.out.trans (T8.out.trans (T9.out.trans (T10.out.trans T11.out)))))
  have Rn' := Lib.hid (((((Rn.out.below B2.out (Nat.le_refl _)).below B3.out (Nat.le_refl _)).below B4.out (Nat.le_refl _)).below B5.out (Nat.le_refl _)).touch T11'.out (off_lt Rn.out (by omega) hp1 hm1))
  have hp3 : w3.heap.size ≤ p := Nat.le_trans B4.out.size Hp.out
  have hm3 : w3.heap.size ≤ m := Nat.le_trans B4.out.size Hm.out
  have Rr' := Lib.hid (((Rr.out.below B4.out (Nat.le_refl _)).below B5.out (Nat.le_refl _)).touch T11'.out (off_lt Rr.out (by omega) hp3 hm3))
  have hmlt : m < w7.heap.size := by obtain ⟨_, hm, _⟩ := S7.out.map; exact hm.lt
  have Ol : Off (Own2 p m) al := fun y hy hs => by
    have h1 := Fl.out y hy
    have h2 := S7.out.plt
    rcases hs with hs | hs <;> omega
  have Rl' := Lib.hid (Rl.out.touch (T9.out.trans (T10.out.trans T11.out)) Ol)
  have B11 := Lib.hid (((((B1.out.trans (B2.out.mono B1.out.size)).trans (B3.out.mono (Nat.le_trans B1.out.size B2.out.size))).trans (B4.out.mono (Nat.le_trans B1.out.size (Nat.le_trans B2.out.size B3.out.size)))).trans (B5.out.mono (Nat.le_trans B1.out.size (Nat.le_trans B2.out.size (Nat.le_trans B3.out.size B4.out.size))))).trans
    (T11'.out.below (B := w.heap.size) (by have := B1.out.size; have := B5.out.size; have := B2.out.size; have := B3.out.size; have := B4.out.size; omega) (fun k hk => by have := B1.out.size; rcases hk with hk | hk <;> omega)))
  have Hpw : w.heap.size ≤ p := Nat.le_trans B1.out.size hp1
  have Hmw : w.heap.size ≤ m := Nat.le_trans B1.out.size hm1
  clear B1 B2 B3 B4 B5 T6 T7 T8 T9 T10 T11 T11' Rn Rr Rl Fl S5 S6 S7 S8 S9 S10 Hp Hm hp1 hm1 hp3 hm3 hmlt Ol
  go_wp2_with fail
  refine (ints_any _ _ 3 3 _ _ [1, -2, 3] [1, -2, 3] _ (Rn'.out.below lit_below (Nat.le_refl _)) (RdI.lit [1, -2, 3] 3 w11 (by decide)) (by omega)).mono ?_; rintro e w12 ⟨rfl, q, hw⟩
  rw [same_a]
  have T12 := Lib.hid (touch_lit (touch_draw (S := fun _ => False) hw))
  clear hw Rn'
  go_wp2_with fail
  refine (ints_any _ _ 2 2 _ _ [2, 3] [2, 3] _ ((Rr'.out.touch T12.out (fun _ _ => id)).below lit_below (Nat.le_refl _)) (RdI.lit [2, 3] 3 w12 (by decide)) (by omega)).mono ?_; rintro e w13 ⟨rfl, q, hw⟩
  rw [same_b]
  have T13 := Lib.hid (T12.out.trans (touch_lit (touch_draw (S := fun _ => False) hw)))
  clear hw Rr' T12
  go_wp2_with fail
  refine (ints_any _ _ 2 2 _ _ [1, 2] [1, 2] _ ((Rl'.out.touch T13.out (fun _ _ => id)).below lit_below (Nat.le_refl _)) (RdI.lit [1, 2] 3 w13 (by decide)) (by omega)).mono ?_; rintro e w14 ⟨rfl, q, hw⟩
  rw [same_c]
  have T14 := Lib.hid (T13.out.trans (touch_lit (touch_draw (S := fun _ => False) hw)))
  clear hw Rl' T13
  go_wp2_with fail
  refine (forget_any _ p m aw3 1 w14 (S11.out.touch T14.out) okI_1 (by simp [aw3])).mono ?_; rintro e w15 ⟨rfl, _, t15⟩
  rw [st_g]
  have B15 := Lib.hid (B11.out.trans ((Touch.below (B := w.heap.size) T14.out B11.out.size (fun _ h => h.elim)).trans (t15.below (Nat.le_trans B11.out.size T14.out.size) (fun k hk => by rcases hk with hk | hk <;> omega))))
  clear t15 T14 S11 B11
  go_wp2_with fail
  refine (len_nil _).mono ?_; rintro e w' ⟨rfl, rfl⟩
  go_wp2_with fail
  refine (within_any _ _ 1 2 _ _ [1] [2, 1] _ (RdI.lit2 [1] [2, 1] 3 w15 (by decide) (by decide)).1 (RdI.lit2 [1] [2, 1] 3 w15 (by decide) (by decide)).2 (by omega) (by omega)).mono ?_; rintro e w16 ⟨rfl, b16⟩
  rw [with_a]
  have B16 := Lib.hid (B15.out.trans ((lit2_below b16).mono B15.out.size))
  clear b16 B15
  go_wp2_with fail
  go_ret
  exact ⟨rfl, B16.out⟩
end Go.Proofs.Ytglbdkjdglcncaa
