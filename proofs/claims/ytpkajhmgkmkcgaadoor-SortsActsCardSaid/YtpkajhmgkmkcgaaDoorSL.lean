/-
  theodolitelaw6.awake: the walk: it returns true and writes nothing old. Condition: the library's table of spaces is as its text lays it.
-/
import Derived.Test.YtpkajhmgkmkcgaaDoorSK
namespace Go.Proofs.YtpkajhmgkmkcgaaDoor
open Go.RowKit Go.Sort Go.Lib

/-- a table that was made behind w0 -/
structure At (w0 : World) (p : Nat) (T : TabD) (w : World) : Prop where
  t : TabIs w0.heap.size p T w
  b : Below w0.heap.size w0 w
  e : Env w
  pos : 0 < w0.heap.size
theorem At.step {w0 w w' : World} {p : Nat} {T T' : TabD} (h : At w0 p T w) (t : TabIs w0.heap.size p T' w') (s : PStep p w w') : At w0 p T' w' :=
  have hb := h.t.stepBelow s
  ⟨t, h.b.trans hb, h.e.below hb h.pos, h.pos⟩
theorem At.all {w0 w w' : World} {p : Nat} {T : TabD} (h : At w0 p T w) (b : Below w.heap.size w w') : At w0 p T w' := h.step (h.t.all b) (.of_below h.t.plt b)
theorem At.lit {w0 w : World} {p : Nat} {T : TabD} (h : At w0 p T w) (o : Obj) : At w0 p T (w.alloc o) := h.all ((Below.refl _ _).alloc (Nat.le_refl _) _)
theorem At.lt {w0 w : World} {p : Nat} {T : TabD} (h : At w0 p T w) : w0.heap.size ≤ w.heap.size := h.b.size
theorem wf_nil : ∀ x ∈ ([] : List Int), -9223372036854775808 ≤ x ∧ x ≤ 9223372036854775807 := by simp
set_option maxRecDepth 100000 in
set_option maxHeartbeats 4000000 in
theorem awake6_any (w : World) (hE : Env w) : Calls Tryd.prog 7 #[] w fun e w' => e = .returned (.bool true) ∧ Below w.heap.size w w' := by
  have hE' := Lib.hid hE
  clear hE
  go_enter Tryd.func7, Tryd.ntmps7
  go_wp2_with fail
  refine (tnew_any w).mono ?_
  rintro e w1 ⟨p, rfl, t1, b1⟩
  have A1 := Lib.hid (show At w p aT0 w1 from ⟨t1, b1, hE'.out.all b1, hE'.out.pos⟩)
  clear t1 b1
  go_wp2_with fail
  refine (sort_any w.heap.size p aT0 sU w1 A1.out.t A1.out.e (by decide)).mono ?_
  rintro e w2 h2
  obtain ⟨rfl, t2, s2⟩ := h2.yes bad_U
  have A2 := Lib.hid (show At w p aT1 w2 from A1.out.step t2 s2)
  clear h2 t2 s2
  go_wp2_with fail
  refine (sort_any w.heap.size p aT1 sBool w2 A2.out.t A2.out.e (by decide)).mono ?_
  rintro e w3 h3
  obtain ⟨rfl, t3, s3⟩ := h3.no bad_Bool
  have A3 := Lib.hid (A2.out.step t3 s3)
  clear h3 t3 s3
  have hf := Lib.hid (fun_any w.heap.size p aT1 fF (some ⟨w3.heap.size, 0, none⟩) 2 (w3.alloc (.cells #[.int .i64 2, .int .i64 1] 3)) (A3.out.lit _).t small_1 (A3.out.lit _).e (RdI.lit [2, 1] 3 w3 (by decide)) (by decide))
  go_wp2_with fail
  refine hf.out.mono ?_
  rintro e w4 ⟨rfl, t4, s4⟩
  rw [fun_f.1]
  rw [fun_f.2] at t4
  have A4 := Lib.hid ((A3.out.lit _).step t4 s4)
  clear t4 s4 hf
  have hf := Lib.hid (fun_any w.heap.size p aT2 fG (some ⟨w4.heap.size, 0, none⟩) 1 (w4.alloc (.cells #[.int .i64 0] 3)) (A4.out.lit _).t small_2 (A4.out.lit _).e (RdI.lit [0] 3 w4 (by decide)) (by decide))
  go_wp2_with fail
  refine hf.out.mono ?_
  rintro e w5 ⟨rfl, t5, s5⟩
  rw [fun_g.1]
  rw [fun_g.2] at t5
  have A5 := Lib.hid ((A4.out.lit _).step t5 s5)
  clear t5 s5 hf
  go_wp2_with fail
  refine (push_any w.heap.size p aT2 w5 A5.out.t small_2).mono ?_
  rintro e w6 ⟨rfl, t6, s6⟩
  have A6 := Lib.hid (show At w p aT3 w6 from A5.out.step t6 s6)
  clear t6 s6
  have hf := Lib.hid (fun_any w.heap.size p aT3 fX none 0 w6 A6.out.t small_3 A6.out.e (RdI.nil _ _) (by decide))
  go_wp2_with fail
  refine hf.out.mono ?_
  rintro e w7 ⟨rfl, t7, s7⟩
  rw [fun_x.1]
  rw [fun_x.2] at t7
  have A7 := Lib.hid (A6.out.step t7 s7)
  clear t7 s7 hf
  go_wp2_with fail
  refine (levels_any w.heap.size p aT4 w7 A7.out.t).mono ?_; rintro e w' ⟨rfl, rfl⟩
  rw [show ((aT4.marks.length : Nat) : Int) = 1 from rfl]
  go_wp2_with fail
  refine (pop_any w.heap.size p aT4 2 w7 A7.out.t small_4 wf_4 (by unfold okI; omega)).mono ?_
  rintro e w8 ⟨rfl, t8, s8⟩
  rw [pop_2.1]
  rw [pop_2.2] at t8
  have A8 := Lib.hid (A7.out.step t8 s8)
  clear t8 s8
  go_wp2_with fail
  refine (pop_any w.heap.size p aT4 1 w8 A8.out.t small_4 wf_4 (by unfold okI; omega)).mono ?_
  rintro e w9 ⟨rfl, t9, s9⟩
  rw [pop_1.1]
  rw [pop_1.2] at t9
  have A9 := Lib.hid (A8.out.step t9 s9)
  clear t9 s9
  have hfd := Lib.hid (find_any w.heap.size p aT2 sx w9 A9.out.t small_2)
  rw [find_x2, show lookF aT2 sx = noFun by unfold lookF; rw [find_x2]; rfl] at hfd
  go_wp2_with fail
  refine hfd.out.mono ?_
  rintro e w10 ⟨a10, c10, rfl, _, _, _, b10⟩
  have A10 := Lib.hid (A9.out.all b10)
  clear b10 hfd
  have hfd := Lib.hid (find_any w.heap.size p aT2 sf _ (A10.out.lit (.cells #[.string noFun.name, .slice a10 noFun.args.length c10, .int .i64 noFun.res] 32)).t small_2)
  rw [find_f2, show lookF aT2 sf = fF by unfold lookF; rw [find_f2]; rfl] at hfd
  go_wp2_with fail
  refine hfd.out.mono ?_
  rintro e w11 ⟨a11, c11, rfl, _, _, _, b11⟩
  have A11 := Lib.hid ((A10.out.lit _).all b11)
  clear b11 hfd
  have hnm := Lib.hid (name_any w.heap.size p aT2 2 _ (A11.out.lit (.cells #[.string fF.name, .slice a11 fF.args.length c11, .int .i64 fF.res] 32)).t (by decide))
  rw [name_2] at hnm
  go_wp2_with fail
  refine hnm.out.mono ?_; rintro e w' ⟨rfl, rfl⟩
  have A12 := Lib.hid (A11.out.lit (.cells #[.string fF.name, .slice a11 fF.args.length c11, .int .i64 fF.res] 32))
  have e1 : ((sU, true).1 : ByteArray).toList = [85] := by rw [toL]; rfl
  have hl2 : ((fF.args.length : Nat) : Int) = 2 := rfl
  clear hnm
  go_wp2_with fail
  refine (reserved_any site _ A12.out.e).mono ?_; rintro e w13 ⟨rfl, b13⟩
  rw [ite_res]
  have A13 := Lib.hid (A12.out.all b13)
  clear b13
  go_wp2_with fail
  refine (reserved_any sf _ A13.out.e).mono ?_; rintro e w14 ⟨rfl, b14⟩
  rw [f_res]
  have A14 := Lib.hid (A13.out.all b14)
  clear b14
  go_wp2_with fail
  refine (funs_any w.heap.size p aT2 w14 A14.out.t small_2).mono ?_
  rintro e w15 ⟨gs, a15, c15, rfl, hp, _, _, b15⟩
  rw [show gs.length = 1 from hp.length_eq]
  have A15 := Lib.hid (A14.out.all b15)
  clear b15 hp
  go_wp2_with fail
  refine (levels_nil _).mono ?_; rintro e w' ⟨rfl, rfl⟩
  go_wp2_with fail
  refine (pop_nil 1 _ (by omega)).mono ?_; rintro e w' ⟨rfl, rfl⟩
  go_wp2
  go_ret
  exact ⟨rfl, A15.out.b⟩
end Go.Proofs.YtpkajhmgkmkcgaaDoor
