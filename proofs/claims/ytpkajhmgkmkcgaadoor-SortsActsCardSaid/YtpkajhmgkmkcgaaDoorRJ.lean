/-
  theodolitelaw6.SortsActs: the walk: it returns true and writes nothing old. Conditions: the acts can be read; the library's table of spaces is as its text lays it.
-/
import Derived.Test.YtpkajhmgkmkcgaaDoorRI
import Derived.Test.YtpkajhmgkmkcgaaDoorSL
import Derived.Deep.DeepCutAuto
import Derived.Deep.CutRange
import Derived.Deep.CutBlock
namespace Go.Proofs.YtpkajhmgkmkcgaaDoor
open Go.RowKit Go.Sort Go.Lib

section
variable {w0 w w' : World} {p q k : Nat} {T : TabD}
/-- a box apart from both -/
def Free (p q j : Nat) (w : World) : Prop := j < w.heap.size ∧ ¬ ownOf w p j ∧ ¬ ownOf w q j
theorem Both.lit (h : Both w0 p q k T w) (o : Obj) : Both w0 p q k T (w.alloc o) ∧ Free p q w.heap.size (w.alloc o) := by
  have hb : Below w.heap.size w (w.alloc o) := (Below.refl _ _).alloc (Nat.le_refl _) _
  refine ⟨h.all hb, by simp, fun e => ?_, fun e => ?_⟩
  · have := (h.t.ownB ((ownOf.same (hb.block p h.t.plt)).1 e)).2; omega
  · have := (h.r.ownB ((ownOf.same (hb.block q h.r.plt)).1 e)).2; omega
theorem PStep.cell {y : Addr} {u : Value} (h : PStep p w w') (hc : w.cell? y = some u) (hn : ¬ ownOf w p y.block) : w'.cell? y = some u := by
  rw [World.cell?_of_block (w := w) (a := y) (h.block y.block (World.block_lt_of_cell? w _ hc) hn).1]; exact hc
theorem Free.stepT {j : Nat} (h : Free p q j w) (s : PStep p w w') (hq : w'.heap[q]? = w.heap[q]?) : Free p q j w' :=
  ⟨Nat.lt_of_lt_of_le h.1 s.size, (s.block j h.1 h.2.1).2, fun e => h.2.2 ((ownOf.same hq).1 e)⟩
theorem RSortPost.no {X : Nat → Prop} {B p : Nat} {T : TabD} {s : ByteArray} {w w' : World} {e : Ending} (h : RSortPost X B p T s w e w') (hb : badSort T s = true) : e = .returned (.tuple #[.int .i64 0, .int .i64 1]) ∧ RefX X B p T w' ∧ PStep p w w' := by
  unfold RSortPost at h; rw [if_pos hb] at h; exact ⟨h.1.1, h.1.2, h.2⟩
theorem RSortPost.yes {X : Nat → Prop} {B p : Nat} {T : TabD} {s : ByteArray} {w w' : World} {e : Ending} (h : RSortPost X B p T s w e w') (hb : badSort T s = false) : e = .returned (.tuple #[.int .i64 ((T.sorts.length : Int) + 2), .int .i64 0]) ∧ RefX X B p { T with sorts := T.sorts ++ [s] } w' ∧ PStep p w w' := by
  unfold RSortPost at h; rw [if_neg (by rw [hb]; decide)] at h; exact ⟨h.1.1, h.1.2, h.2⟩
theorem look_args (h : OkT k T) (s : ByteArray) : (lookF T s).args.length ≤ 70 := by
  unfold lookF
  cases hf : findF T s with
  | none => simp [noFun]
  | some f => exact h.a f (List.mem_of_find?_eq_some hf)
end
set_option maxRecDepth 100000 in
set_option maxHeartbeats 4000000 in
theorem sortsActs_walk (a : Option Addr) (n c : Nat) (xs : List ActD) (nm : ByteArray) (w : World) (hE : Env w) (hx : SlR repAct (fun _ => True) w a n xs) (_hn : n ≤ c ∧ c ≤ 9223372036854775807) (hnm : nm.size ≤ maxLen) :
    Calls Tryd.prog 5 #[.slice a n c, .string nm] w fun e w' => e = .returned (.bool true) ∧ Below w.heap.size w w' := by
  have haw := Lib.hid (awake6_any w hE)
  have hfew := Lib.hid (few_any a n c xs w hx)
  have hx' := Lib.hid hx
  have lx := Lib.hid hx.1
  have hE' := Lib.hid hE
  have pos0 := hE.pos
  clear hx hE
  have hsz : nm.size ≤ 9223372036854775807 := hnm
  by_cases g1 : 300 < nm.size
  · go_enter Tryd.func5, Tryd.ntmps5
    go_wp2_with fail
    refine hfew.out.mono ?_; rintro e w' ⟨⟨b, rfl, _⟩, rfl⟩
    cases b
    · go_wp2_with fail
      refine haw.out.mono ?_; rintro e w' ⟨rfl, b⟩
      go_wp2
      go_ret
      exact ⟨rfl, b⟩
    · go_wp2_with fail
      refine haw.out.mono ?_; rintro e w' ⟨rfl, b⟩
      go_wp2
      go_ret
      exact ⟨rfl, b⟩
  go_enter Tryd.func5, Tryd.ntmps5
  go_wp2_with fail
  refine hfew.out.mono ?_; rintro e w' ⟨⟨b, rfl, hb⟩, rfl⟩
  cases b
  · clear hb
    go_wp2_with fail
    refine haw.out.mono ?_; rintro e w' ⟨rfl, b⟩
    go_wp2
    go_ret
    exact ⟨rfl, b⟩
  obtain ⟨hn40, h70⟩ := hb rfl
  have h70 := Lib.hid h70
  clear haw hfew hb
  go_wp2_with fail
  refine (tnew_any w).mono ?_
  rintro e w1 ⟨p, rfl, t1, b1⟩
  have I0 := Lib.hid (show Both w p w1.heap.size 0 ⟨[], [], []⟩ (w1.alloc (.cells #[.slice none 0 0, .slice none 0 0, .slice none 0 0] 49)) from by
    have hB1 : Below w1.heap.size w1 (w1.alloc (.cells #[.slice none 0 0, .slice none 0 0, .slice none 0 0] 49)) := (Below.refl _ _).alloc (Nat.le_refl _) _
    have hbq := heap_alloc_new w1 (.cells #[.slice none 0 0, .slice none 0 0, .slice none 0 0] 49)
    refine ⟨t1.all hB1, ⟨b1.size, fun k h => h.elim, _, _, _, hbq, OwnR.nil _ _ _ _ _, OwnR.nil _ _ _ _ _, OwnR.nil _ _ _ _ _⟩, fun j hj => ?_, b1.trans (hB1.mono b1.size), (hE'.out.all b1).all hB1, OkT.nil⟩
    have hj2 : j = w1.heap.size := by
      rcases (own3 hbq).1 hj with h | h | h | h
      · exact h
      · simp [Value.ownBlock] at h
      · simp [Value.ownBlock] at h
      · simp [Value.ownBlock] at h
    subst hj2
    refine ⟨by simp, fun hp => ?_⟩
    have := (t1.ownB ((ownOf.same (hB1.block p t1.plt)).1 hp)).2
    omega)
  clear t1 b1
  generalize hq : w1.heap.size = q at *
  go_wp2
  clear hq
  generalize (w1.alloc (.cells #[.slice none 0 0, .slice none 0 0, .slice none 0 0] 49)) = w2 at *
  go_loopw [4, 7] (fun _ v7 wr => ∃ (k : Nat) (T : TabD), k ≤ n ∧ v7 = .int .i64 k ∧ Hid (Both w p q k T wr)) (fun _ v7 _ => n - (intOf v7).toNat)
  case atStart => exact ⟨0, _, Nat.zero_le _, rfl, I0.out⟩
  case round =>
    clear I0
    obtain ⟨k, T, hk, rfl, hI⟩ := hrel
    by_cases hlt : k < n
    · have hkl : k < xs.length := by rw [lx.out]; exact hlt
      have hf := List.getElem?_eq_getElem hkl
      obtain ⟨b, o, a', c', rfl, q0', q1', q2', q3', q4', q5', r0, r1, r2, r3, r4, _⟩ := hx'.out.actAt hf
      have q0 := keep_cell hI.out.b q0'
      have q1 := keep_cell hI.out.b q1'
      have q2 := keep_cell hI.out.b q2'
      have q3 := keep_cell hI.out.b q3'
      have q4 := keep_cell hI.out.b q4'
      have q5 := keep_cell hI.out.b q5'
      have hra := Lib.hid r0.toI
      have hl70 := h70.out _ (List.getElem_mem hkl)
      have hok := Lib.hid r4
      clear hf q0' q1' q2' q3' q4' q5' r0 r3 r4
      generalize xs[k] = x at *
      obtain ⟨kd, xn, ⟨fn, fa, fr⟩, x⟩ := x
      dsimp only at *
      have H8 := Lib.hid (heap_alloc_new wr (.cells #[.int .i64 kd, .string xn, .string fn, .slice a' fa.length c', .int .i64 fr, .int .i64 x] 51))
      have hI1 := Lib.hid (hI.out.lit (.cells #[.int .i64 kd, .string xn, .string fn, .slice a' fa.length c', .int .i64 fr, .int .i64 x] 51)).1
      have hF1 := Lib.hid (hI.out.lit (.cells #[.int .i64 kd, .string xn, .string fn, .slice a' fa.length c', .int .i64 fr, .int .i64 x] 51)).2
      go_upto_block 2 with fail
      generalize h8 : wr.heap.size = p8 at *
      generalize (wr.alloc (.cells #[.int .i64 kd, .string xn, .string fn, .slice a' fa.length c', .int .i64 fr, .int .i64 x] 51)) = w8 at *
      clear h8 q0 q1 q2 q3 q4 q5 hI
      have h0 : w8.cell? ⟨p8, 0, none⟩ = some (.int .i64 kd) := cell_p H8.out 0
      have h1 : w8.cell? ⟨p8, 1, none⟩ = some (.string xn) := cell_p H8.out 1
      have h2 : w8.cell? ⟨p8, 2, none⟩ = some (.string fn) := cell_p H8.out 2
      have h3 : w8.cell? ⟨p8, 3, none⟩ = some (.slice a' fa.length c') := cell_p H8.out 3
      have h4 : w8.cell? ⟨p8, 4, none⟩ = some (.int .i64 fr) := cell_p H8.out 4
      have h5 : w8.cell? ⟨p8, 5, none⟩ = some (.int .i64 x) := cell_p H8.out 5
      go_cut [7, 9, 10, 11, 12, 13, 14, 15, 16, 17, 18, 19, 20, 21, 22, 23, 24] from 42 to 179 (fun v7 _ _ _ _ _ _ _ _ _ _ _ _ _ _ _ _ wc => ∃ T', v7 = .int .i64 k ∧ Hid (Both w p q (k + 1) T' wc))
      case first =>
        have hsm := Lib.hid (hI1.out.ok.small (by omega))
        by_cases k1 : kd = 1
        · subst k1
          as_aux_lemma =>
            go_wp2_with fail
            refine (sort_any w.heap.size p T xn w8 hI1.out.t hI1.out.e hsm.out.s).mono ?_
            rintro e w9 h'
            cases hbs : badSort T xn
            · skip
              have hp' := h'.yes hbs
              clear h'
              obtain ⟨rfl, t9', s9⟩ := hp'
              obtain ⟨r9', ap9', b9', e9'⟩ := hI1.out.step pos0 s9
              have g1 := s9.cell h1 hF1.out.2.1
              have T9 := Lib.hid t9'
              have R9 := Lib.hid r9'
              have AP9 := Lib.hid ap9'
              have B9 := Lib.hid b9'
              have E9 := Lib.hid e9'
              clear t9' r9' ap9' b9' e9' s9 h0 h1 h2 h3 h4 h5
              have hrs := Lib.hid (rsort_any w.heap.size q T xn w9 R9.out hsm.out.s)
              go_wp2_with fail
              refine hrs.out.mono ?_
              rintro e w10 h''
              have hp' := h''.yes hbs
              clear h''
              obtain ⟨rfl, r10', s10⟩ := hp'
              have I10 := Lib.hid (Both.step2 pos0 T9.out R9.out AP9.out B9.out E9.out (hI1.out.ok.sort xn) r10' s10)
              clear r10' s10
              go_wp2
              go_meet
              case rel => exact ⟨_, rfl, I10.out⟩
            · skip
              have hp' := h'.no hbs
              clear h'
              obtain ⟨rfl, t9', s9⟩ := hp'
              obtain ⟨r9', ap9', b9', e9'⟩ := hI1.out.step pos0 s9
              have g1 := s9.cell h1 hF1.out.2.1
              have T9 := Lib.hid t9'
              have R9 := Lib.hid r9'
              have AP9 := Lib.hid ap9'
              have B9 := Lib.hid b9'
              have E9 := Lib.hid e9'
              clear t9' r9' ap9' b9' e9' s9 h0 h1 h2 h3 h4 h5
              have hrs := Lib.hid (rsort_any w.heap.size q T xn w9 R9.out hsm.out.s)
              go_wp2_with fail
              refine hrs.out.mono ?_
              rintro e w10 h''
              have hp' := h''.no hbs
              clear h''
              obtain ⟨rfl, r10', s10⟩ := hp'
              have I10 := Lib.hid (Both.step2 pos0 T9.out R9.out AP9.out B9.out E9.out (hI1.out.ok.more) r10' s10)
              clear r10' s10
              go_wp2
              go_meet
              case rel => exact ⟨_, rfl, I10.out⟩
        by_cases k2 : kd = 2
        · subst k2
          as_aux_lemma =>
            go_upto_region 18 with fail
            have hId := Lib.hid (hI1.out.all ((Below.refl w8.heap.size w8).drewN 1))
            have hFd : Hid (Free p q p8 (w8.drewN 1)) := hF1
            have hac := Lib.hid r1
            have hfu := Lib.hid (fun_any w.heap.size p T ⟨fn, fa, fr⟩ a' c' (w8.drewN 1) hId.out.t hsm.out hId.out.e (hra.out.below hId.out.b (Nat.le_refl _)) (show fa.length < _ by omega))
            refine wp_region_tt (S := fun W => W.cell? ⟨p8, 2, none⟩ = some (.string fn) ∧ W.cell? ⟨p8, 3, none⟩ = some (.slice a' fa.length c') ∧ W.cell? ⟨p8, 4, none⟩ = some (.int .i64 fr)) 8 (by kernel_rfl) (by kernel_rfl) ⟨h2, h3, h4⟩ (fun hHeld => ?_)
            refine tt_take (i := 0) (v := _) (by rfl) (by decide +kernel) (by exact fun _ _ _ h => h) (Or.inl ⟨by rfl, by (intro W hSw; (try dsimp only at hSw); go_simp <;> with_reducible rfl)⟩) (by assumption) ?_
            (try simp only [Act.put, List.setIfInBounds_toArray, List.set_cons_zero, List.set_cons_succ])
            refine tt_take (i := 1) (v := _) (by rfl) (by decide +kernel) (by exact fun _ _ _ h => h) (Or.inl ⟨by rfl, by (intro W hSw; (try dsimp only at hSw); go_simp <;> with_reducible rfl)⟩) (by assumption) ?_
            (try simp only [Act.put, List.setIfInBounds_toArray, List.set_cons_zero, List.set_cons_succ])
            refine tt_take (i := 2) (v := _) (by rfl) (by decide +kernel) (by exact fun _ _ _ h => h) (Or.inl ⟨by rfl, by (intro W hSw; have hq1 := hSw.1; have hq2 := hSw.2.1; have hq3 := hSw.2.2; go_simp <;> with_reducible rfl)⟩) (by assumption) ?_
            (try simp only [Act.put, List.setIfInBounds_toArray, List.set_cons_zero, List.set_cons_succ])
            refine tt_take (i := 4) (v := _) (by rfl) (by decide +kernel) (by exact fun _ _ _ h => h) (Or.inl ⟨by rfl, by (intro W hSw; (try dsimp only at hSw); go_simp <;> with_reducible rfl)⟩) (by assumption) ?_
            (try simp only [Act.put, List.setIfInBounds_toArray, List.set_cons_zero, List.set_cons_succ])
            refine tt_take (i := 5) (v := _) (by rfl) (by decide +kernel) (by exact fun _ _ _ h => h) (Or.inl ⟨by rfl, by (intro W hSw; (try dsimp only at hSw); go_simp <;> with_reducible rfl)⟩) (by assumption) ?_
            (try simp only [Act.put, List.setIfInBounds_toArray, List.set_cons_zero, List.set_cons_succ])
            refine tt_take (i := 6) (v := _) (by rfl) (by decide +kernel) (by exact fun _ _ _ h => h) (Or.inl ⟨by rfl, by (intro W hSw; have hq1 := hSw.1; have hq2 := hSw.2.1; have hq3 := hSw.2.2; go_simp <;> with_reducible rfl)⟩) (by assumption) ?_
            (try simp only [Act.put, List.setIfInBounds_toArray, List.set_cons_zero, List.set_cons_succ])
            refine tt_ready (rs := [3]) (by decide +kernel) (allT_cons (by rfl) (fun K hK => ?_) allT_nil)
            go_simp
            go_at_call 11
            refine hfu.out.mono ?_
            rintro e w9 ⟨rfl, t9', s9⟩
            obtain ⟨r9', ap9', b9', e9'⟩ := hId.out.step pos0 s9
            have g2 := s9.cell (w := w8.drewN 1) h2 hFd.out.2.1
            have g3 := s9.cell (w := w8.drewN 1) h3 hFd.out.2.1
            have g4 := s9.cell (w := w8.drewN 1) h4 hFd.out.2.1
            have T9 := Lib.hid t9'
            have R9 := Lib.hid r9'
            have AP9 := Lib.hid ap9'
            have B9 := Lib.hid b9'
            have E9 := Lib.hid e9'
            have F9 := Lib.hid (hFd.out.stepT s9 ((s9.block q hId.out.r.plt (hId.out.ap q (.inl rfl)).2).1))
            have hrf := Lib.hid (rfun_any w.heap.size q T ⟨fn, fa, fr⟩ a' c' w9 r9' hsm.out (hra.out.below b9' (Nat.le_refl _)) (show fa.length < _ by omega) hac.out)
            clear t9' r9' ap9' b9' e9' s9
            dsimp only
            refine hK.out _ _ (by (exact ⟨g2, g3, g4⟩)) (fun hHeld2 => ?_)
            clear hK K
            (try simp only [Act.put, List.setIfInBounds_toArray, List.set_cons_zero, List.set_cons_succ])
            refine tt_ready (rs := [7]) (by decide +kernel) (allT_cons (by rfl) (fun K hK => ?_) allT_nil)
            go_simp
            go_at_call 18
            refine hrf.out.mono ?_
            rintro e w10 ⟨rfl, r10', s10'⟩
            have j2 := s10'.cell g2 F9.out.2.2
            have j3 := s10'.cell g3 F9.out.2.2
            have j4 := s10'.cell g4 F9.out.2.2
            have I10 := Lib.hid (Both.step2 pos0 T9.out R9.out AP9.out B9.out E9.out (hI1.out.ok.fn ⟨fn, fa, fr⟩) r10' s10')
            clear r10' s10'
            dsimp only
            refine hK.out _ _ (by (exact ⟨j2, j3, j4⟩)) (fun hHeld3 => ?_)
            clear hK K
            (try simp only [Act.put, List.setIfInBounds_toArray, List.set_cons_zero, List.set_cons_succ])
            refine tt_tail (by decide +kernel) ?_
            simp only [List.drop_succ_cons, List.drop_zero]
            go_wp2
            go_meet
            case rel => exact ⟨_, rfl, I10.out⟩
        by_cases k3 : kd = 3
        · subst k3
          as_aux_lemma =>
            go_wp2_with fail
            refine (push_any w.heap.size p T w8 hI1.out.t hsm.out).mono ?_
            rintro e w9 ⟨rfl, t9', s9⟩
            obtain ⟨r9', ap9', b9', e9'⟩ := hI1.out.step pos0 s9
            have T9 := Lib.hid t9'
            have R9 := Lib.hid r9'
            have AP9 := Lib.hid ap9'
            have B9 := Lib.hid b9'
            have E9 := Lib.hid e9'
            clear t9' r9' ap9' b9' e9' s9 h0 h1 h2 h3 h4 h5
            have hrs := Lib.hid (rpush_any w.heap.size q T w9 R9.out hsm.out)
            go_wp2_with fail
            refine hrs.out.mono ?_
            rintro e w10 ⟨rfl, r10', s10⟩
            have I10 := Lib.hid (Both.step2 pos0 T9.out R9.out AP9.out B9.out E9.out hI1.out.ok.push r10' s10)
            clear r10' s10
            go_wp2
            go_meet
            case rel => exact ⟨_, rfl, I10.out⟩
        by_cases k4 : kd = 4
        · subst k4
          as_aux_lemma =>
            go_upto_region 24 with fail
            have hId := Lib.hid (hI1.out.all ((Below.refl w8.heap.size w8).drewN 1))
            have hFd : Hid (Free p q p8 (w8.drewN 1)) := hF1
            have hfu := Lib.hid (pop_any w.heap.size p T x (w8.drewN 1) hId.out.t hsm.out hId.out.ok.wf hok.out)
            refine wp_region_tt (S := fun W => W.cell? ⟨p8, 5, none⟩ = some (.int .i64 x)) 8 (by kernel_rfl) (by kernel_rfl) h5 (fun hHeld => ?_)
            refine tt_take (i := 0) (v := _) (by rfl) (by decide +kernel) (by exact fun _ _ _ h => h) (Or.inl ⟨by rfl, by (intro W hSw; (try dsimp only at hSw); go_simp <;> with_reducible rfl)⟩) (by assumption) ?_
            (try simp only [Act.put, List.setIfInBounds_toArray, List.set_cons_zero, List.set_cons_succ])
            refine tt_take (i := 1) (v := _) (by rfl) (by decide +kernel) (by exact fun _ _ _ h => h) (Or.inl ⟨by rfl, by (intro W hSw; (try dsimp only at hSw); go_simp <;> with_reducible rfl)⟩) (by assumption) ?_
            (try simp only [Act.put, List.setIfInBounds_toArray, List.set_cons_zero, List.set_cons_succ])
            refine tt_take (i := 2) (v := _) (by rfl) (by decide +kernel) (by exact fun _ _ _ h => h) (Or.inl ⟨by rfl, by (intro W hSw; have hq1 := hSw; go_simp <;> with_reducible rfl)⟩) (by assumption) ?_
            (try simp only [Act.put, List.setIfInBounds_toArray, List.set_cons_zero, List.set_cons_succ])
            refine tt_take (i := 4) (v := _) (by rfl) (by decide +kernel) (by exact fun _ _ _ h => h) (Or.inl ⟨by rfl, by (intro W hSw; (try dsimp only at hSw); go_simp <;> with_reducible rfl)⟩) (by assumption) ?_
            (try simp only [Act.put, List.setIfInBounds_toArray, List.set_cons_zero, List.set_cons_succ])
            refine tt_take (i := 5) (v := _) (by rfl) (by decide +kernel) (by exact fun _ _ _ h => h) (Or.inl ⟨by rfl, by (intro W hSw; (try dsimp only at hSw); go_simp <;> with_reducible rfl)⟩) (by assumption) ?_
            (try simp only [Act.put, List.setIfInBounds_toArray, List.set_cons_zero, List.set_cons_succ])
            refine tt_take (i := 6) (v := _) (by rfl) (by decide +kernel) (by exact fun _ _ _ h => h) (Or.inl ⟨by rfl, by (intro W hSw; have hq1 := hSw; go_simp <;> with_reducible rfl)⟩) (by assumption) ?_
            (try simp only [Act.put, List.setIfInBounds_toArray, List.set_cons_zero, List.set_cons_succ])
            refine tt_ready (rs := [3]) (by decide +kernel) (allT_cons (by rfl) (fun K hK => ?_) allT_nil)
            go_simp
            go_at_call 21
            refine hfu.out.mono ?_
            rintro e w9 ⟨rfl, t9', s9⟩
            obtain ⟨r9', ap9', b9', e9'⟩ := hId.out.step pos0 s9
            have g5 := s9.cell (w := w8.drewN 1) h5 hFd.out.2.1
            have T9 := Lib.hid t9'
            have R9 := Lib.hid r9'
            have AP9 := Lib.hid ap9'
            have B9 := Lib.hid b9'
            have E9 := Lib.hid e9'
            have F9 := Lib.hid (hFd.out.stepT s9 ((s9.block q hId.out.r.plt (hId.out.ap q (.inl rfl)).2).1))
            have hrf := Lib.hid (rpop_any w.heap.size q T x w9 r9' hsm.out hI1.out.ok.wf hok.out)
            clear t9' r9' ap9' b9' e9' s9
            dsimp only
            refine hK.out _ _ (by (exact g5)) (fun hHeld2 => ?_)
            clear hK K
            (try simp only [Act.put, List.setIfInBounds_toArray, List.set_cons_zero, List.set_cons_succ])
            refine tt_ready (rs := [7]) (by decide +kernel) (allT_cons (by rfl) (fun K hK => ?_) allT_nil)
            go_simp
            go_at_call 22
            refine hrf.out.mono ?_
            rintro e w10 ⟨rfl, r10', s10'⟩
            have j5 := s10'.cell g5 F9.out.2.2
            have I10 := Lib.hid (Both.step2 pos0 T9.out R9.out AP9.out B9.out E9.out (hI1.out.ok.pop x) r10' s10')
            clear r10' s10'
            dsimp only
            refine hK.out _ _ (by (exact j5)) (fun hHeld3 => ?_)
            clear hK K
            (try simp only [Act.put, List.setIfInBounds_toArray, List.set_cons_zero, List.set_cons_succ])
            refine tt_tail (by decide +kernel) ?_
            simp only [List.drop_succ_cons, List.drop_zero]
            go_wp2
            go_meet
            case rel => exact ⟨_, rfl, I10.out⟩
        by_cases k5 : kd = 5
        · subst k5
          as_aux_lemma =>
            have hla := look_args hI1.out.ok xn
            have hrf := Lib.hid (fun W (I : Both w p q k T W) => rfind_any w.heap.size q T xn W I.r hsm.out)
            go_wp2_with fail
            refine (find_any w.heap.size p T xn w8 hI1.out.t hsm.out).mono ?_
            rintro e w9 ⟨a9, c9, rfl, sl9, _, _, b9⟩
            generalize lookF T xn = ff at *
            generalize (findF T xn).isSome = fo at *
            have B13 : Below w9.heap.size w9 (w9.alloc (.cells #[.string ff.name, .slice a9 ff.args.length c9, .int .i64 ff.res] 32)) := (Below.refl _ _).alloc (Nat.le_refl _) _
            have I10 := Lib.hid ((hI1.out.all b9).all B13)
            have g1 := keep_cell B13 (keep_cell b9 h1)
            have H13 := Lib.hid (heap_alloc_new w9 (.cells #[.string ff.name, .slice a9 ff.args.length c9, .int .i64 ff.res] 32))
            have L13 := Lib.hid (show w9.heap.size < (w9.alloc (.cells #[.string ff.name, .slice a9 ff.args.length c9, .int .i64 ff.res] 32)).heap.size by simp)
            have R9 := Lib.hid (sl9.toI.below B13 (Nat.le_refl _))
            clear sl9 b9 B13 h0 h1 h2 h3 h4 h5
            go_wp2_with fail
            refine (hrf.out _ I10.out).mono ?_
            rintro e w11 ⟨a11, c11, rfl, sl11, _, _, b11⟩
            have B15 : Below w11.heap.size w11 (w11.alloc (.cells #[.string ff.name, .slice a11 ff.args.length c11, .int .i64 ff.res] 32)) := (Below.refl _ _).alloc (Nat.le_refl _) _
            have I12 := Lib.hid ((I10.out.all b11).all B15)
            have H2 := (B15.block _ (Nat.lt_of_lt_of_le L13.out b11.size)).trans ((b11.block _ L13.out).trans H13.out)
            have m0 := cell_p H2 0
            have m1 := cell_p H2 1
            have m2 := cell_p H2 2
            simp only [List.getElem?_toArray, List.getElem?_cons_succ, List.getElem?_cons_zero] at m0 m1 m2
            have R9' := R9.out.below (b11.trans (B15.mono b11.size)) (Nat.le_refl _)
            have hsa := Lib.hid (same_any ff.name a9 a11 ff.args.length c9 c11 ff.res ff.args _ R9' (sl11.toI.below B15 (Nat.le_refl _)) (by omega))
            clear sl11 b11 B15 g1 H2 R9' R9 I10 H13 L13
            cases fo
            all_goals
              go_wp2_with fail
              refine hsa.out.mono ?_
              rintro e w13 ⟨rfl, b13⟩
              have I13 := Lib.hid (I12.out.all b13)
              clear b13
              go_wp2
              go_meet
              case rel => exact ⟨_, rfl, I13.out.more⟩
        by_cases k6 : kd = 6
        · subst k6
          as_aux_lemma =>
            go_wp2_with fail
            refine (findSort_any w.heap.size p T xn w8 hI1.out.t hsm.out.s).mono ?_; rintro e w' ⟨rfl, rfl⟩
            go_wp2_with fail
            refine (rfindSort_any w.heap.size q T xn w8 hI1.out.r hsm.out.s).mono ?_; rintro e w' ⟨rfl, rfl⟩
            generalize findSort T xn = fs at *
            obtain ⟨fs1, fs2⟩ := fs
            cases fs2
            all_goals
              go_wp2
              go_meet
              case rel => exact ⟨_, rfl, hI1.out.more⟩
        by_cases k7 : kd = 7
        · subst k7
          as_aux_lemma =>
            go_wp2_with fail
            refine (name_any w.heap.size p T x w8 hI1.out.t hsm.out.s).mono ?_; rintro e w' ⟨rfl, rfl⟩
            go_wp2_with fail
            refine (rnameOf_any w.heap.size q T x w8 hI1.out.r hsm.out.s).mono ?_; rintro e w9 ⟨rfl, b9⟩
            have I9 := Lib.hid (hI1.out.all b9)
            clear b9
            generalize nameOf T x = fs at *
            obtain ⟨fs1, fs2⟩ := fs
            cases fs2
            all_goals
              go_wp2
              go_meet
              case rel => exact ⟨_, rfl, I9.out.more⟩
        go_wp2
        go_meet
        case rel => exact ⟨T, rfl, hI1.out.more⟩
      case rest =>
        as_aux_lemma =>
          clear h0 h1 h2 h3 h4 h5 hI1 hF1 H8
          obtain ⟨T2, rfl, hI2⟩ := hcut
          have hsm := Lib.hid (hI2.out.ok.small (by omega))
          go_wp2_with fail
          refine (funs_any w.heap.size p T2 wc hI2.out.t hsm.out).mono ?_
          rintro e w11 ⟨gs, a11, c11, rfl, p1, n1, sl1, b11⟩
          have I11 := Lib.hid (hI2.out.all b11)
          have S1 := Lib.hid sl1
          have P1 := Lib.hid p1
          have N1 := Lib.hid n1
          clear p1 n1 sl1 b11
          go_wp2_with fail
          refine (rall_any w.heap.size q T2 w11 I11.out.r hsm.out).mono ?_
          rintro e w12 ⟨hs, a12, c12, rfl, p2, n2, sl2, b12⟩
          obtain rfl := funs_one hI2.out.ok.nd P1.out N1.out p2 n2
          have I12 := Lib.hid (I11.out.all b12)
          have S2 := Lib.hid sl2
          have S1 := Lib.hid (S1.out.below b12 (Nat.le_refl _))
          have hgl : gs.length ≤ 41 := by have := P1.out.length_eq; have := hI2.out.ok.f; omega
          have h70g := Lib.hid (show ∀ g ∈ gs, g.args.length ≤ 70 from fun g hg => hI2.out.ok.a g (P1.out.mem_iff.1 hg))
          clear p2 n2 sl2 b12 I11 hI2 P1 N1
          go_wp2_with fail
          refine (levels_any w.heap.size p T2 w12 I12.out.t).mono ?_; rintro e w' ⟨rfl, rfl⟩
          go_wp2_with fail
          refine (rlevels_any w.heap.size q T2 w12 I12.out.r).mono ?_; rintro e w' ⟨rfl, rfl⟩
          go_wp2
          go_loopw [4, 27] (fun _ v27 wr => ∃ j : Nat, j ≤ gs.length ∧ v27 = .int .i64 j ∧ Hid (Both w p q (k + 1) T2 wr) ∧ Hid (SlR repF (fun _ => True) wr a11 gs.length gs) ∧ Hid (SlR repF (fun _ => True) wr a12 gs.length gs)) (fun _ v27 _ => gs.length - (intOf v27).toNat)
          case atStart => exact ⟨0, Nat.zero_le _, rfl, I12.out, S1.out, S2.out⟩
          case round =>
            clear I12 S1 S2
            obtain ⟨j, hj, rfl, hI3, s1, s2⟩ := hrel
            by_cases hjl : j < gs.length
            · have hf := List.getElem?_eq_getElem hjl
              obtain ⟨b5, o5, a5, c5, rfl, m0, m1, m2, m3, _⟩ := s1.out.funAt hf
              obtain ⟨b6, o6, a6, c6, rfl, l0, l1, l2, l3, _⟩ := s2.out.funAt hf
              have h70 := h70g.out _ (List.getElem_mem hjl)
              clear hf
              generalize gs[j] = g at *
              have hsa := Lib.hid (same_any g.name a5 a6 g.args.length c5 c6 g.res g.args wr.drew (m3.toI.below (keep_drew wr) (Nat.le_refl _)) (l3.toI.below (keep_drew wr) (Nat.le_refl _)) (by omega))
              go_upto_region 47 with fail
              refine wp_region_tt (S := fun W => Below wr.heap.size wr W) 9 (by kernel_rfl) (by kernel_rfl) (keep_drew wr) (fun hHeld => ?_)
              refine tt_take (i := 0) (v := _) (by rfl) (by decide +kernel) (by exact fun _ _ _ h => h) (Or.inl ⟨by rfl, by (intro W hSw; (try dsimp only at hSw); go_simp <;> with_reducible rfl)⟩) (by assumption) ?_
              (try simp only [Act.put, List.setIfInBounds_toArray, List.set_cons_zero, List.set_cons_succ])
              refine tt_take (i := 1) (v := _) (by rfl) (by decide +kernel) (by exact fun _ _ _ h => h) (Or.inl ⟨by rfl, by (intro W hSw; (try dsimp only at hSw); go_simp <;> with_reducible rfl)⟩) (by assumption) ?_
              (try simp only [Act.put, List.setIfInBounds_toArray, List.set_cons_zero, List.set_cons_succ])
              refine tt_take (i := 2) (v := _) (by rfl) (by decide +kernel) (by exact fun _ _ _ h => h) (Or.inl ⟨by rfl, by (intro W hSw; (try dsimp only at hSw); go_simp <;> with_reducible rfl)⟩) (by assumption) ?_
              (try simp only [Act.put, List.setIfInBounds_toArray, List.set_cons_zero, List.set_cons_succ])
              refine tt_take (i := 3) (v := _) (by rfl) (by decide +kernel) (by exact fun _ _ _ h => h) (Or.inl ⟨by rfl, by (intro W hSw; have hq1 := keep_cell hSw m0; have hq2 := keep_cell hSw m1; have hq3 := keep_cell hSw m2; go_simp <;> with_reducible rfl)⟩) (by assumption) ?_
              (try simp only [Act.put, List.setIfInBounds_toArray, List.set_cons_zero, List.set_cons_succ])
              refine tt_take (i := 4) (v := _) (by rfl) (by decide +kernel) (by exact fun _ _ _ h => h) (Or.inl ⟨by rfl, by (intro W hSw; (try dsimp only at hSw); go_simp <;> with_reducible rfl)⟩) (by assumption) ?_
              (try simp only [Act.put, List.setIfInBounds_toArray, List.set_cons_zero, List.set_cons_succ])
              refine tt_take (i := 5) (v := _) (by rfl) (by decide +kernel) (by exact fun _ _ _ h => h) (Or.inl ⟨by rfl, by (intro W hSw; (try dsimp only at hSw); go_simp <;> with_reducible rfl)⟩) (by assumption) ?_
              (try simp only [Act.put, List.setIfInBounds_toArray, List.set_cons_zero, List.set_cons_succ])
              refine tt_take (i := 6) (v := _) (by rfl) (by decide +kernel) (by exact fun _ _ _ h => h) (Or.inl ⟨by rfl, by (intro W hSw; (try dsimp only at hSw); go_simp <;> with_reducible rfl)⟩) (by assumption) ?_
              (try simp only [Act.put, List.setIfInBounds_toArray, List.set_cons_zero, List.set_cons_succ])
              refine tt_take (i := 7) (v := _) (by rfl) (by decide +kernel) (by exact fun _ _ _ h => h) (Or.inl ⟨by rfl, by (intro W hSw; have hq1 := keep_cell hSw l0; have hq2 := keep_cell hSw l1; have hq3 := keep_cell hSw l2; go_simp <;> with_reducible rfl)⟩) (by assumption) ?_
              (try simp only [Act.put, List.setIfInBounds_toArray, List.set_cons_zero, List.set_cons_succ])
              refine tt_ready (rs := [8]) (by decide +kernel) (allT_cons (by rfl) (fun K hK => ?_) allT_nil)
              go_simp
              go_at_call 24
              refine hsa.out.mono ?_
              rintro e w9 ⟨rfl, b9⟩
              have B9 : Below wr.heap.size wr w9 := (keep_drew wr).trans b9
              dsimp only
              refine hK.out _ _ (by (exact B9)) (fun hHeld2 => ?_)
              clear hK K
              (try simp only [Act.put, List.setIfInBounds_toArray, List.set_cons_zero, List.set_cons_succ])
              refine tt_tail (by decide +kernel) ?_
              simp only [List.drop_succ_cons, List.drop_zero]
              have I9 := Lib.hid (hI3.out.all B9)
              have S1 := Lib.hid (s1.out.below B9 (Nat.le_refl _))
              have S2 := Lib.hid (s2.out.below B9 (Nat.le_refl _))
              clear b9 B9 m0 m1 m2 m3 l0 l1 l2 l3
              go_wp2
              go_roundw
              case rel => exact ⟨j + 1, by omega, by go_num, I9.out, S1.out, S2.out⟩
              case measure => simp [intOf]; omega
            · go_wp2
              go_roundw
              case rel => exact ⟨k + 1, T2, by omega, by go_num, hI3.out⟩
              case measure => simp [intOf]; omega
    · have hrs := Lib.hid (reserved_any nm wr hI.out.e)
      have hrr := Lib.hid (fun W => rreserved_any nm W)
      generalize resB nm = rb at *
      go_wp2_with fail
      refine hrs.out.mono ?_; rintro e w9 ⟨rfl, b9⟩
      have I9 := Lib.hid (hI.out.all b9)
      clear b9
      go_wp2_with fail
      refine (hrr.out w9).mono ?_; rintro e w10 ⟨rfl, b10⟩
      have I10 := Lib.hid (I9.out.all b10)
      clear b10
      go_wp2_with fail
      refine (awake6_any w10 I10.out.e).mono ?_; rintro e w11 ⟨rfl, b11⟩
      have bb := Lib.hid (I10.out.b.trans (b11.mono I10.out.b.size))
      clear b11
      go_wp2
      go_ret
      exact ⟨rfl, bb.out⟩
end Go.Proofs.YtpkajhmgkmkcgaaDoor
