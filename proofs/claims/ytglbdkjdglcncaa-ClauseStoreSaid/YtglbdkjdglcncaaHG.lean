/-
  theodolitelaw19.ClauseStore: the walk: it returns true and writes nothing old. Conditions: the acts can be read.
-/
import Derived.Test.YtglbdkjdglcncaaHF
import Derived.Deep.DeepCutAuto
import Derived.Deep.CutRange
import Derived.Deep.CutBlock
namespace Go.Proofs.Ytglbdkjdglcncaa
open Go.RowKit Go.Sort Go.Lib

theorem RdI.touch0 {P : Nat → Prop} {w w' : World} {a : Option Addr} {n : Nat} {xs : List Int} (h : RdI w a n xs) (ht : Touch P w w') (ho : 0 < n → ∀ y, a = some y → ¬ P y.block) : RdI w' a n xs := by
  by_cases hn : 0 < n
  · exact h.touch ht (ho hn)
  · obtain rfl : n = 0 := by omega
    have : xs = [] := List.eq_nil_of_length_eq_zero h.len
    subst this
    exact RdI.nil _ _
theorem look_some {S : St} {x : Int} {it : Item} (hf : findIt S.items x = some it) : ∃ j : Nat, posIt S.items x = j ∧ S.items[j]? = some it ∧ lOf S x = it.l ∧ learnedOf S x = it.learned := by
  have h := idxP_find (p := fun it : Item => it.id == x) S.items 0
  have e1 : List.find? (fun it : Item => it.id == x) S.items = findIt S.items x := rfl
  have e2 : idxP (fun it : Item => it.id == x) S.items 0 = posIt S.items x := rfl
  rw [e1, e2, hf] at h
  dsimp only at h
  obtain ⟨j, h1, h2, _⟩ := h
  exact ⟨j, by rw [h1, Nat.zero_add], h2, by unfold lOf; rw [hf], by unfold learnedOf; rw [hf]⟩
theorem look_none {S : St} {x : Int} (hf : findIt S.items x = none) : posIt S.items x = -1 ∧ lOf S x = [] ∧ learnedOf S x = false := by
  have h := idxP_find (p := fun it : Item => it.id == x) S.items 0
  have e1 : List.find? (fun it : Item => it.id == x) S.items = findIt S.items x := rfl
  have e2 : idxP (fun it : Item => it.id == x) S.items 0 = posIt S.items x := rfl
  rw [e1, e2, hf] at h
  exact ⟨h, by unfold lOf; rw [hf], by unfold learnedOf; rw [hf]⟩
theorem sameI_self (xs : List Int) : sameI xs xs = true := by unfold sameI; simp

set_option maxRecDepth 100000 in
set_option maxHeartbeats 4000000 in
theorem clauseStore_walk (mo : Int) (a : Option Addr) (n c : Nat) (xs : List ActD) (w : World) (hx : SlR repAct (fun _ => True) w a n xs) (_hn : n ≤ c ∧ c ≤ 9223372036854775807) :
    Calls Try.prog 3 #[.int .i64 mo, .slice a n c] w fun e w' => e = .returned (.bool true) ∧ Below w.heap.size w w' := by
  have haw := Lib.hid (awake_any w)
  have hx' := Lib.hid hx
  have lx := Lib.hid hx.1
  clear hx
  by_cases g1 : 50 < n
  · go_enter Try.func3, Try.ntmps3
    go_wp2_with fail
    refine haw.out.mono ?_; rintro e w' ⟨rfl, b⟩
    go_wp2
    go_ret
    exact ⟨rfl, b⟩
  clear haw
  go_enter Try.func3, Try.ntmps3
  go_wp2_with fail
  refine (new_any mo w).mono ?_
  rintro e w1 ⟨p, m, rfl, st, hp, hm, hb1⟩
  obtain ⟨F0, hm0, _⟩ := st.map
  have hpl := st.plt
  have hml := hm0.lt
  have hB1 : Below w1.heap.size w1 (w1.alloc (.cells #[.int .i64 mo, .slice none 0 0, .int .i64 0] 29)) := (Below.refl _ _).alloc (Nat.le_refl _) _
  have I0 := Lib.hid (show Inv w p m w1.heap.size 0 ⟨mo, 0, []⟩ (w1.alloc (.cells #[.int .i64 mo, .slice none 0 0, .int .i64 0] 29)) from
    ⟨(st.touch (.of_below hB1)).raise (by simp), ⟨⟨_, heap_alloc_new w1 _, OwnR.nil _ _ _ _ _⟩⟩, hb1.trans (hB1.mono hb1.size), ⟨by simp, by simp, ⟨by simp, by simp⟩, by simp⟩, ⟨hpl, hml⟩, ⟨hp, hm⟩⟩)
  clear st hb1 hm0 hB1 hp hm hpl hml
  generalize hq : w1.heap.size = q at *
  go_wp2
  clear hq
  generalize (w1.alloc (.cells #[.int .i64 mo, .slice none 0 0, .int .i64 0] 29)) = w2 at *
  go_loopw [4, 7] (fun _ v7 wr => ∃ (k : Nat) (S : St), k ≤ n ∧ v7 = .int .i64 k ∧ Hid (Inv w p m q k S wr)) (fun _ v7 _ => n - (intOf v7).toNat)
  case atStart => exact ⟨0, _, Nat.zero_le _, rfl, I0.out⟩
  case round =>
    clear I0
    obtain ⟨k, S, hk, rfl, hI⟩ := hrel
    by_cases hlt : k < n
    · have hkl : k < xs.length := by rw [lx.out]; exact hlt
      have hf := List.getElem?_eq_getElem hkl
      obtain ⟨b, o, a', c', rfl, q0', q1', q2', q3', q4, q5, q6⟩ := hx'.out.actAt hf
      have q0 := keep_cell hI.out.b q0'
      have q1 := keep_cell hI.out.b q1'
      have q2 := keep_cell hI.out.b q2'
      have q3 := keep_cell hI.out.b q3'
      have hrl := Lib.hid (q4.toI.below hI.out.b (Nat.le_refl _))
      have hoff := Lib.hid (show 0 < xs[k].l.length → ∀ y, a' = some y → y.block < w.heap.size from fun h0 y hy => by
        obtain ⟨bb, oo, e, hlt, _⟩ := q4.toI.cells h0
        rw [hy] at e
        cases e
        exact hlt)
      clear q0' q1' q2' q3'
      have hok := Lib.hid q6
      clear hf q4 q5 q6
      generalize xs[k] = x at *
      obtain ⟨kd, l, ln, x⟩ := x
      dsimp only at *
      by_cases hl20 : 20 < l.length
      · have haw := Lib.hid (awake_any (wr.alloc (.cells #[.int .i64 kd, .slice a' l.length c', .bool ln, .int .i64 x] 32)))
        go_wp2_with fail
        refine haw.out.mono ?_; rintro e w' ⟨rfl, hb⟩
        have hb' := Lib.hid ((hI.out.lit _).b.trans (hb.mono (hI.out.lit _).b.size))
        clear hb
        go_wp2
        go_ret
        exact ⟨rfl, hb'.out⟩
      · have H8 := Lib.hid (heap_alloc_new wr (.cells #[.int .i64 kd, .slice a' l.length c', .bool ln, .int .i64 x] 32))
        have hI1 := Lib.hid (hI.out.lit (.cells #[.int .i64 kd, .slice a' l.length c', .bool ln, .int .i64 x] 32))
        have hrl1 := Lib.hid (hrl.out.below (keep_alloc (Below.refl wr.heap.size wr) (.cells #[.int .i64 kd, .slice a' l.length c', .bool ln, .int .i64 x] 32)) (Nat.le_refl _))
        have h8q : q < wr.heap.size := hI.out.rs.lt
        go_upto_block 2 with fail
        generalize h8 : wr.heap.size = p8 at *
        generalize (wr.alloc (.cells #[.int .i64 kd, .slice a' l.length c', .bool ln, .int .i64 x] 32)) = w8 at *
        clear h8 q0 q1 q2 q3 hrl hI
        have h0 : w8.cell? ⟨p8, 0, none⟩ = some (.int .i64 kd) := cell_p H8.out 0
        have h1 : w8.cell? ⟨p8, 1, none⟩ = some (.slice a' l.length c') := cell_p H8.out 1
        have h2 : w8.cell? ⟨p8, 2, none⟩ = some (.bool ln) := cell_p H8.out 2
        have h3 : w8.cell? ⟨p8, 3, none⟩ = some (.int .i64 x) := cell_p H8.out 3
        go_cut [7] from 42 to 179 (fun v7 wc => ∃ S', v7 = .int .i64 k ∧ wc.cell? ⟨p8, 3, none⟩ = some (.int .i64 x) ∧ Hid (Inv w p m q (k + 1) S' wc))
        case first =>
          have hpq := hI1.out.pq
          have hnp : ¬ Own2 p m p8 := fun h => by rcases h with h | h <;> omega
          have hnq : ¬ (fun k => k = q) p8 := fun h => by dsimp only at h; omega
          have hnx := hI1.out.ord.nx
          have hlen := hI1.out.ord.len
          by_cases k1 : kd = 1
          · subst k1
            go_wp2_with fail
            refine (add_any (q + 1) p m S a' l.length c' l ln w8 hI1.out.st hrl1.out (by omega) ⟨hnx.1, by omega⟩ hI1.out.ord.fresh (by omega)).mono ?_
            rintro e w9 ⟨rfl, st9', t9'⟩
            have st9 := Lib.hid st9'
            have t9 := Lib.hid t9'
            have rs9 := Lib.hid (hI1.out.mid st9' t9').1
            have g1 := cell_touch t9' h1 hnp
            have g2 := cell_touch t9' h2 hnp
            have g3 := cell_touch t9' h3 hnp
            have hrl9 := Lib.hid (hrl1.out.touch0 t9' (fun h0 y hy h => by have := hoff.out h0 y hy; have := hI1.out.p0; rcases h with h | h <;> omega))
            clear st9' t9' h0 h1 h2 h3
            go_wp2_with fail
            refine (add19_any q S a' l.length c' l ln w9 rs9.out hrl9.out (by omega) (by omega) ⟨hnx.1, by omega⟩).mono ?_
            rintro e w10 ⟨rfl, rs10', t10'⟩
            have I10 := Lib.hid (hI1.out.both (hI1.out.ord.add l ln) st9.out t9.out rs10' t10')
            have j3 := cell_touch t10' g3 hnq
            clear rs10' t10'
            go_wp2
            go_meet
            case rel => exact ⟨_, rfl, j3, I10.out⟩
          · by_cases k2 : kd = 2
            · subst k2
              go_upto_region 20 with fail
              have hId := Lib.hid (hI1.out.drewN 1)
              have hfo := Lib.hid (forget_any (q + 1) p m S x (w8.drewN 1) hId.out.st hok.out hI1.out.ord.nd)
              refine wp_region_tt (S := fun W => W.cell? ⟨p8, 3, none⟩ = some (.int .i64 x)) 8 (by kernel_rfl) (by kernel_rfl) h3 (fun hHeld => ?_)
              refine tt_take (i := 0) (v := _) (by rfl) (by decide +kernel) (by exact fun _ _ _ h => h) (Or.inl ⟨by rfl, by (intro W hSw; (try dsimp only at hSw); go_simp <;> with_reducible rfl)⟩) (by assumption) ?_
              (try simp only [Act.put, List.setIfInBounds_toArray, List.set_cons_zero, List.set_cons_succ])
              refine tt_take (i := 1) (v := _) (by rfl) (by decide +kernel) (by exact fun _ _ _ h => h) (Or.inl ⟨by rfl, by (intro W hSw; (try dsimp only at hSw); go_simp <;> with_reducible rfl)⟩) (by assumption) ?_
              (try simp only [Act.put, List.setIfInBounds_toArray, List.set_cons_zero, List.set_cons_succ])
              refine tt_take (i := 2) (v := _) (by rfl) (by decide +kernel) (by exact fun _ _ _ h => h) (Or.inl ⟨by rfl, by (intro W hSw; (try dsimp only at hSw); go_simp <;> with_reducible rfl)⟩) (by assumption) ?_
              (try simp only [Act.put, List.setIfInBounds_toArray, List.set_cons_zero, List.set_cons_succ])
              refine tt_take (i := 4) (v := _) (by rfl) (by decide +kernel) (by exact fun _ _ _ h => h) (Or.inl ⟨by rfl, by (intro W hSw; (try dsimp only at hSw); go_simp <;> with_reducible rfl)⟩) (by assumption) ?_
              (try simp only [Act.put, List.setIfInBounds_toArray, List.set_cons_zero, List.set_cons_succ])
              refine tt_take (i := 5) (v := _) (by rfl) (by decide +kernel) (by exact fun _ _ _ h => h) (Or.inl ⟨by rfl, by (intro W hSw; (try dsimp only at hSw); go_simp <;> with_reducible rfl)⟩) (by assumption) ?_
              (try simp only [Act.put, List.setIfInBounds_toArray, List.set_cons_zero, List.set_cons_succ])
              refine tt_take (i := 6) (v := _) (by rfl) (by decide +kernel) (by exact fun _ _ _ h => h) (Or.inl ⟨by rfl, by (intro W hSw; (try dsimp only at hSw); go_simp <;> with_reducible rfl)⟩) (by assumption) ?_
              (try simp only [Act.put, List.setIfInBounds_toArray, List.set_cons_zero, List.set_cons_succ])
              refine tt_ready (rs := [3]) (by decide +kernel) (allT_cons (by rfl) (fun K hK => ?_) allT_nil)
              go_simp
              go_at_call 8
              refine hfo.out.mono ?_
              rintro e w9 ⟨rfl, st9', t9'⟩
              have st9 := Lib.hid st9'
              have t9 := Lib.hid t9'
              have rs9 := Lib.hid (hId.out.mid st9' t9').1
              have g3 := cell_touch t9' h3 hnp
              clear st9' t9'
              dsimp only
              refine hK.out _ _ (by (exact g3)) (fun hHeld2 => ?_)
              clear hK K
              (try simp only [Act.put, List.setIfInBounds_toArray, List.set_cons_zero, List.set_cons_succ])
              refine tt_ready (rs := [7]) (by decide +kernel) (allT_cons (by rfl) (fun K hK => ?_) allT_nil)
              go_simp
              go_at_call 9
              refine (forget19_any q S x w9 rs9.out (by omega) hI1.out.ord.nd).mono ?_
              rintro e w10 ⟨rfl, rs10', t10'⟩
              have I10 := Lib.hid (hId.out.both (hI1.out.ord.forget x) st9.out t9.out rs10' t10')
              have j3 := cell_touch t10' g3 hnq
              clear rs10' t10'
              dsimp only
              refine hK.out _ _ (by (exact j3)) (fun hHeld3 => ?_)
              clear hK K
              (try simp only [Act.put, List.setIfInBounds_toArray, List.set_cons_zero, List.set_cons_succ])
              refine tt_tail (by decide +kernel) ?_
              simp only [List.drop_succ_cons, List.drop_zero]
              go_wp2
              go_meet
              case rel => exact ⟨_, rfl, j3, I10.out⟩
            · go_wp2
              go_meet
              case rel => exact ⟨S, rfl, h3, hI1.out.more⟩
        case rest =>
          clear h0 h1 h2 h3 hI1 hrl1 H8 hoff
          obtain ⟨S2, rfl, hc3, hI2⟩ := hcut
          have hlen := hI2.out.ord.len
          have hgt := Lib.hid (get_any (q + 1) p m S2 x wc hI2.out.st hok.out)
          go_wp2_with fail
          refine hgt.out.mono ?_
          rintro e w11 ⟨a11, n11, c11, rfl, r11, n11l, _, b11⟩
          have I11 := Lib.hid (hI2.out.below b11)
          have hc := keep_cell b11 hc3
          have R11 := Lib.hid r11
          clear b11 hgt hc3 r11 hI2
          go_wp2_with fail
          refine (find19_any q S2 x w11 I11.out.rs (by omega)).mono ?_; rintro e w' ⟨rfl, rfl⟩
          go_upto_region 24 with fail
          have hlrn := Lib.hid (fun z => learned_any (q + 1) p m S2 x (w11.drewN z) (I11.out.drewN z).st hok.out)
          go_cut [14, 15, 140] from 42 to 179 (fun _ _ v140 wc => ∃ z, v140 = .bool false ∧ wc = w11.drewN z)
          case first =>
            cases hf : findIt S2.items x with
            | none =>
              obtain ⟨e1, e2, e3⟩ := look_none hf
              rw [e3] at hlrn
              rw [e1, show (none : Option Item).isSome = false from rfl]
              have hvq := hlrn.out
              clear hf e1 e2 e3
              go_wp2
              go_quiet ((go_at_call 13; exact (hvq _).mono fun _ _ h => ⟨h.1, _, h.2.symm⟩))
              go_wp2
              go_meet
              case rel => exact ⟨_, rfl, rfl⟩
            | some it =>
              obtain ⟨j, e1, e2, e3, e4⟩ := look_some hf
              have hjl := (List.getElem?_eq_some_iff.1 e2).1
              rw [e4] at hlrn
              rw [e3] at R11
              rw [e1, show (some it).isSome = true from rfl]
              obtain ⟨aa, cc, hblk, _, _, ho⟩ := I11.out.rs.look
              have k1 : w11.cell? ⟨q, 1, none⟩ = some (.slice aa S2.items.length cc) := cell_p hblk 1
              obtain ⟨bb, oo, al, cl, rfl, _, m1, m2, m3, _⟩ := (ho.read (S' := fun _ => True) (fun _ _ _ => trivial) (fun _ _ => trivial)).itAt e2
              have hvq := hlrn.out
              have hint := Lib.hid (fun z => ints_any a11 al n11 it.l.length c11 cl it.l it.l (w11.drewN z) (R11.out.drewN z) (m3.toI.drewN z) (by omega))
              rw [sameI_self] at hint
              have hiq : ∀ z, Calls Try.prog 12 #[.slice a11 n11 c11, .slice al it.l.length cl] (w11.drewN z) fun e w' => e = .returned (.bool true) ∧ ∃ n, w' = w11.drewN n := fun z => (hint.out z).mono fun _ _ ⟨h1, m, hm⟩ => ⟨h1, z + m, by rw [hm, World.drewN_drewN]⟩
              have hj0 : (0 : Int) ≤ j := by omega
              have hji : (j : Int) < S2.items.length := by omega
              clear hf e1 e2 e3 e4 hblk ho m3 hint
              go_wp2
              go_quiet ((first
                | (go_at_call 13; exact (hvq _).mono fun _ _ h => ⟨h.1, _, h.2.symm⟩)
                | (go_at_call 12; exact (hiq _).mono fun _ _ h => ⟨h.1, h.2⟩)))
              go_wp2
              go_meet
              case rel => exact ⟨_, rfl, rfl⟩
          case rest =>
            obtain ⟨z, rfl, rfl⟩ := hcut
            have hpq := I11.out.pq
            have hql := I11.out.rs.lt
            have hall := Lib.hid (all_any (q + 1) p m S2 (w11.drewN z) (I11.out.drewN z).st (show m < w11.heap.size by omega) I11.out.ord.up (I11.out.ord.wf (by omega)) (by omega))
            clear hc R11 hlrn hql
            go_wp2_with fail
            refine hall.out.mono ?_
            rintro e w12 ⟨a12, c12, rfl, r12, b12⟩
            have I12 := Lib.hid ((I11.out.drewN z).below b12)
            have R12 := Lib.hid r12
            have hil : (S2.items.map (·.id)).length = S2.items.length := List.length_map ..
            rw [hil] at r12 R12 ⊢
            have R13 := Lib.hid r12
            clear b12 hall I11 r12 hil R12
            have hlq : ∀ z, Calls Try.prog 15 #[.pointer (some ⟨p, 0, none⟩)] (w12.drewN z) fun e w' => e = .returned (.int .i64 S2.items.length) ∧ w12.drewN z = w' := fun z => len_any (q + 1) p m S2 (w12.drewN z) (I12.out.drewN z).st
            obtain ⟨aa, cc, hblk, _, _, ho⟩ := I12.out.rs.look
            have k1 : w12.cell? ⟨q, 1, none⟩ = some (.slice aa S2.items.length cc) := cell_p hblk 1
            have hrd := Lib.hid (ho.read (S' := fun _ => True) (fun _ _ _ => trivial) (fun _ _ => trivial))
            clear hblk ho
            go_wp2
            go_quiet ((go_at_call 15; exact (hlq _).mono fun _ _ h => ⟨h.1, _, h.2.symm⟩))
            go_wp2
            go_loopw [4, 17] (fun _ v17 wr => ∃ j z : Nat, j ≤ S2.items.length ∧ v17 = .int .i64 j ∧ wr = w12.drewN z) (fun _ v17 _ => S2.items.length - (intOf v17).toNat)
            case atStart => exact ⟨0, _, Nat.zero_le _, rfl, rfl⟩
            case round =>
              obtain ⟨j, z, hj, rfl, rfl⟩ := hrel
              by_cases hjl : j < S2.items.length
              · have hf := List.getElem?_eq_getElem hjl
                obtain ⟨b5, o5, e5, h5⟩ := R13.out.at j hjl
                obtain ⟨b6, o6, _, _, e6, h6, _⟩ := hrd.out.itAt hf
                have h5' : nth (S2.items.map (·.id)) j = S2.items[j].id := by rw [nth_eq (by rw [List.length_map]; exact hjl), List.getElem_map]
                rw [h5'] at h5
                subst e5 e6
                have hj0 : (0 : Int) ≤ j := by omega
                have hji : (j : Int) < S2.items.length := by omega
                clear h5' hf
                generalize S2.items[j].id = y at *
                go_wp2
                go_quiet (fail)
                go_wp2
                go_roundw
                case rel => exact ⟨j + 1, _, by omega, by go_num, rfl⟩
                case measure => simp [intOf]; omega
              · go_wp2
                go_roundw
                case rel => exact ⟨k + 1, S2, by omega, by go_num, I12.out.drewN _⟩
                case measure => simp [intOf]; omega
    · have haw := Lib.hid (awake_any wr)
      go_wp2_with fail
      refine haw.out.mono ?_; rintro e w' ⟨rfl, hb⟩
      have hb' := Lib.hid (hI.out.b.trans (hb.mono hI.out.b.size))
      clear hb
      go_wp2
      go_ret
      exact ⟨rfl, hb'.out⟩
end Go.Proofs.Ytglbdkjdglcncaa
