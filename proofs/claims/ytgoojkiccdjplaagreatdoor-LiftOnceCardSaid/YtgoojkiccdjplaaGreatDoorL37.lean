/-
  Parts of this claim's texts, one behind the other: UL. No condition.
-/
import Derived.Test.YtgoojkiccdjplaaGreatDoorL36
set_option linter.unusedVariables false
set_option linter.unusedSimpArgs false
set_option maxRecDepth 100000
set_option maxHeartbeats 16000000
namespace Go.Proofs.YtgoojkiccdjplaaGreatDoor
open Go.RowKit Go.Sort Go.Lib
theorem own_lit1 (w:World) (x:Int):OwnC (w.alloc (.cells #[.int .i64 x] 3)) w.heap.size 3 1 (.slice (some ⟨w.heap.size,0,none⟩) 1 1) 1 [Value.int .i64 x]:=
 ⟨rfl,.inr ⟨w.heap.size,1,_,rfl,Nat.le_refl _,heap_alloc_new w _,Nat.le_refl _,by unfold maxLen;decide,Nat.le_refl _,rfl⟩⟩
theorem isChain_ok {op:Int} (h:isChain op):okI op∧op≠11:=by unfold isChain at h;unfold okI;omega
def restC (op:Int) (args:List Int) (j:Nat):List Int:=if op=9 then args.drop (j+1) else(args.drop (j+1)).take 1
theorem outerC_step {T:TermD} {op:Int} {args out:List Int} {j:Nat} (hj:j<args.length):outerC T op (args.drop j) out =
  if (innerC T op (nth args j) (restC op args j) out).1.2=0 then outerC (innerC T op (nth args j) (restC op args j) out).2 op (args.drop (j+1)) (innerC T op (nth args j) (restC op args j) out).1.1 else innerC T op (nth args j) (restC op args j) out:=by
 rw [List.drop_eq_getElem_cons hj,nth_eq hj];rfl
theorem restC_len (op:Int) (args:List Int) (j:Nat):(restC op args j).length=if op=9 then args.length - (j+1) else min 1 (args.length - (j+1)):=by
 unfold restC
 split
 ·rw [List.length_drop]
 ·rw [List.length_take,List.length_drop]
theorem restC_at {op:Int} {args:List Int} {j m:Nat} (h:m<(restC op args j).length):(restC op args j).drop m=nth args (j+1+m) :: (restC op args j).drop (m+1):=by
 rw [List.drop_eq_getElem_cons h]
 congr 1
 have hl:=restC_len op args j
 have:j+1+m<args.length:=by split at hl <;> omega
 rw [nth_eq this]
 unfold restC at h ⊢
 split
 ·rw [List.getElem_drop]
 ·rw [List.getElem_take,List.getElem_drop]
theorem chain_any {w0 : World} (hE : EnvT w0) (p : Nat) (X : Nat → Prop) (T : TermD) (k : Nat) (w : World) (h : St w0 p { T with X := X } w) (hG : TermG T) (hk : k < T.nodes.length) :
    Calls Tryz.prog 44 #[.pointer (some ⟨p, 0, none⟩), .int .i64 k] w fun e w' => ChoicePost w0 p X (chainD T k) w e w' := by
  have hE' := hid hE
  have hG' := hid hG
  have hnd := hid (node_any w0.heap.size p { T with X := X } k w h.t hk hG.ok.sn)
  have hN := hid (hG.at hk).args
  have hdef := @hid (chainD T k = if isChain (nodeAt T k).op then (if (nodeAt T k).args.length = 2 ∧ (nodeAt T k).op ≠ 9 then (([(k : Int)], 0), T) else outerC T (nodeAt T k).op (nodeAt T k).args []) else (([(k : Int)], 0), T)) rfl
  rw [show nodeAt { T with X := X } (k : Int) = nodeAt T k from rfl] at hnd
  have hpw := hid (show p < w.heap.size from h.t.plt)
  have hBw := hid (show w0.heap.size ≤ w.heap.size from h.b.size)
  have h' := hid h
  generalize nodeAt T (k : Int) = x at *
  obtain ⟨op, nm, ⟨ng, nu, de⟩, args, so⟩ := x
  dsimp only at hdef hN
  clear h hG hE
  go_enter Tryz.func44, Tryz.ntmps44
  go_wp2_with fail
  refine hnd.out.mono ?_; rintro e1 w9 ⟨a, c, b, d, g, e, rfl, n9, hb9⟩
  have I9 := h'.out.all hb9
  have hbA : Below w9.heap.size w9 (w9.alloc (.cells #[.int .i64 op, .string nm, .bool ng, .slice a nu.length c, .slice b de.length d, .slice g args.length e, .int .i64 so] 38)) := (Below.refl _ _).alloc (Nat.le_refl _) _
  have XA := heap_alloc_new w9 (.cells #[.int .i64 op, .string nm, .bool ng, .slice a nu.length c, .slice b de.length d, .slice g args.length e, .int .i64 so] 38)
  have IA := I9.more (Y := fun q => (X q ∨ q = w9.heap.size) ∨ rowB (.slice none 0 0) q) hbA (fun k hk => by
    rcases hk with (hk | rfl) | hk
    · exact .inl hk
    · exact .inr ⟨Nat.le_refl _, by simp⟩
    · cases hk)
  have SA := (TStep.of_below h'.out.t.plt hb9).thenBelow (hbA.mono hb9.size) (Nat.le_refl _) h'.out.t.plt
  have RA := (n9.args.mono fun q _ hd => ⟨hd.1, hd.1.lt⟩ : SlR Rep.int (fun q => DatB w9 q ∧ q < w9.heap.size) w9 g args.length args).belowZ hbA (Nat.le_refl _)
  have hwa := hid (show ∀ x ∈ args, okI x from n9.args.toI.wf)
  have hzA : w9.heap.size < (w9.alloc (.cells #[.int .i64 op, .string nm, .bool ng, .slice a nu.length c, .slice b de.length d, .slice g args.length e, .int .i64 so] 38)).heap.size := by simp
  have hz9 : w.heap.size ≤ w9.heap.size := hb9.size
  have hae : args.length ≤ e ∧ e ≤ maxLen := n9.ac
  have XA' := hid XA
  have IA' := hid IA
  have SA' := hid SA
  have RA' := hid RA
  clear n9 hb9 I9 hbA XA IA SA RA hnd
  go_upto_region 2 with fail
  generalize hwA : w9.alloc (.cells #[.int .i64 op, .string nm, .bool ng, .slice a nu.length c, .slice b de.length d, .slice g args.length e, .int .i64 so] 38) = wA at *
  generalize hwb : w9.heap.size = wb at *
  clear hwA hwb
  have q0 : wA.cell? ⟨wb, 0, none⟩ = some (.int .i64 op) := cell_p XA'.out 0
  have q5 : wA.cell? ⟨wb, 5, none⟩ = some (.slice g args.length e) := cell_p XA'.out 5
  have hlit : ∀ W : World, w.heap.size ≤ W.heap.size → St w0 p { T with X := fun q => (X q ∨ q = wb) ∨ rowB (.slice none 0 0) q } W → TStep p w W → ChoicePost w0 p X (([(k : Int)], 0), T) w (.returned (.tuple #[.slice (some ⟨W.heap.size, 0, none⟩) 1 1, .int .i64 0])) (W.alloc (.cells #[.int .i64 k] 3)) := fun W hW hI hS => by
    have hb : Below W.heap.size W (W.alloc (.cells #[.int .i64 k] 3)) := (Below.refl _ _).alloc (Nat.le_refl _) _
    exact ⟨_, 1, rfl, (own_lit1 W k).lower hW, (hI.fewer (fun k hk => .inl (.inl hk))).all hb, hS.trans (TStep.of_below hI.t.plt hb)⟩
  have hlit' := hid hlit
  clear hlit
  by_cases hch : isChain op
  case neg =>
    have hv := @hid (chainD T k = (([(k : Int)], 0), T)) (by rw [hdef.out, if_neg hch])
    have hch' := hch
    unfold isChain at hch'
    have d1 : decide (op = 8) = false := by simp; omega
    have d2 : decide (op = 17) = false := by simp; omega
    have d3 : decide (op = 18) = false := by simp; omega
    have d4 : decide (op = 19) = false := by simp; omega
    have d5 : decide (op = 20) = false := by simp; omega
    have d6 : decide (op = 9) = false := by simp; omega
    have e1 : ¬ op = 8 := by omega
    have e2 : ¬ op = 17 := by omega
    have e3 : ¬ op = 18 := by omega
    have e4 : ¬ op = 19 := by omega
    have e5 : ¬ op = 20 := by omega
    have e6 : ¬ op = 9 := by omega
    clear hch hch'
    go_wp2
    go_ret2
    rw [hv.out]
    exact hlit'.out wA (by omega) IA'.out SA'.out
  case pos =>
    have hco := isChain_ok hch
    rw [if_pos hch] at hdef
    have hch2 := hch
    unfold isChain at hch2
    by_cases h2 : args.length = 2 ∧ op ≠ 9
    · have hv := @hid (chainD T k = (([(k : Int)], 0), T)) (by rw [hdef.out, if_pos h2])
      have h2l := h2.1
      have h2i : (args.length : Int) = 2 := by omega
      have h29 := h2.2
      clear hdef h2 hch
      rcases hch2 with rfl | rfl | rfl | rfl | rfl | rfl
      all_goals
        first
          | exact absurd rfl h29
          | skip
      all_goals
        go_wp2
        go_ret2
        rw [hv.out]
        exact hlit'.out wA (by omega) IA'.out SA'.out
    · have hv := @hid (chainD T k = outerC T op args []) (by rw [hdef.out, if_neg h2])
      have h2i : op = 9 ∨ ¬ (args.length : Int) = 2 := by
        rcases Decidable.em (op = 9) with h9 | h9
        · exact .inl h9
        · exact .inr fun e => h2 ⟨by omega, h9⟩
      have hoo := hid hco.1
      have ho11 := hid hco.2
      obtain ⟨i0, hi0, hz0, hz1, hz2⟩ := info_parts info_int
      obtain ⟨o, ho⟩ : ∃ o : Int, op = o := ⟨op, rfl⟩
      rw [ho] at hoo ho11 hv
      rw [ho] at XA'
      have ho' := hid ho.symm
      clear hdef h2 hch hco hlit' q0 ho
      rcases hch2 with rfl | rfl | rfl | rfl | rfl | rfl
      all_goals
        cases h2e : decide ((args.length : Int) = 2)
      all_goals
        first
          | exact absurd (of_decide_eq_true h2e) (h2i.resolve_left (by decide))
          | skip
      all_goals
        first
          | (have h2d : ¬ (args.length : Int) = 2 := of_decide_eq_false h2e; have h2b : ((args.length : Int) == 2) = false := by simpa using h2d)
          | have h2b : ((args.length : Int) == 2) = true := by have := of_decide_eq_true h2e; simpa using this
      all_goals
        have q0 := cell_p XA'.out 0
        simp only [List.getElem?_toArray, List.getElem?_cons_zero] at q0
        rw [ho'.out] at q0
        clear h2i
        go_wp2
        go_loopw [4, 5, 8, 9, 10, 11, 12, 46] (fun v4 v5 _ _ _ _ _ v46 wr => ∃ (j : Nat) (T' : TermD) (out : List Int), j ≤ args.length ∧ v46 = .int .i64 j ∧ v5 = .int .i64 0 ∧ Hid (chainD T k = outerC T' o (args.drop j) out) ∧ out.length ≤ 64 * j ∧ Hid (St w0 p { T' with X := fun q => (X q ∨ q = wb) ∨ rowB v4 q } wr) ∧ Hid (TermG T') ∧ wA.heap.size ≤ wr.heap.size ∧ Hid (OwnC wr wA.heap.size 3 1 v4 out.length (out.map (Value.int .i64))) ∧ Hid (TStep p w wr) ∧ Hid (SlR Rep.int (fun q => DatB wr q ∧ q < wb) wr g args.length args) ∧ Hid (wr.heap[wb]? = some (.cells #[.int .i64 o, .string nm, .bool ng, .slice a nu.length c, .slice b de.length d, .slice g args.length e, .int .i64 so] 38 (0, 0)))) (fun _ _ _ _ _ _ _ v46 _ => args.length - (intOf v46).toNat)
        case atStart => exact ⟨0, T, [], Nat.zero_le _, rfl, rfl, hv.out, Nat.le_refl _, IA'.out, hG'.out, Nat.le_refl _, OwnC.nil _ _ _ _, SA'.out, RA'.out, XA'.out⟩
        case round =>
          obtain ⟨j, T0, out0, hj, rfl, rfl, hOC, hol, hI, hGT, hz, hO, hS, hR, hX⟩ := hrel
          obtain ⟨u, rfl⟩ : ∃ u, u = wr := ⟨_, rfl⟩
          obtain ⟨ao, co, rfl, hcc1, hcc2⟩ := hO.out.slice
          have hN64 := hN.out
          by_cases hlt : j < args.length
          · obtain ⟨b1, o1, rfl, k1⟩ := hR.out.toI.at j hlt
            have hoc := hOC.out
            rw [outerC_step hlt] at hoc
            have q5 : u.cell? ⟨wb, 5, none⟩ = some (.slice (some ⟨b1, o1, none⟩) args.length e) := cell_p hX.out 5
            have hrl := restC_len o args j
            have hrl2 : (restC o args j).length + j < args.length + 64 ∧ (restC o args j).length ≤ args.length := by split at hrl <;> omega
            have hji : (j : Int) < args.length := by omega
            have hoa := hid (hwa.out _ (nth_mem hlt))
            have hfit := hid (show ∀ m, j + 1 + m < args.length → (o = 9 ∨ m = 0) → m < (restC o args j).length from fun m h1 h2 => by split at hrl <;> omega)
            have hend := hid (show ∀ m, (¬ j + 1 + m < args.length ∨ (o ≠ 9 ∧ 1 ≤ m)) → (restC o args j).length ≤ m from fun m h1 => by split at hrl <;> omega)
            have hat := hid (fun (m : Nat) => @restC_at o args j m)
            clear hOC hrl
            have hOC := hid hoc
            clear hoc
            generalize restC o args j = L at *
            have ha := hid (nth_mem hlt)
            have hL64 := hrl2.2
            clear hrl2
            generalize nth args j = x at *
            go_wp2
            go_loopw [4, 5, 10, 11, 12] (fun v4 v5 v10 _ _ wr => ∃ (q m : Nat) (T' : TermD) (out : List Int), m ≤ L.length ∧ v10 = .int .i64 (q : Int) ∧ Hid (q = j + 1 + m) ∧ v5 = .int .i64 0 ∧ Hid (innerC T0 o x L out0 = innerC T' o x (L.drop m) out) ∧ out.length ≤ 64 * j + m ∧ Hid (St w0 p { T' with X := fun q => (X q ∨ q = wb) ∨ rowB v4 q } wr) ∧ Hid (TermG T') ∧ wA.heap.size ≤ wr.heap.size ∧ Hid (OwnC wr wA.heap.size 3 1 v4 out.length (out.map (Value.int .i64))) ∧ Hid (TStep p w wr) ∧ Hid (SlR Rep.int (fun q => DatB wr q ∧ q < wb) wr (some ⟨b1, o1, none⟩) args.length args) ∧ Hid (wr.heap[wb]? = some (.cells #[.int .i64 o, .string nm, .bool ng, .slice a nu.length c, .slice b de.length d, .slice (some ⟨b1, o1, none⟩) args.length e, .int .i64 so] 38 (0, 0)))) (fun _ _ v10 _ _ _ => args.length + 1 - (intOf v10).toNat)
            case atStart => exact ⟨j + 1, 0, T0, out0, Nat.zero_le _, by go_num, rfl, rfl, rfl, by omega, hI.out, hGT.out, hz, hO.out, hS.out, hR.out, hX.out⟩
            case round =>
              obtain ⟨q, m, Ti, outi, hm, rfl, hq, rfl, hIE, holi, hIi, hGi, hzi, hOi, hSi, hRi, hXi⟩ := hrel
              obtain ⟨ai, ci, rfl, hci1, hci2⟩ := hOi.out.slice
              have q0 := cell_p hXi.out 0
              simp only [List.getElem?_toArray, List.getElem?_cons_zero] at q0
              rw [ho'.out] at q0
              have q5 : wr.cell? ⟨wb, 5, none⟩ = some (.slice (some ⟨b1, o1, none⟩) args.length e) := cell_p hXi.out 5
              by_cases hin : m < L.length
              · have hq1 : q < args.length := by
                  have h1 := hq.out
                  rcases Nat.lt_or_ge q args.length with h | h
                  · exact h
                  · have := hend.out m (.inl (by omega)); omega
                have hqi : (q : Int) < args.length := by omega
                have hgt : o = 9 ∨ ¬ (j : Int) + 1 < q := by
                  have h1 := hq.out
                  rcases Decidable.em (o = 9) with h | h
                  · exact .inl h
                  · right
                    intro h2
                    have := hend.out m (.inr ⟨h, by omega⟩)
                    omega
                have hgo := hid hgt
                clear hgt
                first
                  | have hgt : ¬ (j : Int) + 1 < q := hgo.out.resolve_left (by rw [ho'.out]; decide)
                  | skip
                obtain ⟨b2, o2, hbo2, kb⟩ := hRi.out.toI.at q hq1
                injection hbo2 with hbo2
                injection hbo2 with h1 h2 h4
                subst h1 h2
                have hIC2 := @rfl _ (innerC Ti o x (L.drop m) outi)
                conv at hIC2 => rhs; rw [hat.out m hin, ← hq.out]; unfold innerC
                have hob := hid (hwa.out _ (nth_mem hq1))
                have hyn0 := @rfl _ (nth args q)
                generalize hyy : nth args q = y at hob kb hIC2
                have hyn := hid hyy
                clear hyn0 hyy
                have Id := hid (hIi.out.all (keep_drew wr))
                have Rd := hid (hRi.out.belowZ (keep_drew wr) (by omega))
                have Od := hid (hOi.out.same (w' := wr.drew) fun _ _ => rfl)
                have Sd := hid (hSi.out.trans (TStep.of_below hIi.out.t.plt (keep_drew wr)))
                have hpr := pair_any hE'.out Id.out hGi.out o x y hoo.out ho11.out hoa.out hob.out
                have hGp := hid (pair_grow hGi.out o x y).1
                generalize pairD Ti o x y = M at *
                obtain ⟨⟨xp, ep⟩, Tp⟩ := M
                dsimp only at hpr hGp hIC2
                rw [ho'.out] at hpr
                have hpr' := hid hpr
                have hIC2' := hid hIC2
                have hwzi : wb < wr.heap.size := (Array.getElem?_eq_some_iff.1 hXi.out).1
                clear hpr hIC2 hq1
                go_wp2
                have hS0 := hid (And.intro q0 (And.intro q5 kb))
                clear q0 q5 kb
                refine wp_region_tt (S := fun W => W.cell? ⟨wb, 0, none⟩ = _ ∧ W.cell? ⟨wb, 5, none⟩ = _ ∧ W.cell? ⟨b1, o1 + q, none⟩ = some (.int .i64 y)) 14 (by kernel_rfl) (by kernel_rfl) hS0.out (fun hHeld => ?_)
                refine tt_take (i := 0) (v := _) (by rfl) (by decide +kernel) (by exact fun _ _ _ h => h) (Or.inl ⟨by rfl, by (intro W hSw; (try dsimp only at hSw); go_simp <;> with_reducible rfl)⟩) (by assumption) ?_
                (try simp only [Act.put, sA, sB, sC])
                refine tt_take (i := 1) (v := _) (by rfl) (by decide +kernel) (by exact fun _ _ _ h => h) (Or.inl ⟨by rfl, by (intro W hSw; (try dsimp only at hSw); go_simp <;> with_reducible rfl)⟩) (by assumption) ?_
                (try simp only [Act.put, sA, sB, sC])
                refine tt_take (i := 2) (v := _) (by rfl) (by decide +kernel) (by exact fun _ _ _ h => h) (Or.inl ⟨by rfl, by (intro W hSw; have hq1 := hSw.1; go_simp <;> with_reducible rfl)⟩) (by assumption) ?_
                (try simp only [Act.put, sA, sB, sC])
                refine tt_take (i := 3) (v := _) (by rfl) (by decide +kernel) (by exact fun _ _ _ h => h) (Or.inl ⟨by rfl, by (intro W hSw; (try dsimp only at hSw); go_simp <;> with_reducible rfl)⟩) (by assumption) ?_
                (try simp only [Act.put, sA, sB, sC])
                refine tt_take (i := 4) (v := _) (by rfl) (by decide +kernel) (by exact fun _ _ _ h => h) (Or.inl ⟨by rfl, by (intro W hSw; (try dsimp only at hSw); go_simp <;> with_reducible rfl)⟩) (by assumption) ?_
                (try simp only [Act.put, sA, sB, sC])
                refine tt_take (i := 5) (v := _) (by rfl) (by decide +kernel) (by exact fun _ _ _ h => h) (Or.inl ⟨by rfl, by (intro W hSw; have hq1 := hSw.2.1; go_simp <;> with_reducible rfl)⟩) (by assumption) ?_
                (try simp only [Act.put, sA, sB, sC])
                refine tt_take (i := 6) (v := _) (by rfl) (by decide +kernel) (by exact fun _ _ _ h => h) (Or.inl ⟨by rfl, by (intro W hSw; (try dsimp only at hSw); go_simp <;> with_reducible rfl)⟩) (by assumption) ?_
                (try simp only [Act.put, sA, sB, sC])
                refine tt_take (i := 7) (v := _) (by rfl) (by decide +kernel) (by exact fun _ _ _ h => h) (Or.inl ⟨by rfl, by (intro W hSw; (try dsimp only at hSw); go_simp <;> with_reducible rfl)⟩) (by assumption) ?_
                (try simp only [Act.put, sA, sB, sC])
                refine tt_take (i := 8) (v := _) (by rfl) (by decide +kernel) (by exact fun _ _ _ h => h) (Or.inl ⟨by rfl, by (intro W hSw; have hq1 := hSw.2.2; go_simp <;> with_reducible rfl)⟩) (by assumption) ?_
                (try simp only [Act.put, sA, sB, sC])
                refine tt_ready (rs := [9]) (by decide +kernel) (allT_cons (by rfl) (fun K hK => ?_) allT_nil)
                go_simp
                go_at_call 100
                refine hpr'.out.mono ?_; rintro e1 w5 ⟨rfl, i5, s5⟩
                have I5 := hid i5
                have X5 := hid ((Id.out.own (.inl (.inr rfl)) s5).trans hXi.out)
                have R5 := hid (Rd.out.tstepZ Id.out.t s5)
                have O5 := hid (Od.out.same fun k hk => Id.out.own (.inr hk) s5)
                have S5 := hid (Sd.out.trans s5)
                have hz5 : wA.heap.size ≤ w5.heap.size := Nat.le_trans hzi s5.size
                clear i5 s5 hpr' Id Rd Od Sd hIi hRi hOi hSi hXi
                have K5 := hid (show w5.cell? ⟨b1, o1 + q, none⟩ = some (.int .i64 y) from by
                  obtain ⟨b2, o2, hbo2, kb⟩ := R5.out.toI.at q (by omega)
                  injection hbo2 with hbo2
                  injection hbo2 with h1 h2 h4
                  subst h1 h2
                  rw [hyn.out] at kb
                  exact kb)
                dsimp only
                refine hK.out _ _ (by (exact ⟨by have h9 := cell_p X5.out 0; simp only [List.getElem?_toArray, List.getElem?_cons_zero] at h9; rw [ho'.out] at h9; exact h9, cell_p X5.out 5, K5.out⟩)) (fun hHeld2 => ?_)
                clear hK K
                (try simp only [Act.put, sA, sB, sC])
                refine tt_take (i := 10) (v := _) (by rfl) (by decide +kernel) (by exact fun _ _ _ h => h) (Or.inl ⟨by rfl, by (intro W hSw; (try dsimp only at hSw); go_simp <;> with_reducible rfl)⟩) (by assumption) ?_
                (try simp only [Act.put, sA, sB, sC])
                refine tt_take (i := 11) (v := _) (by rfl) (by decide +kernel) (by exact fun _ _ _ h => h) (Or.inl ⟨by rfl, by (intro W hSw; (try dsimp only at hSw); go_simp <;> with_reducible rfl)⟩) (by assumption) ?_
                (try simp only [Act.put, sA, sB, sC])
                refine tt_take (i := 12) (v := _) (by rfl) (by decide +kernel) (by exact fun _ _ _ h => h) (Or.inl ⟨by rfl, by (intro W hSw; (try dsimp only at hSw); go_simp <;> with_reducible rfl)⟩) (by assumption) ?_
                (try simp only [Act.put, sA, sB, sC])
                refine tt_take (i := 13) (v := _) (by rfl) (by decide +kernel) (by exact fun _ _ _ h => h) (Or.inl ⟨by rfl, by (intro W hSw; (try dsimp only at hSw); go_simp <;> with_reducible rfl)⟩) (by assumption) ?_
                (try simp only [Act.put, sA, sB, sC])
                refine tt_tail (by decide +kernel) ?_
                simp only [List.drop_succ_cons, List.drop_zero]
                by_cases hep : ep = 0
                case neg =>
                  have hIC2 := hIC2'.out
                  rw [if_neg hep] at hIC2
                  have hfin := hOC.out
                  rw [hIE.out.trans hIC2, if_neg hep] at hfin
                  have hfin' := hid hfin
                  clear hfin
                  go_wp2
                  go_ret2
                  rw [hfin'.out]
                  exact ⟨none, 0, rfl, OwnC.nil _ _ _ _, I5.out.fewer (fun k hk => .inl (.inl hk)), S5.out⟩
                case pos =>
                  subst hep
                  have hIC2 := hIC2'.out
                  rw [if_pos rfl] at hIC2
                  have hIC3 := hid hIC2
                  have hwz5 : wb < w5.heap.size := (Array.getElem?_eq_some_iff.1 X5.out).1
                  clear hIC2
                  have hsrc := hid (Src.one (w := w5.alloc (.cells #[.int .i64 xp] 3)) (size := 1) (b := w5.heap.size) (news := [.int .i64 xp]) rfl (fun j u hu => by rw [World.cell?_alloc_new]; simpa using hu))
                  have hone := hid (show ∀ u ∈ [Value.int .i64 xp], u.oneCell' = true from fun u hu => by simp at hu; subst hu; rfl)
                  have hbl := hid (show wA.heap.size ≤ (w5.alloc (.cells #[.int .i64 xp] 3)).heap.size by simp; omega)
                  have ho5a := hid (O5.out.alloc (.cells #[.int .i64 xp] 3))
                  have hmx := hid (show outi.length + 1 ≤ maxLen by unfold maxLen; omega)
                  have hby := hid (show (outi.length + 1) * 8 ≤ 140737488355328 by omega)
                  go_wp2_with (at_builtin; refine wpList_append_C rfl (.tmp 85) (.tmp 87) rfl Tryz.underlying23 hi0 hz0 hz1 hz2 rfl (by decide) rfl rfl ho5a.out hsrc.out hone.out hmx.out hby.out hbl.out ?_)
                  intro v' w6 ho6 hg6 hl6
                  have hb6 : Below w5.heap.size w5 (w5.alloc (.cells #[.int .i64 xp] 3)) := (Below.refl _ _).alloc (Nat.le_refl _) _
                  have I5a := I5.out.all hb6
                  have I6 := hid (I5a.push hg6 (fun k hk => by have := (O5.out.lt k hk).1; have := hBw.out; omega) (hl6.imp (fun h => h) fun h k hk => by rw [World.size_alloc]; exact h k hk) (fun k hk => (ho6.lt k hk).2))
                  have hne : ∀ q, q < wA.heap.size → (Value.slice ai outi.length ci).ownBlock ≠ some q := fun q hq e => by have := (O5.out.lt q e).1; omega
                  have X6 := hid ((hg6.block wb (by simp; omega) (fun e => hne _ (by omega) e.symm)).trans ((hb6.block _ hwz5).trans X5.out))
                  have B6 : Below wA.heap.size w5 w6 := (hb6.mono hz5).trans ((Below.refl _ _).grown hg6 (by simp; omega) (fun k hk => (O5.out.lt k hk).1))
                  have R6 := hid (R5.out.belowZ B6 (by omega))
                  have S6 := hid (S5.out.thenBelow B6 (by omega) hpw.out)
                  have O6 := hid (show OwnC w6 wA.heap.size 3 1 v' (outi ++ [xp]).length ((outi ++ [xp]).map (Value.int .i64)) from by rw [List.length_append, List.length_singleton, List.map_append]; exact ho6)
                  have hz6 : wA.heap.size ≤ w6.heap.size := Nat.le_trans hz5 B6.size
                  clear hb6 I5a hne B6 ho6 hg6 hl6 I5 X5 R5 O5 S5
                  go_wp2
                  go_roundw
                  case rel => exact ⟨q + 1, m + 1, Tp, outi ++ [xp], by omega, by go_num, (by have := hq.out; show q + 1 = j + 1 + (m + 1); omega), rfl, hIE.out.trans hIC3.out, by simp; omega, I6.out, hGp.out, hz6, O6.out, S6.out, R6.out, X6.out⟩
                  case measure => simp [intOf]; omega
              · have hIC : innerC T0 o x L out0 = ((outi, 0), Ti) := by rw [hIE.out, List.drop_of_length_le (by omega)]; rfl
                have hfin := hOC.out
                rw [hIC, if_pos rfl] at hfin
                dsimp only at hfin
                have hfin' := hid hfin
                clear hIC hfin
                by_cases hqi : (q : Int) < args.length
                · have hgo := hid (show o ≠ 9 ∧ (j : Int) + 1 < q from by
                    have h1 := hq.out
                    have h2 : ¬ (o = 9 ∨ m = 0) := fun h => hin (hfit.out m (by omega) h)
                    exact ⟨fun h => h2 (.inl h), by have : m ≠ 0 := fun h => h2 (.inr h); omega⟩)
                  first
                    | exact absurd ho'.out hgo.out.1
                    | (have hgt : (j : Int) + 1 < q := hgo.out.2
                       go_wp2
                       go_roundw
                       case rel => exact ⟨j + 1, Ti, outi, by omega, by go_num, rfl, hfin'.out, by omega, hIi.out, hGi.out, hzi, hOi.out, hSi.out, hRi.out, hXi.out⟩
                       case measure => simp [intOf]; omega)
                · go_wp2
                  go_roundw
                  case rel => exact ⟨j + 1, Ti, outi, by omega, by go_num, rfl, hfin'.out, by omega, hIi.out, hGi.out, hzi, hOi.out, hSi.out, hRi.out, hXi.out⟩
                  case measure => simp [intOf]; omega
          · obtain rfl : j = args.length := by omega
            have hfin := hOC.out
            rw [List.drop_length] at hfin
            unfold outerC at hfin
            have hfin' := hid hfin
            have O7 := hid (hO.out.lower (base' := w.heap.size) (by omega))
            clear hfin
            go_wp2
            go_ret2
            rw [hfin'.out]
            exact ⟨ao, co, rfl, O7.out, hI.out.fewer (fun k hk => .inl (.inl hk)), hS.out⟩
end Go.Proofs.YtgoojkiccdjplaaGreatDoor
