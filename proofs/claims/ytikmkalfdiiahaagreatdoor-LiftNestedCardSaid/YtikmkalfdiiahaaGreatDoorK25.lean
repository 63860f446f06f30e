/-
  Parts of this claim's texts, one behind the other: UV. No condition.
-/
import Derived.Test.YtikmkalfdiiahaaGreatDoorK24
set_option linter.unusedVariables false
set_option linter.unusedSimpArgs false
/-
  theodolitelaw16.LiftNested: the walk: it returns true and writes nothing old. Condition: the library's tables as its text lays them.
-/
namespace Go.Proofs.YtikmkalfdiiahaaGreatDoor
open Go.RowKit Go.Sort Go.Lib

set_option maxRecDepth 100000 in
set_option maxHeartbeats 16000000 in
theorem liftNested_walk (n : Int) (tw : Bool) (w : World) (hE : EnvT w) : Calls Tryz.prog 3 #[.int .i64 n, .bool tw] w fun e w' => e = .returned (.bool true) ∧ Below w.heap.size w w' := by
  have hE' := Lib.hid hE
  have haw := Lib.hid (awake16_any w hE)
  clear hE
  by_cases g1 : n < 0
  · go_enter Tryz.func3, Tryz.ntmps3
    go_wp2_with fail
    refine haw.out.mono ?_; rintro e w' ⟨rfl, b⟩
    go_wp2
    go_ret
    exact ⟨rfl, b⟩
  by_cases g2 : 20 < n
  · go_enter Tryz.func3, Tryz.ntmps3
    go_wp2_with fail
    refine haw.out.mono ?_; rintro e w' ⟨rfl, b⟩
    go_wp2
    go_ret
    exact ⟨rfl, b⟩
  obtain ⟨m, rfl⟩ := Int.eq_ofNat_of_zero_le (by omega : 0 ≤ n)
  have hm : m ≤ 20 := by omega
  have hlaw := Lib.hid (law_of hm tw)
  have htb := Lib.hid (tables16_any w hE'.out.env)
  clear haw
  go_enter Tryz.func3, Tryz.ntmps3
  go_wp2_with fail
  refine htb.out.mono ?_; rintro e w1 ⟨p, r, rfl, t1, b1⟩
  have I1 := Lib.hid (show St w p { A0 with X := NoX } w1 from ⟨t1, b1⟩)
  have h1 := app_call hE'.out I1.out g_A0 sp (by decide)
  rw [mk_p] at h1
  have h1' := Lib.hid h1
  clear t1 b1 htb h1
  go_wp2_with fail
  refine h1'.out.mono ?_; rintro e w2 ⟨rfl, i2, _⟩
  have I2 := Lib.hid i2
  have h2 := app_call hE'.out I2.out g_P1 sx (by decide)
  rw [mk_x1] at h2
  have h2' := Lib.hid h2
  clear i2 h1' h2 I1
  go_wp2_with fail
  refine h2'.out.mono ?_; rintro e w3 ⟨rfl, i3, _⟩
  have I3 := Lib.hid i3
  have h3 := app_call hE'.out I3.out g_P2 sy (by decide)
  rw [mk_y2] at h3
  have h3' := Lib.hid h3
  clear i3 h2' h3 I2
  go_wp2_with fail
  refine h3'.out.mono ?_; rintro e w4 ⟨rfl, i4, _⟩
  have I4 := Lib.hid (show St w p { (nestN 0).2 with X := NoX } w4 from i4)
  clear i4 h3' I3
  go_wp2
  go_loopw [13, 14, 15] (fun v13 v14 v15 wr => ∃ k : Nat, k ≤ m ∧ v13 = .int .i64 (nestN k).1 ∧ v14 = .int .i64 0 ∧ v15 = .int .i64 k ∧ Hid (St w p { (nestN k).2 with X := NoX } wr)) (fun _ _ v15 _ => m - (intOf v15).toNat)
  case atStart => exact ⟨0, Nat.zero_le _, rfl, rfl, rfl, I4.out⟩
  case round =>
    obtain ⟨k, hk, rfl, rfl, rfl, hI⟩ := hrel
    by_cases hlt : k < m
    · have hki : (k : Int) < m := by omega
      have h4 := mk3_call hE'.out hI.out (nest_g k).1 10 0 (nestN k).1 2 (okI_n (by decide)) (by decide) (okI_n (by decide)) (nest_g k).2 (okI_n (by decide))
      rw [nest_e (show k < 20 by omega)] at h4
      have h4' := Lib.hid h4
      clear h4
      generalize (nestN k).1 = x at *
      go_wp2_with fail
      refine h4'.out.mono ?_; rintro e w5 ⟨rfl, i5, _⟩
      have I5 := Lib.hid i5
      clear i5 h4' hI
      go_wp2
      go_roundw
      case rel => exact ⟨k + 1, by omega, rfl, rfl, by go_num, I5.out⟩
      case measure => simp [intOf]; omega
    · obtain rfl : k = m := by omega
      have h5 := mk2_call hE'.out hI.out (nest_g k).1 18 (nestN k).1 2 (okI_n (by decide)) (by decide) (nest_g k).2 (okI_n (by decide))
      rw [nestQ_e hm] at h5
      have h5' := Lib.hid h5
      have GQ := Lib.hid (show TermG (nestQ k).2 from mk2_grow (nest_g k).1 18 _ 2)
      have FQ := Lib.hid (show (nestQ k).2.fresh ≤ 1000000000 from by
        have := ((nest_g k).1.make 18 (nm := ⟨#[]⟩) (val := noRat) [(nestN k).1, 2] (by decide) (by decide) (by decide)).fr
        rw [nest_fresh] at this
        show (mk2 (nestN k).2 18 (nestN k).1 2).2.fresh ≤ _
        unfold mk2
        omega)
      have hq := Lib.hid (show okI (nestQ k).1.1 from mk2_bd (nest_g k).1 18 (nestN k).1 2)
      have hA := @Lib.hid (nestA k tw = allLift (nestQ k).2 (idsQ (nestQ k).1.1 tw)) rfl
      clear h5
      generalize nestQ k = Q at *
      generalize (nestN k).1 = x at *
      obtain ⟨⟨qi, qe⟩, TQ⟩ := Q
      dsimp only at h5' GQ FQ hq hA hlaw
      go_wp2_with fail
      refine h5'.out.mono ?_; rintro e w6 ⟨rfl, i6, _⟩
      have I6 := Lib.hid i6
      have hokq : ∀ x ∈ [qi], okI x := fun x hx => by simp at hx; subst hx; exact hq.out
      have hokq2 : ∀ x ∈ [qi, qi], okI x := fun x hx => by simp at hx; subst hx; exact hq.out
      obtain ⟨i0, hi0, hz0, hz1, hz2⟩ := info_parts info_int
      obtain ⟨lw1, lw2, lw3, lw4, lw5, lw6, lw7⟩ := hlaw.out
      clear i6 h5' hI hlaw lw1
      cases tw
      case false =>
        have hall := liftAll_any hE'.out p NoX TQ (some ⟨w6.heap.size, 0, none⟩) 1 1 [qi] (w6.alloc (.cells #[.int .i64 qi] 3)) (I6.out.lit _) GQ.out FQ.out (RdI.lit [qi] 3 w6 hokq) (lit_free I6.out _) (by decide)
        rw [show [qi] = idsQ qi false from rfl, ← hA.out] at hall
        unfold AllPost at hall
        replace lw3 : (nestA k false).1.1.length = 1 := lw3
        rw [lw2, lw3, lw4] at hall
        have hall' := Lib.hid hall
        have L3 := Lib.hid lw3
        have L4 := Lib.hid lw4
        have L5 := Lib.hid lw5
        have L6 := Lib.hid lw6
        have L7 := Lib.hid lw7
        clear hall lw2 lw3 lw4 lw5 lw6 lw7 hA
        generalize nestA k false = R at *
        obtain ⟨⟨out, more, er⟩, TA⟩ := R
        dsimp only at hall' L3 L4 L5 L6 L7
        go_wp2_with fail
        refine hall'.out.mono ?_; rintro e wA ⟨a1, c1, a2, c2, rfl, o1, o2, ok1, iA, _, gA⟩
        have IA := Lib.hid (show St w p { TA with X := NoX } wA from iA)
        have GA := Lib.hid (show TermG TA from gA.g)
        obtain ⟨gB, cap1, hv1, _, _⟩ := o1.form (by decide)
        injection hv1 with hv1 hv1a hv1b
        subst hv1 hv1b
        have O1 := Lib.hid o1
        have O2 := Lib.hid o2
        have hol := Lib.hid (show ∀ j, j < 1 → (out.map (Value.int .i64))[j]? = some (.int .i64 (nth out j)) from fun j hj => by
          have hjl : j < out.length := by have := L3.out; show j < out.length; rw [this]; exact hj
          rw [List.getElem?_map, List.getElem?_eq_getElem hjl, nth_eq hjl]; rfl)
        have q0 : wA.cell? ⟨gB, 0, none⟩ = some (.int .i64 (nth out 0)) := o1.cells rfl 0 _ (hol.out 0 (by decide))
        clear o1 o2 ok1 iA gA hall'
        cases hd0 : decide ((k : Int) = 0)
        all_goals
          first
            | (have hkn : ¬ (k : Int) = 0 := of_decide_eq_false hd0; have hkb : ((k : Int) == 0) = false := by simpa using hkn)
            | (have hkb : ((k : Int) == 0) = true := by have := of_decide_eq_true hd0; simpa using this
               rw [L5.out (by have := of_decide_eq_true hd0; omega)] at q0)
        all_goals
          go_wp2
          go_loopw [22, 23, 24, 25, 26, 27] (fun v22 v23 _ _ _ _ wr => ∃ i : Nat, i ≤ k ∧ v23 = .int .i64 i ∧ v22 = .int .i64 (lastN TA more i) ∧ Hid (Below wA.heap.size wA wr)) (fun _ v23 _ _ _ _ _ => k - (intOf v23).toNat)
          case atStart => exact ⟨0, Nat.zero_le _, rfl, rfl, Below.refl _ _⟩
          case round =>
            obtain ⟨i, hi, rfl, rfl, hB⟩ := hrel
            have I := IA.out.all hB.out
            by_cases hlt : i < k
            · obtain ⟨kU, kV, nmU, nmV, ⟨ngU, nuU, deU⟩, ⟨ngV, nuV, deV⟩, soU, soV, e1, l1, n1, l2, n2⟩ := step_of (L6.out i hlt)
              obtain ⟨g2, cap2, hv2, _, _⟩ := O2.out.form (by omega)
              injection hv2 with hv2 hv2a hv2b
              subst hv2 hv2b
              have km : wr.cell? ⟨g2, 2 * i, none⟩ = some (.int .i64 kU) := (O2.out.same fun j hj => hB.out.block j (O2.out.lt j hj).2).cells rfl (2 * i) _ (by
                have hjl : 2 * i < more.length := by have := L4.out; show 2 * i < more.length; omega
                rw [List.getElem?_map, List.getElem?_eq_getElem hjl, ← nth_eq hjl, e1]; rfl)
              have hki : (i : Int) < k := by omega
              have hki2 : (2 : Int) * i < 2 * k := by omega
              have hnU := node_any w.heap.size p { TA with X := NoX } kU wr I.t l1 GA.out.ok.sn
              rw [show nodeAt { TA with X := NoX } (kU : Int) = nodeAt TA kU from rfl, n1] at hnU
              have hnU' := Lib.hid hnU
              have N2 := Lib.hid n2
              have I' := Lib.hid I
              clear hnU n1 n2 e1 I
              generalize hz : lastN TA more (i + 1) = z at *
              have hz' := Lib.hid hz
              clear hz
              generalize lastN TA more i = y at *
              go_wp2_with fail
              refine hnU'.out.mono ?_; rintro e w5 ⟨aU, cU, bU, dU, gU, eU, rfl, nU, hbU⟩
              have hbb : Below w5.heap.size w5 (w5.alloc (.cells #[.int .i64 6, .string nmU, .bool ngU, .slice aU nuU.length cU, .slice bU deU.length dU, .slice gU 2 eU, .int .i64 soU] 37)) := (Below.refl _ _).alloc (Nat.le_refl _) _
              have RU := nU.args.toI.below hbb (Nat.le_refl _)
              have I5 := (I'.out.all hbU).all hbb
              have hnV := node_any w.heap.size p { TA with X := NoX } kV _ I5.t l2 GA.out.ok.sn
              rw [show nodeAt { TA with X := NoX } (kV : Int) = nodeAt TA kV from rfl, N2.out] at hnV
              have hnV' := Lib.hid hnV
              obtain ⟨bb, oo, rfl, k0⟩ := RU.at 0 (show 0 < 2 by decide)
              obtain ⟨bb', oo', hbo, k1⟩ := RU.at 1 (show 1 < 2 by decide)
              injection hbo with hbo
              injection hbo with h1 h2 h3
              subst h1 h2
              have XU := heap_alloc_new w5 (.cells #[.int .i64 6, .string nmU, .bool ngU, .slice aU nuU.length cU, .slice bU deU.length dU, .slice (some ⟨bb, oo, none⟩) 2 eU, .int .i64 soU] 37)
              have B5 := Lib.hid (hB.out.trans ((hbU.trans (hbb.mono hbU.size)).mono hB.out.size))
              generalize hw6 : w5.alloc (.cells #[.int .i64 6, .string nmU, .bool ngU, .slice aU nuU.length cU, .slice bU deU.length dU, .slice (some ⟨bb, oo, none⟩) 2 eU, .int .i64 soU] 37) = w6x at *
              have r0 := cell_p XU 0
              have r5 := cell_p XU 5
              simp only [List.getElem?_toArray, List.getElem?_cons_succ, List.getElem?_cons_zero] at r0 r5
              rw [Nat.add_zero] at k0
              replace k0 : w6x.cell? ⟨bb, oo, none⟩ = some (.int .i64 0) := k0
              replace k1 : w6x.cell? ⟨bb, oo + 1, none⟩ = some (.int .i64 kV) := k1
              clear hnV hbb RU I5 nU hbU hnU' km
              go_wp2_with fail
              refine hnV'.out.mono ?_; rintro e w7x ⟨aV, cV, bV, dV, gV, eV, rfl, nV, hbV⟩
              have hbb : Below w7x.heap.size w7x (w7x.alloc (.cells #[.int .i64 8, .string nmV, .bool ngV, .slice aV nuV.length cV, .slice bV deV.length dV, .slice gV 2 eV, .int .i64 soV] 37)) := (Below.refl _ _).alloc (Nat.le_refl _) _
              have RV := nV.args.toI.below hbb (Nat.le_refl _)
              obtain ⟨bb2, oo2, rfl, k2⟩ := RV.at 0 (show 0 < 2 by decide)
              obtain ⟨bb2', oo2', hbo, k3⟩ := RV.at 1 (show 1 < 2 by decide)
              injection hbo with hbo
              injection hbo with h1 h2 h3
              subst h1 h2
              have XV := heap_alloc_new w7x (.cells #[.int .i64 8, .string nmV, .bool ngV, .slice aV nuV.length cV, .slice bV deV.length dV, .slice (some ⟨bb2, oo2, none⟩) 2 eV, .int .i64 soV] 37)
              have B8 := Lib.hid (B5.out.trans ((hbV.trans (hbb.mono hbV.size)).mono B5.out.size))
              generalize hw8 : w7x.alloc (.cells #[.int .i64 8, .string nmV, .bool ngV, .slice aV nuV.length cV, .slice bV deV.length dV, .slice (some ⟨bb2, oo2, none⟩) 2 eV, .int .i64 soV] 37) = w8x at *
              have u0 := cell_p XV 0
              have u5 := cell_p XV 5
              simp only [List.getElem?_toArray, List.getElem?_cons_succ, List.getElem?_cons_zero] at u0 u5
              rw [Nat.add_zero] at k2
              replace k2 : w8x.cell? ⟨bb2, oo2, none⟩ = some (.int .i64 z) := k2
              replace k3 : w8x.cell? ⟨bb2, oo2 + 1, none⟩ = some (.int .i64 y) := k3
              clear hbb RV nV hbV hnV' k0 k1 r0 r5 hw6 XU
              go_wp2
              go_roundw
              case rel => exact ⟨i + 1, by omega, by go_num, by rw [hz'.out], B8.out⟩
              case measure => simp [intOf]; omega
            · obtain rfl : i = k := by omega
              obtain ⟨kO, nmO, ⟨ngO, nuO, deO⟩, soO, e1, l1, n1⟩ := L7.out
              have qL : wr.cell? ⟨gB, 0, none⟩ = some (.int .i64 kO) := by
                have := (O1.out.same fun j hj => hB.out.block j (O1.out.lt j hj).2).cells rfl 0 _ (hol.out 0 (by decide))
                rw [this]
                exact congrArg (fun x => some (Value.int .i64 x)) e1
              have hnO := node_any w.heap.size p { TA with X := NoX } kO wr I.t l1 GA.out.ok.sn
              rw [show nodeAt { TA with X := NoX } (kO : Int) = nodeAt TA kO from rfl, n1] at hnO
              have hnO' := Lib.hid hnO
              clear hnO n1 e1 I
              generalize lastN TA more i = y at *
              go_wp2_with fail
              refine hnO'.out.mono ?_; rintro e w5 ⟨aU, cU, bU, dU, gU, eU, rfl, nU, hbU⟩
              have hbb : Below w5.heap.size w5 (w5.alloc (.cells #[.int .i64 18, .string nmO, .bool ngO, .slice aU nuO.length cU, .slice bU deO.length dU, .slice gU 2 eU, .int .i64 soO] 37)) := (Below.refl _ _).alloc (Nat.le_refl _) _
              have RO := nU.args.toI.below hbb (Nat.le_refl _)
              have XO := heap_alloc_new w5 (.cells #[.int .i64 18, .string nmO, .bool ngO, .slice aU nuO.length cU, .slice bU deO.length dU, .slice gU 2 eU, .int .i64 soO] 37)
              have B6 := Lib.hid (IA.out.b.trans ((hB.out.trans ((hbU.trans (hbb.mono hbU.size)).mono hB.out.size)).mono IA.out.b.size))
              generalize hw6 : w5.alloc (.cells #[.int .i64 18, .string nmO, .bool ngO, .slice aU nuO.length cU, .slice bU deO.length dU, .slice gU 2 eU, .int .i64 soO] 37) = w6x at *
              have r0 := cell_p XO 0
              have r5 := cell_p XO 5
              simp only [List.getElem?_toArray, List.getElem?_cons_succ, List.getElem?_cons_zero] at r0 r5
              replace RO : RdI w6x gU 2 [y, 2] := RO
              have hok : ∀ x ∈ [y, 2], okI x := RO.wf
              have hbl : Below w6x.heap.size w6x (w6x.alloc (.cells #[.int .i64 y, .int .i64 2] 3)) := (Below.refl _ _).alloc (Nat.le_refl _) _
              have hii := Lib.hid (ints_any gU (some ⟨w6x.heap.size, 0, none⟩) 2 2 eU 2 [y, 2] [y, 2] _ (RO.below hbl (Nat.le_refl _)) (RdI.lit [y, 2] 3 w6x hok) (by decide))
              rw [show sameI [y, 2] [y, 2] = true from by simp [sameI]] at hii
              have B7 := Lib.hid (B6.out.trans (hbl.mono B6.out.size))
              clear hbb RO XO nU hbU hnO' qL hok hbl
              go_wp2_with fail
              refine hii.out.mono ?_; rintro e w8 ⟨rfl, qq, hw8⟩
              have B8 := Lib.hid (show Below w.heap.size w w8 from by rw [hw8]; exact B7.out.drewN qq)
              have haw := Lib.hid (awake16_any w8 (hE'.out.all B8.out))
              clear hw8 hii hw6 r0 r5
              go_wp2_with fail
              refine haw.out.mono ?_; rintro e w9 ⟨rfl, b9⟩
              go_wp2
              go_ret
              exact ⟨rfl, B8.out.trans (b9.mono B8.out.size)⟩
      case true =>
        have ho := (own_lit1 w6 qi).alloc (.cells #[.int .i64 qi] 3)
        go_wp2_with (at_builtin; refine wpList_append_C rfl (.tmp 112) (.tmp 114) rfl Tryz.underlying33 hi0 hz0 hz1 hz2 rfl (by decide) rfl rfl ho (Src.one (b := w6.heap.size + 1) (news := [.int .i64 qi]) rfl ?d1) ?d2 ?d3 ?d4 ?d5 ?_)
        case d1 => intro j u hu; have := World.cell?_alloc_new (w6.alloc (.cells #[.int .i64 qi] 3)) #[.int .i64 qi] 3 j; rw [World.size_alloc] at this; rw [this]; simpa using hu
        case d2 => first | rfl | (intro u hu; simp at hu; subst hu; rfl)
        case d3 => unfold maxLen; omega
        case d4 => omega
        case d5 => simp; omega
        intro v' w7 ho7 hg7 _
        obtain ⟨a7, c7, rfl, hc7⟩ := ho7.slice
        have B7 : Below w6.heap.size w6 w7 := (((Below.refl w6.heap.size w6).alloc (Nat.le_refl _) (.cells #[.int .i64 qi] 3)).alloc (by simp) (.cells #[.int .i64 qi] 3)).grown hg7 (by simp; omega) (fun j hj => (ho.lt j hj).1)
        have I7 := I6.out.all B7
        have hfr7 : 0 < 2 → ∀ x, a7 = some x → x.block < w7.heap.size ∧ ¬ ownT p w7 x.block := fun _ x e => by
          obtain ⟨g, cap, hv, h1, h2⟩ := ho7.form (by decide)
          injection hv with hv _ _
          rw [hv] at e
          injection e with e
          subst e
          refine ⟨h2, fun o => ?_⟩
          obtain ⟨q, u1, u2, mm, ha⟩ := I6.out.t
          have : g < w6.heap.size := (ha.ownB ((ownT.same (B7.block p I6.out.t.plt)).1 o)).2
          omega
        have hall := liftAll_any hE'.out p NoX TQ a7 2 c7 [qi, qi] w7 I7 GQ.out FQ.out (OwnC.rdX (n := 2) (xs := [qi, qi]) ho7 hokq2) hfr7 (by decide)
        rw [show [qi, qi] = idsQ qi true from rfl, ← hA.out] at hall
        unfold AllPost at hall
        replace lw3 : (nestA k true).1.1.length = 2 := lw3
        rw [lw2, lw3, lw4] at hall
        have hall' := Lib.hid hall
        have L3 := Lib.hid lw3
        have L4 := Lib.hid lw4
        have L5 := Lib.hid lw5
        have L6 := Lib.hid lw6
        have L7 := Lib.hid lw7
        clear hall lw2 lw3 lw4 lw5 lw6 lw7 hA ho7 hg7 B7 I7 hfr7 ho
        generalize nestA k true = R at *
        obtain ⟨⟨out, more, er⟩, TA⟩ := R
        dsimp only at hall' L3 L4 L5 L6 L7
        go_wp2_with fail
        refine hall'.out.mono ?_; rintro e wA ⟨a1, c1, a2, c2, rfl, o1, o2, ok1, iA, _, gA⟩
        have IA := Lib.hid (show St w p { TA with X := NoX } wA from iA)
        have GA := Lib.hid (show TermG TA from gA.g)
        obtain ⟨gB, cap1, hv1, _, _⟩ := o1.form (by decide)
        injection hv1 with hv1 hv1a hv1b
        subst hv1 hv1b
        have O1 := Lib.hid o1
        have O2 := Lib.hid o2
        have hol := Lib.hid (show ∀ j, j < 2 → (out.map (Value.int .i64))[j]? = some (.int .i64 (nth out j)) from fun j hj => by
          have hjl : j < out.length := by have := L3.out; show j < out.length; rw [this]; exact hj
          rw [List.getElem?_map, List.getElem?_eq_getElem hjl, nth_eq hjl]; rfl)
        have q0 : wA.cell? ⟨gB, 0, none⟩ = some (.int .i64 (nth out 0)) := o1.cells rfl 0 _ (hol.out 0 (by decide))
        clear o1 o2 ok1 iA gA hall'
        cases hd0 : decide ((k : Int) = 0)
        all_goals
          first
            | (have hkn : ¬ (k : Int) = 0 := of_decide_eq_false hd0; have hkb : ((k : Int) == 0) = false := by simpa using hkn)
            | (have hkb : ((k : Int) == 0) = true := by have := of_decide_eq_true hd0; simpa using this
               rw [L5.out (by have := of_decide_eq_true hd0; omega)] at q0)
        all_goals
          go_wp2
          go_loopw [22, 23, 24, 25, 26, 27] (fun v22 v23 _ _ _ _ wr => ∃ i : Nat, i ≤ k ∧ v23 = .int .i64 i ∧ v22 = .int .i64 (lastN TA more i) ∧ Hid (Below wA.heap.size wA wr)) (fun _ v23 _ _ _ _ _ => k - (intOf v23).toNat)
          case atStart => exact ⟨0, Nat.zero_le _, rfl, rfl, Below.refl _ _⟩
          case round =>
            obtain ⟨i, hi, rfl, rfl, hB⟩ := hrel
            have I := IA.out.all hB.out
            by_cases hlt : i < k
            · obtain ⟨kU, kV, nmU, nmV, ⟨ngU, nuU, deU⟩, ⟨ngV, nuV, deV⟩, soU, soV, e1, l1, n1, l2, n2⟩ := step_of (L6.out i hlt)
              obtain ⟨g2, cap2, hv2, _, _⟩ := O2.out.form (by omega)
              injection hv2 with hv2 hv2a hv2b
              subst hv2 hv2b
              have km : wr.cell? ⟨g2, 2 * i, none⟩ = some (.int .i64 kU) := (O2.out.same fun j hj => hB.out.block j (O2.out.lt j hj).2).cells rfl (2 * i) _ (by
                have hjl : 2 * i < more.length := by have := L4.out; show 2 * i < more.length; omega
                rw [List.getElem?_map, List.getElem?_eq_getElem hjl, ← nth_eq hjl, e1]; rfl)
              have hki : (i : Int) < k := by omega
              have hki2 : (2 : Int) * i < 2 * k := by omega
              have hnU := node_any w.heap.size p { TA with X := NoX } kU wr I.t l1 GA.out.ok.sn
              rw [show nodeAt { TA with X := NoX } (kU : Int) = nodeAt TA kU from rfl, n1] at hnU
              have hnU' := Lib.hid hnU
              have N2 := Lib.hid n2
              have I' := Lib.hid I
              clear hnU n1 n2 e1 I
              generalize hz : lastN TA more (i + 1) = z at *
              have hz' := Lib.hid hz
              clear hz
              generalize lastN TA more i = y at *
              go_wp2_with fail
              refine hnU'.out.mono ?_; rintro e w5 ⟨aU, cU, bU, dU, gU, eU, rfl, nU, hbU⟩
              have hbb : Below w5.heap.size w5 (w5.alloc (.cells #[.int .i64 6, .string nmU, .bool ngU, .slice aU nuU.length cU, .slice bU deU.length dU, .slice gU 2 eU, .int .i64 soU] 37)) := (Below.refl _ _).alloc (Nat.le_refl _) _
              have RU := nU.args.toI.below hbb (Nat.le_refl _)
              have I5 := (I'.out.all hbU).all hbb
              have hnV := node_any w.heap.size p { TA with X := NoX } kV _ I5.t l2 GA.out.ok.sn
              rw [show nodeAt { TA with X := NoX } (kV : Int) = nodeAt TA kV from rfl, N2.out] at hnV
              have hnV' := Lib.hid hnV
              obtain ⟨bb, oo, rfl, k0⟩ := RU.at 0 (show 0 < 2 by decide)
              obtain ⟨bb', oo', hbo, k1⟩ := RU.at 1 (show 1 < 2 by decide)
              injection hbo with hbo
              injection hbo with h1 h2 h3
              subst h1 h2
              have XU := heap_alloc_new w5 (.cells #[.int .i64 6, .string nmU, .bool ngU, .slice aU nuU.length cU, .slice bU deU.length dU, .slice (some ⟨bb, oo, none⟩) 2 eU, .int .i64 soU] 37)
              have B5 := Lib.hid (hB.out.trans ((hbU.trans (hbb.mono hbU.size)).mono hB.out.size))
              generalize hw6 : w5.alloc (.cells #[.int .i64 6, .string nmU, .bool ngU, .slice aU nuU.length cU, .slice bU deU.length dU, .slice (some ⟨bb, oo, none⟩) 2 eU, .int .i64 soU] 37) = w6x at *
              have r0 := cell_p XU 0
              have r5 := cell_p XU 5
              simp only [List.getElem?_toArray, List.getElem?_cons_succ, List.getElem?_cons_zero] at r0 r5
              rw [Nat.add_zero] at k0
              replace k0 : w6x.cell? ⟨bb, oo, none⟩ = some (.int .i64 0) := k0
              replace k1 : w6x.cell? ⟨bb, oo + 1, none⟩ = some (.int .i64 kV) := k1
              clear hnV hbb RU I5 nU hbU hnU' km
              go_wp2_with fail
              refine hnV'.out.mono ?_; rintro e w7x ⟨aV, cV, bV, dV, gV, eV, rfl, nV, hbV⟩
              have hbb : Below w7x.heap.size w7x (w7x.alloc (.cells #[.int .i64 8, .string nmV, .bool ngV, .slice aV nuV.length cV, .slice bV deV.length dV, .slice gV 2 eV, .int .i64 soV] 37)) := (Below.refl _ _).alloc (Nat.le_refl _) _
              have RV := nV.args.toI.below hbb (Nat.le_refl _)
              obtain ⟨bb2, oo2, rfl, k2⟩ := RV.at 0 (show 0 < 2 by decide)
              obtain ⟨bb2', oo2', hbo, k3⟩ := RV.at 1 (show 1 < 2 by decide)
              injection hbo with hbo
              injection hbo with h1 h2 h3
              subst h1 h2
              have XV := heap_alloc_new w7x (.cells #[.int .i64 8, .string nmV, .bool ngV, .slice aV nuV.length cV, .slice bV deV.length dV, .slice (some ⟨bb2, oo2, none⟩) 2 eV, .int .i64 soV] 37)
              have B8 := Lib.hid (B5.out.trans ((hbV.trans (hbb.mono hbV.size)).mono B5.out.size))
              generalize hw8 : w7x.alloc (.cells #[.int .i64 8, .string nmV, .bool ngV, .slice aV nuV.length cV, .slice bV deV.length dV, .slice (some ⟨bb2, oo2, none⟩) 2 eV, .int .i64 soV] 37) = w8x at *
              have u0 := cell_p XV 0
              have u5 := cell_p XV 5
              simp only [List.getElem?_toArray, List.getElem?_cons_succ, List.getElem?_cons_zero] at u0 u5
              rw [Nat.add_zero] at k2
              replace k2 : w8x.cell? ⟨bb2, oo2, none⟩ = some (.int .i64 z) := k2
              replace k3 : w8x.cell? ⟨bb2, oo2 + 1, none⟩ = some (.int .i64 y) := k3
              clear hbb RV nV hbV hnV' k0 k1 r0 r5 hw6 XU
              go_wp2
              go_roundw
              case rel => exact ⟨i + 1, by omega, by go_num, by rw [hz'.out], B8.out⟩
              case measure => simp [intOf]; omega
            · obtain rfl : i = k := by omega
              obtain ⟨kO, nmO, ⟨ngO, nuO, deO⟩, soO, e1, l1, n1⟩ := L7.out
              have qL : wr.cell? ⟨gB, 1, none⟩ = some (.int .i64 kO) := by
                have := (O1.out.same fun j hj => hB.out.block j (O1.out.lt j hj).2).cells rfl 1 _ (hol.out 1 (by decide))
                rw [this]
                exact congrArg (fun x => some (Value.int .i64 x)) e1
              have hnO := node_any w.heap.size p { TA with X := NoX } kO wr I.t l1 GA.out.ok.sn
              rw [show nodeAt { TA with X := NoX } (kO : Int) = nodeAt TA kO from rfl, n1] at hnO
              have hnO' := Lib.hid hnO
              clear hnO n1 e1 I
              generalize lastN TA more i = y at *
              go_wp2_with fail
              refine hnO'.out.mono ?_; rintro e w5 ⟨aU, cU, bU, dU, gU, eU, rfl, nU, hbU⟩
              have hbb : Below w5.heap.size w5 (w5.alloc (.cells #[.int .i64 18, .string nmO, .bool ngO, .slice aU nuO.length cU, .slice bU deO.length dU, .slice gU 2 eU, .int .i64 soO] 37)) := (Below.refl _ _).alloc (Nat.le_refl _) _
              have RO := nU.args.toI.below hbb (Nat.le_refl _)
              have XO := heap_alloc_new w5 (.cells #[.int .i64 18, .string nmO, .bool ngO, .slice aU nuO.length cU, .slice bU deO.length dU, .slice gU 2 eU, .int .i64 soO] 37)
              have B6 := Lib.hid (IA.out.b.trans ((hB.out.trans ((hbU.trans (hbb.mono hbU.size)).mono hB.out.size)).mono IA.out.b.size))
              generalize hw6 : w5.alloc (.cells #[.int .i64 18, .string nmO, .bool ngO, .slice aU nuO.length cU, .slice bU deO.length dU, .slice gU 2 eU, .int .i64 soO] 37) = w6x at *
              have r0 := cell_p XO 0
              have r5 := cell_p XO 5
              simp only [List.getElem?_toArray, List.getElem?_cons_succ, List.getElem?_cons_zero] at r0 r5
              replace RO : RdI w6x gU 2 [y, 2] := RO
              have hok : ∀ x ∈ [y, 2], okI x := RO.wf
              have hbl : Below w6x.heap.size w6x (w6x.alloc (.cells #[.int .i64 y, .int .i64 2] 3)) := (Below.refl _ _).alloc (Nat.le_refl _) _
              have hii := Lib.hid (ints_any gU (some ⟨w6x.heap.size, 0, none⟩) 2 2 eU 2 [y, 2] [y, 2] _ (RO.below hbl (Nat.le_refl _)) (RdI.lit [y, 2] 3 w6x hok) (by decide))
              rw [show sameI [y, 2] [y, 2] = true from by simp [sameI]] at hii
              have B7 := Lib.hid (B6.out.trans (hbl.mono B6.out.size))
              clear hbb RO XO nU hbU hnO' qL hok hbl
              go_wp2_with fail
              refine hii.out.mono ?_; rintro e w8 ⟨rfl, qq, hw8⟩
              have B8 := Lib.hid (show Below w.heap.size w w8 from by rw [hw8]; exact B7.out.drewN qq)
              have haw := Lib.hid (awake16_any w8 (hE'.out.all B8.out))
              clear hw8 hii hw6 r0 r5
              go_wp2_with fail
              refine haw.out.mono ?_; rintro e w9 ⟨rfl, b9⟩
              go_wp2
              go_ret
              exact ⟨rfl, B8.out.trans (b9.mono B8.out.size)⟩
end Go.Proofs.YtikmkalfdiiahaaGreatDoor
