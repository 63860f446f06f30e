/-
  Parts of this claim's texts, one behind the other: VL VM. No condition.
-/
import Derived.Test.YtikmkalfdiiahaaGreatDoorK31
import Derived.Test.YtikmkalfdiiahaaGreatDoorK30
set_option linter.unusedVariables false
set_option linter.unusedSimpArgs false
/-
  theodolitelaw17.FlatNested: what the plain law gives to the walk. No condition.
-/
namespace Go.Proofs.YtikmkalfdiiahaaGreatDoor
open Go.RowKit Go.Sort Go.Lib

theorem stepM_of {made : List MadeD} {i : Nat} (hi : i < made.length) (h : stepM made i = true) : made[i]? = some ⟨lastM made (i + 1), sf, [lastM made i]⟩ := by
  unfold stepM at h
  simp only [Bool.and_eq_true, decide_eq_true_eq] at h
  have hd : made.getD i noMade = made[i] := by simp [List.getD, hi]
  have hl : lastM made (i + 1) = (made.getD i noMade).var := rfl
  rw [hl, List.getElem?_eq_getElem hi]
  rw [hd] at h ⊢
  generalize made[i] = m at *
  obtain ⟨a, b, c⟩ := m
  dsimp only at h ⊢
  rw [h.1, h.2]
theorem lawM_of {n : Nat} (hn : n ≤ 30) (tw : Bool) : (fnQ n).1.2 = 0 ∧ (fnP n).1.2 = 0 ∧ (fnA n tw).1.2.2.2 = 0 ∧ (fnA n tw).1.1.length = (fnI n tw).length ∧ (fnA n tw).1.2.1.length = n ∧ (fnA n tw).1.2.2.1.length = 0 ∧
    (∀ i, i < n → (fnA n tw).1.2.1[i]? = some ⟨lastM (fnA n tw).1.2.1 (i + 1), sf, [lastM (fnA n tw).1.2.1 i]⟩) ∧
    ∃ (kO : Nat) (nm : ByteArray) (vv : RatD) (so : Int), nth (fnA n tw).1.1 0 = kO ∧ kO < (fnA n tw).2.nodes.length ∧ nodeAt (fnA n tw).2 kO = ⟨17, nm, vv, [lastM (fnA n tw).1.2.1 n, 0], so⟩ := by
  have h := law_flat hn tw
  unfold lawM at h
  simp only [Bool.and_eq_true, decide_eq_true_eq, List.all_eq_true, List.mem_range] at h
  obtain ⟨⟨⟨⟨⟨⟨⟨⟨⟨h1, h2⟩, h3⟩, h4⟩, h5⟩, h6⟩, h7⟩, h8⟩, h9⟩, h10⟩ := h
  obtain ⟨kO, e1, l1⟩ := inB_nat h8
  rw [e1] at h9 h10
  refine ⟨h1, h2, h3, h4, h5, h6, fun i hi => stepM_of (by omega) (h7 i hi), kO, (nodeAt (fnA n tw).2 kO).name, (nodeAt (fnA n tw).2 kO).val, (nodeAt (fnA n tw).2 kO).sort, e1, l1, ?_⟩
  generalize nodeAt (fnA n tw).2 (kO : Int) = u at *
  obtain ⟨op, nm, vv, args, so⟩ := u
  dsimp only at h9 h10
  rw [h9, h10]
theorem fnQ_e {n : Nat} (hn : n ≤ 30) : mk2 (fnN n).2 17 (fnN n).1 0 = (((fnQ n).1.1, 0), (fnQ n).2) := Prod.ext (Prod.ext rfl (lawM_of hn true).1) rfl
theorem fnP_e {n : Nat} (hn : n ≤ 30) : mk2 (fnQ n).2 18 0 (fnN n).1 = (((fnP n).1.1, 0), (fnP n).2) := Prod.ext (Prod.ext rfl (lawM_of hn true).2.1) rfl
theorem mk2_fresh (T : TermD) (op a b : Int) : (mk2 T op a b).2.fresh = T.fresh := by
  unfold mk2 makeD
  split
  · rfl
  · split
    · rfl
    · split
      · rfl
      · split
        · exact fresh_put _ _
        · rfl
theorem fnQ_fresh (n : Nat) : (fnQ n).2.fresh = 0 := (mk2_fresh _ _ _ _).trans (fn_fresh n)
theorem fnP_fresh (n : Nat) : (fnP n).2.fresh = 0 := (mk2_fresh _ _ _ _).trans (fnQ_fresh n)
end Go.Proofs.YtikmkalfdiiahaaGreatDoor

/-
  theodolitelaw17.FlatNested: the walk: it returns true and writes nothing old. Condition: the library's tables as its text lays them.
-/
namespace Go.Proofs.YtikmkalfdiiahaaGreatDoor
open Go.RowKit Go.Sort Go.Lib

set_option maxRecDepth 100000 in
set_option maxHeartbeats 16000000 in
theorem flatNested_walk (n : Int) (tw : Bool) (w : World) (hE : EnvT w) : Calls Tryz.prog 4 #[.int .i64 n, .bool tw] w fun e w' => e = .returned (.bool true) ∧ Below w.heap.size w w' := by
  have hE' := Lib.hid hE
  have haw := Lib.hid (awake17_any w hE)
  clear hE
  by_cases g1 : n < 0
  · go_enter Tryz.func4, Tryz.ntmps4
    go_wp2_with fail
    refine haw.out.mono ?_; rintro e w' ⟨rfl, b⟩
    go_wp2
    go_ret
    exact ⟨rfl, b⟩
  by_cases g2 : 30 < n
  · go_enter Tryz.func4, Tryz.ntmps4
    go_wp2_with fail
    refine haw.out.mono ?_; rintro e w' ⟨rfl, b⟩
    go_wp2
    go_ret
    exact ⟨rfl, b⟩
  obtain ⟨m, rfl⟩ := Int.eq_ofNat_of_zero_le (by omega : 0 ≤ n)
  have hm : m ≤ 30 := by omega
  have hlaw := Lib.hid (lawM_of hm tw)
  have htb := Lib.hid (tables17_any w hE'.out.env)
  clear haw
  go_enter Tryz.func4, Tryz.ntmps4
  go_wp2_with fail
  refine htb.out.mono ?_; rintro e w1 ⟨p, r, rfl, t1, b1⟩
  have I1 := Lib.hid (show St w p { A0 with X := NoX } w1 from ⟨t1, b1⟩)
  have h1 := app_call hE'.out I1.out g_A0 sx (by decide)
  rw [mk_x] at h1
  have h1' := Lib.hid h1
  clear t1 b1 htb h1
  go_wp2_with fail
  refine h1'.out.mono ?_; rintro e w4 ⟨rfl, i4, _⟩
  have I4 := Lib.hid (show St w p { (fnN 0).2 with X := NoX } w4 from i4)
  clear i4 h1' I1
  go_wp2
  go_loopw [8, 9, 10] (fun v8 v9 v10 wr => ∃ k : Nat, k ≤ m ∧ v8 = .int .i64 0 ∧ v9 = .int .i64 (fnN k).1 ∧ v10 = .int .i64 k ∧ Hid (St w p { (fnN k).2 with X := NoX } wr)) (fun _ _ v10 _ => m - (intOf v10).toNat)
  case atStart => exact ⟨0, Nat.zero_le _, rfl, rfl, rfl, I4.out⟩
  case round =>
    obtain ⟨k, hk, rfl, rfl, rfl, hI⟩ := hrel
    by_cases hlt : k < m
    · have hki : (k : Int) < m := by omega
      have h4 := fn_call hE'.out hI.out (fn_g (k := k) (by omega)).1 (fnN k).1 (fn_g (k := k) (by omega)).2
      rw [fn_e (show k < 30 by omega)] at h4
      have h4' := Lib.hid h4
      clear h4
      generalize (fnN k).1 = x at *
      go_wp2_with fail
      refine h4'.out.mono ?_; rintro e w5 ⟨rfl, i5, _⟩
      have I5 := Lib.hid i5
      clear i5 h4' hI
      go_wp2
      go_roundw
      case rel => exact ⟨k + 1, by omega, rfl, rfl, by go_num, I5.out⟩
      case measure => simp [intOf]; omega
    · obtain rfl : k = m := by omega
      have h5 := mk2_call hE'.out hI.out (fn_g (k := k) (by omega)).1 17 (fnN k).1 0 (okI_n (by decide)) (by decide) (fn_g (k := k) (by omega)).2 okI_0
      rw [fnQ_e hm] at h5
      have h5' := Lib.hid h5
      have hA := @Lib.hid (allFlat (fnT k tw) (fnI k tw) = fnA k tw) rfl
      have hTe := @Lib.hid (fnT k tw = if tw then (fnP k).2 else (fnQ k).2) rfl
      have GQ := Lib.hid (show TermG (fnQ k).2 from mk2_grow (fn_g (k := k) (by omega)).1 17 _ 0)
      have FQ := Lib.hid (show (fnQ k).2.fresh ≤ 1000000000 from by rw [fnQ_fresh]; decide)
      have GP := Lib.hid (show TermG (fnP k).2 from mk2_grow GQ.out 18 0 _)
      have FP := Lib.hid (show (fnP k).2.fresh ≤ 1000000000 from by rw [fnP_fresh]; decide)
      have hq := Lib.hid (show okI (fnQ k).1.1 from mk2_bd (fn_g (k := k) (by omega)).1 17 (fnN k).1 0)
      have hp := Lib.hid (show okI (fnP k).1.1 from mk2_bd GQ.out 18 0 (fnN k).1)
      have hpc := Lib.hid (show ∀ (X : Nat → Prop) (W : World), St w p { (fnQ k).2 with X := X } W → Calls Tryz.prog 10 #[.pointer (some ⟨p, 0, none⟩), .int .i64 18, .string ⟨#[]⟩, .agg #[.bool false, .slice none 0 0, .slice none 0 0], .slice (some ⟨W.heap.size, 0, none⟩) 2 2] (W.alloc (.cells #[.int .i64 0, .int .i64 (fnN k).1] 3)) fun e w' =>
          e = .returned (.tuple #[.int .i64 (fnP k).1.1, .int .i64 0]) ∧ St w p { (fnP k).2 with X := X } w' ∧ TStep p W w' from fun X W hW => by
        have h := mk2_call hE'.out hW GQ.out 18 0 (fnN k).1 (okI_n (by decide)) (by decide) okI_0 (fn_g (k := k) (by omega)).2
        rw [fnP_e hm] at h
        exact h)
      clear h5
      generalize hqi : (fnQ k).1.1 = qi at h5' hq
      generalize hpi : (fnP k).1.1 = pi at hpc hp
      have hqe := Lib.hid hqi
      have hpe := Lib.hid hpi
      clear hqi hpi
      generalize (fnN k).1 = x at *
      generalize (fnQ k).2 = TQ at *
      generalize (fnP k).2 = TP at *
      go_wp2_with fail
      refine h5'.out.mono ?_; rintro e w6 ⟨rfl, i6, _⟩
      have I6 := Lib.hid i6
      have hokq : ∀ x ∈ [qi], okI x := fun x hx => by simp at hx; subst hx; exact hq.out
      have hokq2 : ∀ x ∈ [qi, pi], okI x := fun x hx => by simp at hx; rcases hx with rfl | rfl; exact hq.out; exact hp.out
      obtain ⟨i0, hi0, hz0, hz1, hz2⟩ := info_parts info_int
      obtain ⟨_, _, lw3, lw4, lw5, lw6, lw7, lw8⟩ := hlaw.out
      clear i6 h5' hI hlaw
      cases tw
      case false =>
        have hall := flatAll_any hE'.out p NoX TQ (some ⟨w6.heap.size, 0, none⟩) 1 1 [qi] (w6.alloc (.cells #[.int .i64 qi] 3)) (I6.out.lit _) GQ.out FQ.out (RdI.lit [qi] 3 w6 hokq) (lit_free I6.out _) (by decide)
        rw [show TQ = fnT k false from hTe.out.symm] at hall
        replace lw4 : (fnA k false).1.1.length = 1 := lw4
        rw [show [qi] = fnI k false from by rw [← hqe.out]; rfl, hA.out] at hall
        unfold AllFPost at hall
        rw [lw3, lw4, lw5, lw6] at hall
        have hall' := Lib.hid hall
        have L4 := Lib.hid lw4
        have L7 := Lib.hid lw7
        have L8 := Lib.hid lw8
        clear hall lw3 lw5 lw6 lw7 lw8 hA
        generalize fnA k false = R at *
        obtain ⟨⟨out, made, more, er⟩, TA⟩ := R
        dsimp only at hall' L4 L7 L8
        clear lw4
        go_wp2_with fail
        refine hall'.out.mono ?_; rintro e wA ⟨a1, c1, a2, c2, a3, c3, rfl, o1, mR, _, ok1, iA, _, gA⟩
        have IA := Lib.hid (show St w p { TA with X := NoX } wA from iA)
        have GA := Lib.hid (show TermG TA from gA.g)
        obtain ⟨gB, cap1, hv1, _, _⟩ := o1.form (by decide)
        injection hv1 with hv1 hv1a hv1b
        subst hv1 hv1b
        have O1 := Lib.hid o1
        have MR := Lib.hid (show SlR repMd (fun _ => True) wA a2 k made from mR.mono fun _ _ _ => trivial)
        have hol := Lib.hid (show (out.map (Value.int .i64))[0]? = some (.int .i64 (nth out 0)) from by
          have hjl : 0 < out.length := by have := L4.out; omega
          rw [List.getElem?_map, List.getElem?_eq_getElem hjl, nth_eq hjl]; rfl)
        have hLs : ((⟨#[102]⟩ : ByteArray).toList == (⟨#[102]⟩ : ByteArray).toList) = true := beq_self_eq_true _
        clear o1 mR iA gA hall' ok1
        go_wp2
        go_loopw [20, 21] (fun v20 v21 wr => ∃ i : Nat, i ≤ k ∧ v20 = .int .i64 (lastM made i) ∧ v21 = .int .i64 i ∧ Hid (Below wA.heap.size wA wr)) (fun _ v21 _ => k - (intOf v21).toNat)
        case atStart => exact ⟨0, Nat.zero_le _, rfl, rfl, Below.refl _ _⟩
        case round =>
          obtain ⟨i, hi, rfl, rfl, hB⟩ := hrel
          by_cases hlt : i < k
          · have hki : (i : Int) < k := by omega
            obtain ⟨bm, om, cs, rfl, _, hrd, hcs⟩ := MR.out.at (L7.out i hlt)
            obtain ⟨aa, ca, rfl, hv, _, hca, hA⟩ := repMd_rd.1 hrd
            have hcs : ∀ (j : Nat) (v : Value), [Value.int .i64 (lastM made (i + 1)), .string ⟨#[102]⟩, .slice aa 1 ca][j]? = some v → wA.cell? ⟨bm, om + i * 3 + j, none⟩ = some v := hcs
            have hCC := Lib.hid (show ∀ W, Below wA.heap.size wA W → W.cell? ⟨bm, om + i * 3, none⟩ = some (.int .i64 (lastM made (i + 1))) ∧ W.cell? ⟨bm, om + i * 3 + 1, none⟩ = some (.string ⟨#[102]⟩) ∧ W.cell? ⟨bm, om + i * 3 + 2, none⟩ = some (.slice aa 1 ca) from fun W hW =>
              ⟨keep_cell hW (hcs 0 _ rfl), keep_cell hW (hcs 1 _ rfl), keep_cell hW (hcs 2 _ rfl)⟩)
            obtain ⟨y0, y1, y2⟩ := hCC.out wr hB.out
            have hA' : RdI wA aa 1 [lastM made i] := hA.toI
            have hok := Lib.hid (hA'.wf)
            have hbl : Below wr.heap.size wr (wr.alloc (.cells #[.int .i64 (lastM made i)] 3)) := (Below.refl _ _).alloc (Nat.le_refl _) _
            have hii := Lib.hid (ints_any aa (some ⟨wr.heap.size, 0, none⟩) 1 1 ca 1 [lastM made i] [lastM made i] _ ((hA'.below hB.out (Nat.le_refl _)).below hbl (Nat.le_refl _)) (RdI.lit [lastM made i] 3 wr hok.out) (by decide))
            rw [show sameI [lastM made i] [lastM made i] = true from by simp [sameI]] at hii
            have B5 := Lib.hid (hB.out.trans (hbl.mono hB.out.size))
            clear hrd hcs hA hA' hbl
            generalize hz : lastM made (i + 1) = z at *
            have hz' := Lib.hid hz
            clear hz
            generalize lastM made i = y at *
            go_wp2_with fail
            refine hii.out.mono ?_; rintro e w6 ⟨rfl, qq, hw6⟩
            have B6 := Lib.hid (show Below wA.heap.size wA w6 from by rw [hw6]; exact B5.out.drewN qq)
            clear hw6 hii y0 y1 y2
            obtain ⟨y0, y1, y2⟩ := hCC.out w6 B6.out
            go_wp2
            go_roundw
            case rel => exact ⟨i + 1, by omega, by rw [hz'.out], by go_num, B6.out⟩
            case measure => simp [intOf]; omega
          · obtain rfl : i = k := by omega
            have I := IA.out.all hB.out
            obtain ⟨kO, nmO, ⟨ngO, nuO, deO⟩, soO, e1, l1, n1⟩ := L8.out
            have qL : wr.cell? ⟨gB, 0, none⟩ = some (.int .i64 kO) := by
              have := (O1.out.same fun j hj => hB.out.block j (O1.out.lt j hj).2).cells rfl 0 _ hol.out
              rw [this]
              exact congrArg (fun x => some (Value.int .i64 x)) e1
            have hnO := node_any w.heap.size p { TA with X := NoX } kO wr I.t l1 GA.out.ok.sn
            rw [show nodeAt { TA with X := NoX } (kO : Int) = nodeAt TA kO from rfl, n1] at hnO
            have hnO' := Lib.hid hnO
            clear hnO n1 e1 I
            generalize lastM made i = y at *
            go_wp2_with fail
            refine hnO'.out.mono ?_; rintro e w5 ⟨aU, cU, bU, dU, gU, eU, rfl, nU, hbU⟩
            have hbb : Below w5.heap.size w5 (w5.alloc (.cells #[.int .i64 17, .string nmO, .bool ngO, .slice aU nuO.length cU, .slice bU deO.length dU, .slice gU 2 eU, .int .i64 soO] 37)) := (Below.refl _ _).alloc (Nat.le_refl _) _
            have RO := nU.args.toI.below hbb (Nat.le_refl _)
            have XO := heap_alloc_new w5 (.cells #[.int .i64 17, .string nmO, .bool ngO, .slice aU nuO.length cU, .slice bU deO.length dU, .slice gU 2 eU, .int .i64 soO] 37)
            have B6 := Lib.hid (IA.out.b.trans ((hB.out.trans ((hbU.trans (hbb.mono hbU.size)).mono hB.out.size)).mono IA.out.b.size))
            generalize hw6 : w5.alloc (.cells #[.int .i64 17, .string nmO, .bool ngO, .slice aU nuO.length cU, .slice bU deO.length dU, .slice gU 2 eU, .int .i64 soO] 37) = w6x at *
            have r0 := cell_p XO 0
            have r5 := cell_p XO 5
            simp only [List.getElem?_toArray, List.getElem?_cons_succ, List.getElem?_cons_zero] at r0 r5
            replace RO : RdI w6x gU 2 [y, 0] := RO
            have hok : ∀ x ∈ [y, 0], okI x := RO.wf
            have hbl : Below w6x.heap.size w6x (w6x.alloc (.cells #[.int .i64 y, .int .i64 0] 3)) := (Below.refl _ _).alloc (Nat.le_refl _) _
            have hii := Lib.hid (ints_any gU (some ⟨w6x.heap.size, 0, none⟩) 2 2 eU 2 [y, 0] [y, 0] _ (RO.below hbl (Nat.le_refl _)) (RdI.lit [y, 0] 3 w6x hok) (by decide))
            rw [show sameI [y, 0] [y, 0] = true from by simp [sameI]] at hii
            have B7 := Lib.hid (B6.out.trans (hbl.mono B6.out.size))
            clear hbb RO XO nU hbU hnO' qL hok hbl
            go_wp2_with fail
            refine hii.out.mono ?_; rintro e w8 ⟨rfl, qq, hw8⟩
            have B8 := Lib.hid (show Below w.heap.size w w8 from by rw [hw8]; exact B7.out.drewN qq)
            have haw := Lib.hid (awake17_any w8 (hE'.out.all B8.out))
            clear hw8 hii hw6 r0 r5
            go_wp2_with fail
            refine haw.out.mono ?_; rintro e w9 ⟨rfl, b9⟩
            go_wp2
            go_ret
            exact ⟨rfl, B8.out.trans (b9.mono B8.out.size)⟩
      case true =>
        have hbl : Below w6.heap.size w6 (w6.alloc (.cells #[.int .i64 qi] 3)) := (Below.refl _ _).alloc (Nat.le_refl _) _
        have I6a := Lib.hid (I6.out.more (Y := fun q => NoX q ∨ rowB (.slice (some ⟨w6.heap.size, 0, none⟩) 1 1) q) hbl fun j hj => by
          rcases hj with hj | hj
          · exact hj.elim
          · injection hj with hj; subst hj; exact .inr ⟨Nat.le_refl _, by simp⟩)
        have ho6 := Lib.hid (own_lit1 w6 qi)
        have hpc6 := hpc.out _ _ I6a.out
        simp only [World.size_alloc] at hpc6
        have hpc6 := Lib.hid hpc6
        clear hbl hpc
        go_wp2_with fail
        refine hpc6.out.mono ?_; rintro e w7 ⟨rfl, i7, s7⟩
        have I7 := Lib.hid i7
        have ho7 := ((ho6.out.same fun j hj => I6a.out.own (.inr hj) s7).lower I6.out.b.size).alloc (.cells #[.int .i64 pi] 3)
        clear i7 s7 hpc6
        go_wp2_with (at_builtin; refine wpList_append_C rfl (.tmp 86) (.tmp 88) rfl Tryz.underlying33 hi0 hz0 hz1 hz2 rfl (by decide) rfl rfl ho7 (Src.one (b := w7.heap.size) (news := [.int .i64 pi]) rfl ?d1) ?d2 ?d3 ?d4 ?d5 ?_)
        case d1 => intro j u hu; rw [World.cell?_alloc_new]; simpa using hu
        case d2 => first | rfl | (intro u hu; simp at hu; subst hu; rfl)
        case d3 => unfold maxLen; omega
        case d4 => omega
        case d5 => have := I7.out.b.size; first | omega | (simp; omega)
        intro v' w8 ho8 hg8 hl8
        obtain ⟨a7, c7, rfl, hc7, _⟩ := ho8.slice
        have I8 := (I7.out.lit (.cells #[.int .i64 pi] 3)).push (v := .slice (some ⟨w6.heap.size, 0, none⟩) 1 1) (v' := .slice a7 2 c7) hg8 (fun j hj => (ho7.lt j hj).1) (hl8.imp (fun h => h) fun h j e => by have := h j e; first | exact this | simpa using this) fun j hj => (ho8.lt j hj).2
        have hfr8 : 0 < 2 → ∀ x, a7 = some x → x.block < w8.heap.size ∧ ¬ ownT p w8 x.block := fun _ x e => by
          obtain ⟨q, u1, u2, mm, ha⟩ := I8.t
          have := ha.xlt x.block (.inr (by rw [e]; rfl))
          exact ⟨this.1, this.2.1⟩
        have hall := flatAll_any hE'.out p NoX TP a7 2 c7 [qi, pi] w8 (I8.fewer fun j hj => hj.elim) GP.out FP.out (OwnC.rdX (n := 2) (xs := [qi, pi]) ho8 hokq2) hfr8 (by decide)
        rw [show TP = fnT k true from hTe.out.symm] at hall
        clear ho7 hg8 hl8 I8 hfr8 ho8 I7 I6a ho6
        replace lw4 : (fnA k true).1.1.length = 2 := lw4
        rw [show [qi, pi] = fnI k true from by rw [← hqe.out, ← hpe.out]; rfl, hA.out] at hall
        unfold AllFPost at hall
        rw [lw3, lw4, lw5, lw6] at hall
        have hall' := Lib.hid hall
        have L4 := Lib.hid lw4
        have L7 := Lib.hid lw7
        have L8 := Lib.hid lw8
        clear hall lw3 lw5 lw6 lw7 lw8 hA
        generalize fnA k true = R at *
        obtain ⟨⟨out, made, more, er⟩, TA⟩ := R
        dsimp only at hall' L4 L7 L8
        clear lw4
        go_wp2_with fail
        refine hall'.out.mono ?_; rintro e wA ⟨a1, c1, a2, c2, a3, c3, rfl, o1, mR, _, ok1, iA, _, gA⟩
        have IA := Lib.hid (show St w p { TA with X := NoX } wA from iA)
        have GA := Lib.hid (show TermG TA from gA.g)
        obtain ⟨gB, cap1, hv1, _, _⟩ := o1.form (by decide)
        injection hv1 with hv1 hv1a hv1b
        subst hv1 hv1b
        have O1 := Lib.hid o1
        have MR := Lib.hid (show SlR repMd (fun _ => True) wA a2 k made from mR.mono fun _ _ _ => trivial)
        have hol := Lib.hid (show (out.map (Value.int .i64))[0]? = some (.int .i64 (nth out 0)) from by
          have hjl : 0 < out.length := by have := L4.out; omega
          rw [List.getElem?_map, List.getElem?_eq_getElem hjl, nth_eq hjl]; rfl)
        have hLs : ((⟨#[102]⟩ : ByteArray).toList == (⟨#[102]⟩ : ByteArray).toList) = true := beq_self_eq_true _
        clear o1 mR iA gA hall' ok1
        go_wp2
        go_loopw [20, 21] (fun v20 v21 wr => ∃ i : Nat, i ≤ k ∧ v20 = .int .i64 (lastM made i) ∧ v21 = .int .i64 i ∧ Hid (Below wA.heap.size wA wr)) (fun _ v21 _ => k - (intOf v21).toNat)
        case atStart => exact ⟨0, Nat.zero_le _, rfl, rfl, Below.refl _ _⟩
        case round =>
          obtain ⟨i, hi, rfl, rfl, hB⟩ := hrel
          by_cases hlt : i < k
          · have hki : (i : Int) < k := by omega
            obtain ⟨bm, om, cs, rfl, _, hrd, hcs⟩ := MR.out.at (L7.out i hlt)
            obtain ⟨aa, ca, rfl, hv, _, hca, hA⟩ := repMd_rd.1 hrd
            have hcs : ∀ (j : Nat) (v : Value), [Value.int .i64 (lastM made (i + 1)), .string ⟨#[102]⟩, .slice aa 1 ca][j]? = some v → wA.cell? ⟨bm, om + i * 3 + j, none⟩ = some v := hcs
            have hCC := Lib.hid (show ∀ W, Below wA.heap.size wA W → W.cell? ⟨bm, om + i * 3, none⟩ = some (.int .i64 (lastM made (i + 1))) ∧ W.cell? ⟨bm, om + i * 3 + 1, none⟩ = some (.string ⟨#[102]⟩) ∧ W.cell? ⟨bm, om + i * 3 + 2, none⟩ = some (.slice aa 1 ca) from fun W hW =>
              ⟨keep_cell hW (hcs 0 _ rfl), keep_cell hW (hcs 1 _ rfl), keep_cell hW (hcs 2 _ rfl)⟩)
            obtain ⟨y0, y1, y2⟩ := hCC.out wr hB.out
            have hA' : RdI wA aa 1 [lastM made i] := hA.toI
            have hok := Lib.hid (hA'.wf)
            have hbl : Below wr.heap.size wr (wr.alloc (.cells #[.int .i64 (lastM made i)] 3)) := (Below.refl _ _).alloc (Nat.le_refl _) _
            have hii := Lib.hid (ints_any aa (some ⟨wr.heap.size, 0, none⟩) 1 1 ca 1 [lastM made i] [lastM made i] _ ((hA'.below hB.out (Nat.le_refl _)).below hbl (Nat.le_refl _)) (RdI.lit [lastM made i] 3 wr hok.out) (by decide))
            rw [show sameI [lastM made i] [lastM made i] = true from by simp [sameI]] at hii
            have B5 := Lib.hid (hB.out.trans (hbl.mono hB.out.size))
            clear hrd hcs hA hA' hbl
            generalize hz : lastM made (i + 1) = z at *
            have hz' := Lib.hid hz
            clear hz
            generalize lastM made i = y at *
            go_wp2_with fail
            refine hii.out.mono ?_; rintro e w6 ⟨rfl, qq, hw6⟩
            have B6 := Lib.hid (show Below wA.heap.size wA w6 from by rw [hw6]; exact B5.out.drewN qq)
            clear hw6 hii y0 y1 y2
            obtain ⟨y0, y1, y2⟩ := hCC.out w6 B6.out
            go_wp2
            go_roundw
            case rel => exact ⟨i + 1, by omega, by rw [hz'.out], by go_num, B6.out⟩
            case measure => simp [intOf]; omega
          · obtain rfl : i = k := by omega
            have I := IA.out.all hB.out
            obtain ⟨kO, nmO, ⟨ngO, nuO, deO⟩, soO, e1, l1, n1⟩ := L8.out
            have qL : wr.cell? ⟨gB, 0, none⟩ = some (.int .i64 kO) := by
              have := (O1.out.same fun j hj => hB.out.block j (O1.out.lt j hj).2).cells rfl 0 _ hol.out
              rw [this]
              exact congrArg (fun x => some (Value.int .i64 x)) e1
            have hnO := node_any w.heap.size p { TA with X := NoX } kO wr I.t l1 GA.out.ok.sn
            rw [show nodeAt { TA with X := NoX } (kO : Int) = nodeAt TA kO from rfl, n1] at hnO
            have hnO' := Lib.hid hnO
            clear hnO n1 e1 I
            generalize lastM made i = y at *
            go_wp2_with fail
            refine hnO'.out.mono ?_; rintro e w5 ⟨aU, cU, bU, dU, gU, eU, rfl, nU, hbU⟩
            have hbb : Below w5.heap.size w5 (w5.alloc (.cells #[.int .i64 17, .string nmO, .bool ngO, .slice aU nuO.length cU, .slice bU deO.length dU, .slice gU 2 eU, .int .i64 soO] 37)) := (Below.refl _ _).alloc (Nat.le_refl _) _
            have RO := nU.args.toI.below hbb (Nat.le_refl _)
            have XO := heap_alloc_new w5 (.cells #[.int .i64 17, .string nmO, .bool ngO, .slice aU nuO.length cU, .slice bU deO.length dU, .slice gU 2 eU, .int .i64 soO] 37)
            have B6 := Lib.hid (IA.out.b.trans ((hB.out.trans ((hbU.trans (hbb.mono hbU.size)).mono hB.out.size)).mono IA.out.b.size))
            generalize hw6 : w5.alloc (.cells #[.int .i64 17, .string nmO, .bool ngO, .slice aU nuO.length cU, .slice bU deO.length dU, .slice gU 2 eU, .int .i64 soO] 37) = w6x at *
            have r0 := cell_p XO 0
            have r5 := cell_p XO 5
            simp only [List.getElem?_toArray, List.getElem?_cons_succ, List.getElem?_cons_zero] at r0 r5
            replace RO : RdI w6x gU 2 [y, 0] := RO
            have hok : ∀ x ∈ [y, 0], okI x := RO.wf
            have hbl : Below w6x.heap.size w6x (w6x.alloc (.cells #[.int .i64 y, .int .i64 0] 3)) := (Below.refl _ _).alloc (Nat.le_refl _) _
            have hii := Lib.hid (ints_any gU (some ⟨w6x.heap.size, 0, none⟩) 2 2 eU 2 [y, 0] [y, 0] _ (RO.below hbl (Nat.le_refl _)) (RdI.lit [y, 0] 3 w6x hok) (by decide))
            rw [show sameI [y, 0] [y, 0] = true from by simp [sameI]] at hii
            have B7 := Lib.hid (B6.out.trans (hbl.mono B6.out.size))
            clear hbb RO XO nU hbU hnO' qL hok hbl
            go_wp2_with fail
            refine hii.out.mono ?_; rintro e w8 ⟨rfl, qq, hw8⟩
            have B8 := Lib.hid (show Below w.heap.size w w8 from by rw [hw8]; exact B7.out.drewN qq)
            have haw := Lib.hid (awake17_any w8 (hE'.out.all B8.out))
            clear hw8 hii hw6 r0 r5
            go_wp2_with fail
            refine haw.out.mono ?_; rintro e w9 ⟨rfl, b9⟩
            go_wp2
            go_ret
            exact ⟨rfl, B8.out.trans (b9.mono B8.out.size)⟩
end Go.Proofs.YtikmkalfdiiahaaGreatDoor
