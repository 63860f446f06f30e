/-
  theodolitelaw6.SortsFuns: the walk: it returns true and writes nothing old. Condition: the library's table of spaces is as its text lays it.
-/
import Derived.Test.YtpkajhmgkmkcgaaDoorSQ
import Derived.Test.YtpkajhmgkmkcgaaDoorSJ
import Derived.Test.YtpkajhmgkmkcgaaDoorTU
namespace Go.Proofs.YtpkajhmgkmkcgaaDoor
open Go.RowKit Go.Sort Go.Lib

theorem TabIs.ownNot {B p : Nat} {T : TabD} {w : World} (h : TabIs B p T w) {b : Nat} {t : TypeId} (hb : ∃ cs f, w.heap[b]? = some (.cells cs t f)) (h1 : 67 ≠ t) (h2 : 9 ≠ t) (h3 : 32 ≠ t) (h4 : 77 ≠ t) : ¬ ownOf w p b := fun hk => by
  obtain ⟨v1, v2, v3, hblk, o1, o2, o3⟩ := h.blk
  rcases (own3 hblk).1 hk with rfl | hk | hk | hk
  · exact ty_ne h1 ⟨_, _, hblk⟩ hb
  · exact ty_ne h2 (o1.ty b hk) hb
  · exact ty_ne h3 (o2.ty b hk) hb
  · exact ty_ne h4 (o3.ty b hk) hb
/-- the law's flags lie in block b -/
def HaveAt (w : World) (b : Nat) (ks : List Nat) : Prop := w.heap[b]? = some (.cells (haveV ks) 36 (0, 0))
theorem HaveAt.lt {w : World} {b : Nat} {ks : List Nat} (h : HaveAt w b ks) : b < w.heap.size := (Array.getElem?_eq_some_iff.1 h).1
theorem HaveAt.all {w w' : World} {b : Nat} {ks : List Nat} (h : HaveAt w b ks) (hb : Below w.heap.size w w') : HaveAt w' b ks := (hb.block b h.lt).trans h
theorem HaveAt.not {B p : Nat} {T : TabD} {w : World} {b : Nat} {ks : List Nat} (h : HaveAt w b ks) (t : TabIs B p T w) : ¬ ownOf w p b := t.ownNot ⟨_, _, h⟩ (by decide) (by decide) (by decide) (by decide)
theorem HaveAt.step {B p : Nat} {T : TabD} {w w' : World} {b : Nat} {ks : List Nat} (h : HaveAt w b ks) (t : TabIs B p T w) (s : PStep p w w') : HaveAt w' b ks := (s.block b h.lt (h.not t)).1.trans h
theorem HaveAt.cell {w : World} {b : Nat} {ks : List Nat} (h : HaveAt w b ks) {k : Nat} (hk : k < 26) : w.cell? ⟨b, k, none⟩ = some (.bool (decide (k ∈ ks))) := by rw [cell_p h k, haveV_at hk]
theorem HaveAt.frz {w : World} {b : Nat} {ks : List Nat} (h : HaveAt w b ks) (k : Nat) : w.frozen? ⟨b, k, none⟩ = false := frz_p h k
theorem HaveAt.set {w : World} {b : Nat} {ks : List Nat} (h : HaveAt w b ks) {k : Nat} (hk : k < 26) : HaveAt (w.setCell ⟨b, k, none⟩ (.bool true)) b (if k ∈ ks then ks else ks ++ [k]) := by
  have hlt := h.lt
  have e : (w.setCell ⟨b, k, none⟩ (.bool true)).heap[b]? = some (.cells ((haveV ks).set! k (.bool true)) 36 (0, 0)) := by
    have h' : w.heap[b]? = some (.cells (haveV ks) 36 (0, 0)) := h
    unfold World.setCell
    rw [Array.getElem?_modify, if_pos rfl, h']
    rfl
  unfold HaveAt
  rw [e]
  split
  · rename_i hm; rw [haveV_same hk hm]
  · rw [haveV_set hk]
theorem At.setHave {w0 w : World} {p : Nat} {T : TabD} (h : At w0 p T w) {b : Nat} {ks : List Nat} (hb : HaveAt w b ks) (hB : w0.heap.size ≤ b) (k : Nat) (v : Value) : At w0 p T (w.setCell ⟨b, k, none⟩ v) := by
  have hbl : ∀ j, j ≠ b → (w.setCell ⟨b, k, none⟩ v).heap[j]? = w.heap[j]? := fun j hj => Below.heap_setCell w ⟨b, k, none⟩ v j hj
  have hs : w.heap.size ≤ (w.setCell ⟨b, k, none⟩ v).heap.size := by simp [World.setCell]
  have hb2 := h.b.setCell (p := ⟨b, k, none⟩) hB v
  refine ⟨h.t.keep (fun j hj => hbl j fun e => hb.not h.t (e ▸ hj)) (fun j hj => hbl j fun e => ?_) hs, hb2, ?_, h.pos⟩
  · subst e; exact ty_ne (t := 3) (t' := 36) (by decide) hj ⟨_, _, hb⟩
  · exact h.e.same (hbl 0 (by have := h.pos; omega))
theorem conv_letter (w : World) (r : Nat) (h : r < 26) : (convert 38 9 (.slice (some ⟨w.heap.size, 0, none⟩) 1 1)).run Tryd.prog (w.alloc (.cells #[.int .u8 (97 + (r : Int))] 5)) = .ok (.string (letter r)) (w.alloc (.cells #[.int .u8 (97 + (r : Int))] 5)) := by
  have := run_convert_bytes_back (P := Tryd.prog) (w.alloc (.cells #[.int .u8 (97 + (r : Int))] 5)) 38 9 5 ⟨w.heap.size, 0, none⟩ 1 [UInt8.ofNat (97 + r)] Tryd.underlying38 Tryd.underlying5 Tryd.underlying9 (fun j hj => by
    have hj0 : j = 0 := by simpa using hj
    subst hj0
    rw [Addr.add_lit, World.cell?_alloc_new]
    simp
    omega)
  exact this

set_option maxRecDepth 100000 in
set_option maxHeartbeats 4000000 in
theorem sortsFuns_walk (a : Option Addr) (n c : Nat) (xs : List Int) (w : World) (hE : Env w) (hx : RdI w a n xs) (_hn : n ≤ c ∧ c ≤ 9223372036854775807) :
    Calls Tryd.prog 4 #[.slice a n c] w fun e w' => e = .returned (.bool true) ∧ Below w.heap.size w w' := by
  have hE' := Lib.hid hE
  have haw := Lib.hid (awake6_any w hE)
  have hx' := Lib.hid hx
  clear hE hx
  by_cases g1 : 20 < n
  · go_enter Tryd.func4, Tryd.ntmps4
    go_wp2_with fail
    refine haw.out.mono ?_; rintro e w' ⟨rfl, b⟩
    go_wp2
    go_ret
    exact ⟨rfl, b⟩
  clear haw
  go_enter Tryd.func4, Tryd.ntmps4
  go_wp2_with fail
  refine (tnew_any w).mono ?_
  rintro e w1 ⟨p, rfl, t1, b1⟩
  have A1 := Lib.hid (show At w p (fT []) w1 from ⟨t1, b1, hE'.out.all b1, hE'.out.pos⟩)
  have hsz := b1.size
  clear t1 b1
  go_wp2
  go_loopw [2, 5, 6, 7, 8] (fun _ v5 v6 _ _ wr => ∃ (k : Nat) (ks : List Nat), k ≤ n ∧ v5 = .int .i64 ks.length ∧ v6 = .int .i64 k ∧ ks.length ≤ k ∧ Hid (ks.Nodup ∧ ∀ x ∈ ks, x < 26) ∧ Hid (At w p (fT ks) wr) ∧ Hid (HaveAt wr w1.heap.size ks)) (fun _ _ v6 _ _ _ => n - (intOf v6).toNat)
  case atStart =>
    refine ⟨0, [], Nat.zero_le _, rfl, rfl, Nat.le_refl _, ⟨List.nodup_nil, by simp⟩, A1.out.lit _, ?_⟩
    show HaveAt _ _ _
    unfold HaveAt
    rw [heap_alloc_new, haveV_nil]; rfl
  case round =>
    obtain ⟨k, ks, hk, rfl, rfl, hkl, hks, hA, hH⟩ := hrel
    by_cases hlt : k < n
    · have hxr := Lib.hid (hx'.out.below hA.out.b (Nat.le_refl _))
      obtain ⟨ba, oa, rfl, h1⟩ := hxr.out.at k hlt
      have hrb := roundI_bd (nth xs k) 26 (by decide)
      have hrd := Lib.hid (round_any (nth xs k) 26 wr (by decide) (by decide))
      generalize nth xs k = x at *
      go_wp2_with fail
      refine hrd.out.mono ?_; rintro e w' ⟨rfl, rfl⟩
      obtain ⟨r, hr⟩ : ∃ r : Nat, roundI x 26 = r := ⟨(roundI x 26).toNat, by omega⟩
      rw [hr] at hrb ⊢
      clear hr hrd
      have hr26 : r < 26 := by omega
      have hcv := conv_letter wr r hr26
      have AL := Lib.hid ((hA.out.lit (.cells #[.int .u8 (97 + (r : Int))] 5)).lit (.cells #[.int .i64 1] 3))
      have HL := Lib.hid ((hH.out.all ((Below.refl wr.heap.size wr).alloc (Nat.le_refl _) (.cells #[.int .u8 (97 + (r : Int))] 5))).all ((Below.refl _ _).alloc (Nat.le_refl _) (.cells #[.int .i64 1] 3)))
      have hR2 := (RdI.lit [1] 3 (wr.alloc (.cells #[.int .u8 (97 + (r : Int))] 5)) (by decide))
      simp only [World.size_alloc] at hR2
      have hR2' := Lib.hid hR2
      have hl26 : ks.length ≤ 20 := by omega
      have hfu := Lib.hid (fun_any w.heap.size p (fT ks) (mkF r) (some ⟨wr.heap.size + 1, 0, none⟩) 1 ((wr.alloc (.cells #[.int .u8 (97 + (r : Int))] 5)).alloc (.cells #[.int .i64 1] 3)) AL.out.t (fT_small hl26) AL.out.e hR2'.out (by simp [mkF]))
      have hmod := Lib.hid (show ((r : Int) % 2) = ((r % 2 : Nat) : Int) by omega)
      clear hR2
      go_wp2_with fail
      rw [hmod.out]
      by_cases hm : r ∈ ks
      · obtain ⟨f1, f2⟩ := fun_old hr26 hm
        refine hfu.out.mono ?_
        rintro e w4 ⟨rfl, t4, s4⟩
        rw [f1]
        rw [f2] at t4
        have A4 := Lib.hid (AL.out.step t4 s4)
        have H4 := HL.out.step AL.out.t s4
        have c4 := H4.cell hr26
        have z4 := H4.frz r
        have H4' := Lib.hid H4
        have hset := H4.set hr26
        rw [if_pos hm] at hset
        have A5 := Lib.hid (A4.out.setHave H4 hsz r (.bool true))
        have H5 := Lib.hid hset
        have hd1 : decide (r ∈ ks) = true := by simpa using hm
        rw [hd1] at c4
        clear t4 s4 f1 f2 H4 hset hm hd1 hcv
        go_wp2
        go_roundw
        case rel => exact ⟨k + 1, ks, by omega, rfl, by go_num, by omega, hks.out, A5.out, H5.out⟩
        case measure => simp [intOf]; omega
      · obtain ⟨f1, f2⟩ := fun_new hr26 hks.out.2 hm hl26
        refine hfu.out.mono ?_
        rintro e w4 ⟨rfl, t4, s4⟩
        rw [f1]
        rw [f2] at t4
        have A4 := Lib.hid (AL.out.step t4 s4)
        have H4 := HL.out.step AL.out.t s4
        have c4 := H4.cell hr26
        have z4 := H4.frz r
        have H4' := Lib.hid H4
        have hset := H4.set hr26
        rw [if_neg hm] at hset
        have A5 := Lib.hid (A4.out.setHave H4 hsz r (.bool true))
        have H5 := Lib.hid hset
        have hd1 : decide (r ∈ ks) = false := by simpa using hm
        rw [hd1] at c4
        have hk2 := @Lib.hid ((ks ++ [r]).Nodup ∧ ∀ x ∈ ks ++ [r], x < 26) ⟨by rw [List.nodup_append]; exact ⟨hks.out.1, by simp, fun a ha b hb e => by simp at hb; subst hb; subst e; exact hm ha⟩, fun x hx => by rcases List.mem_append.1 hx with h | h; exact hks.out.2 x h; simp at h; omega⟩
        clear t4 s4 f1 f2 H4 hset hm hd1 hcv
        go_wp2
        go_roundw
        case rel => exact ⟨k + 1, ks ++ [r], by omega, by simp, by go_num, by simp; omega, hk2.out, A5.out, H5.out⟩
        case measure => simp [intOf]; omega
    · have hl26 : ks.length ≤ 20 := by omega
      have hfs := Lib.hid (funs_any w.heap.size p (fT ks) wr hA.out.t (fT_small hl26))
      go_wp2_with fail
      refine hfs.out.mono ?_
      rintro e w4 ⟨gs, ga, gc, rfl, hp, hs, sl, b4⟩
      have hgs := sorted_is hks.out.1 hks.out.2 hp hs
      subst hgs
      have hgl : ((upTo ks 26).map mkF).length = ks.length := by rw [List.length_map]; exact upTo_len hks.out.1 hks.out.2
      have A4 := Lib.hid (hA.out.all b4)
      have H4 := Lib.hid (hH.out.all b4)
      rw [hgl] at sl ⊢
      have S4 := Lib.hid sl
      have hgl' := Lib.hid hgl
      clear hp hs sl b4 hgl hfs hA hH
      go_wp2
      go_loopw [2, 10, 11] (fun _ v10 v11 wx => ∃ k2 : Nat, k2 ≤ 26 ∧ v10 = .int .i64 (upTo ks k2).length ∧ v11 = .int .i64 k2 ∧ Hid (At w p (fT ks) wx) ∧ Hid (HaveAt wx w1.heap.size ks) ∧ Hid (SlR repF (fun _ => True) wx ga ks.length ((upTo ks 26).map mkF))) (fun _ _ v11 _ => 26 - (intOf v11).toNat)
      case atStart => exact ⟨0, by omega, rfl, rfl, A4.out, H4.out, S4.out⟩
      case round =>
        clear A4 H4 S4
        obtain ⟨k2, hk2, rfl, rfl, hA, hH, hS⟩ := hrel
        by_cases hlt2 : k2 < 26
        · have c4 := hH.out.cell hlt2
          by_cases hm : k2 ∈ ks
          · have hd1 : decide (k2 ∈ ks) = true := by simpa using hm
            rw [hd1] at c4
            have hat := upTo_at ks 26 k2 hlt2 hm
            have hup := Lib.hid (show (upTo ks (k2 + 1)).length = (upTo ks k2).length + 1 by rw [upTo_succ, if_pos hm]; simp)
            have hatl : (upTo ks k2).length < ks.length := by
              have := (List.getElem?_eq_some_iff.1 hat).1
              rw [upTo_len hks.out.1 hks.out.2] at this
              exact this
            have hg : ((upTo ks 26).map mkF)[(upTo ks k2).length]? = some (mkF k2) := by rw [List.getElem?_map, hat]; rfl
            obtain ⟨gb, go, fa, fc, rfl, m0, m1, m2, m3, _⟩ := hS.out.funAt hg
            have m0 : wr.cell? ⟨gb, go + (upTo ks k2).length * 3, none⟩ = some (.string (letter k2)) := m0
            have m1 : wr.cell? ⟨gb, go + (upTo ks k2).length * 3 + 1, none⟩ = some (.slice fa 1 fc) := m1
            have m2 : wr.cell? ⟨gb, go + (upTo ks k2).length * 3 + 2, none⟩ = some (.int .i64 ((k2 : Int) % 2)) := by rw [m2]; congr 2
            have m3 := Lib.hid (show SlR Rep.int _ wr fa 1 [1] from m3)
            clear hat hg hd1 hm
            generalize (upTo ks k2).length = at2 at *
            have hwa : IntKind.i64.wrap (97 + (k2 : Int)) = 97 + (k2 : Int) := by simp [IntKind.wrap, IntKind.bits, IntKind.signed]; omega
            have hwb : IntKind.u8.wrap (97 + (k2 : Int)) = 97 + (k2 : Int) := by simp [IntKind.wrap, IntKind.bits, IntKind.signed]; omega
            have hwc1 : (k2 : Int).tmod 2 = (k2 : Int) % 2 := Int.tmod_eq_emod_of_nonneg (by omega)
            have hwc2 : IntKind.i64.wrap ((k2 : Int) % 2) = (k2 : Int) % 2 := by simp [IntKind.wrap, IntKind.bits, IntKind.signed]; omega
            have hcv : (convert 38 9 (.slice (some ⟨wr.heap.size, 0, none⟩) 1 1)).run Tryd.prog (wr.alloc (.cells #[.int .u8 (97 + (k2 : Int))] 5)).drew = .ok (.string (letter k2)) (wr.alloc (.cells #[.int .u8 (97 + (k2 : Int))] 5)).drew := conv_letter wr.drew k2 hlt2
            have hint := Lib.hid (show Calls Tryd.prog 15 #[.slice fa 1 fc, .slice (some ⟨wr.heap.size + 1, 0, none⟩) 1 1] ((wr.alloc (.cells #[.int .u8 (97 + (k2 : Int))] 5)).alloc (.cells #[.int .i64 1] 3)).drew fun e w' => e = .returned (.bool true) ∧ ∃ q, w' = (((wr.alloc (.cells #[.int .u8 (97 + (k2 : Int))] 5)).alloc (.cells #[.int .i64 1] 3))).drew.drewN q from by
              have hb2 : Below wr.heap.size wr ((wr.drew.alloc (.cells #[.int .u8 (97 + (k2 : Int))] 5)).alloc (.cells #[.int .i64 1] 3)) := keep_alloc (keep_alloc (keep_drew wr) _) _
              have hl := RdI.lit [1] 3 (wr.drew.alloc (.cells #[.int .u8 (97 + (k2 : Int))] 5)) (by decide)
              simp only [World.size_alloc] at hl
              exact ints_any fa (some ⟨wr.heap.size + 1, 0, none⟩) 1 1 fc 1 [1] [1] _ (m3.out.toI.below hb2 (Nat.le_refl _)) hl (by decide))
            have hb0 : (0 : Int) ≤ at2 := by omega
            have hb1 : (at2 : Int) < ks.length := by omega
            go_wp2
            refine wp_region_tt (S := fun W => Below wr.heap.size wr W) 30 (by kernel_rfl) (by kernel_rfl) (keep_drew wr) (fun hHeld => ?_)
            refine tt_take (i := 0) (v := _) (by rfl) (by decide +kernel) (by exact fun _ _ _ h => h) (Or.inl ⟨by rfl, by (intro W hSw; (try dsimp only at hSw); go_simp <;> with_reducible rfl)⟩) (by assumption) ?_
            (try simp only [Act.put, List.setIfInBounds_toArray, List.set_cons_zero, List.set_cons_succ])
            refine tt_take (i := 1) (v := _) (by rfl) (by decide +kernel) (by exact fun _ _ _ h => h) (Or.inl ⟨by rfl, by (intro W hSw; (try dsimp only at hSw); go_simp <;> with_reducible rfl)⟩) (by assumption) ?_
            (try simp only [Act.put, List.setIfInBounds_toArray, List.set_cons_zero, List.set_cons_succ])
            refine tt_take (i := 2) (v := _) (by rfl) (by decide +kernel) (by exact fun _ _ _ h => h) (Or.inl ⟨by rfl, by (intro W hSw; (try dsimp only at hSw); go_simp <;> with_reducible rfl)⟩) (by assumption) ?_
            (try simp only [Act.put, List.setIfInBounds_toArray, List.set_cons_zero, List.set_cons_succ])
            refine tt_take (i := 3) (v := _) (by rfl) (by decide +kernel) (by exact fun _ _ _ h => h) (Or.inl ⟨by rfl, by (intro W hSw; (try dsimp only at hSw); go_simp <;> with_reducible rfl)⟩) (by assumption) ?_
            (try simp only [Act.put, List.setIfInBounds_toArray, List.set_cons_zero, List.set_cons_succ])
            refine tt_take (i := 4) (v := _) (by rfl) (by decide +kernel) (by exact fun _ _ _ h => h) (Or.inl ⟨by rfl, by (intro W hSw; have hq1 := keep_cell (p := ⟨gb, go + at2 * 3, none⟩) hSw m0; go_simp <;> with_reducible rfl)⟩) (by assumption) ?_
            (try simp only [Act.put, List.setIfInBounds_toArray, List.set_cons_zero, List.set_cons_succ])
            refine tt_take (i := 5) (v := _) (by rfl) (by decide +kernel) (by exact fun _ _ _ h => h) (Or.inl ⟨by rfl, by (intro W hSw; (try dsimp only at hSw); go_simp <;> with_reducible rfl)⟩) (by assumption) ?_
            (try simp only [Act.put, List.setIfInBounds_toArray, List.set_cons_zero, List.set_cons_succ])
            refine tt_take (i := 6) (v := _) (by rfl) (by decide +kernel) (by exact fun _ _ _ h => h) (Or.inl ⟨by rfl, by (intro W hSw; (try dsimp only at hSw); go_simp <;> with_reducible rfl)⟩) (by assumption) ?_
            (try simp only [Act.put, List.setIfInBounds_toArray, List.set_cons_zero, List.set_cons_succ])
            refine tt_take (i := 7) (v := _) (by rfl) (by decide +kernel) (by exact fun _ _ _ h => h) (Or.inl ⟨by rfl, by (intro W hSw; (try dsimp only at hSw); go_simp <;> with_reducible rfl)⟩) (by assumption) ?_
            (try simp only [Act.put, List.setIfInBounds_toArray, List.set_cons_zero, List.set_cons_succ])
            refine tt_ready (rs := [8]) (by decide +kernel) (allT_cons (by rfl) (fun K hK => ?_) allT_nil)
            go_simp
            refine hK.out _ _ (by (exact keep_alloc (by assumption) _)) (fun hHeld2 => ?_)
            clear hK K
            (try simp only [Act.put, List.setIfInBounds_toArray, List.set_cons_zero, List.set_cons_succ])
            refine tt_ready (rs := [9]) (by decide +kernel) (allT_cons (by rfl) (fun K hK => ?_) allT_nil)
            go_simp
            refine hK.out _ _ (by (assumption)) (fun hHeld3 => ?_)
            clear hK K
            (try simp only [Act.put, List.setIfInBounds_toArray, List.set_cons_zero, List.set_cons_succ])
            refine tt_take (i := 10) (v := _) (by rfl) (by decide +kernel) (by exact fun _ _ _ h => h) (Or.inl ⟨by rfl, by (intro W hSw; (try dsimp only at hSw); go_simp <;> with_reducible rfl)⟩) (by assumption) ?_
            (try simp only [Act.put, List.setIfInBounds_toArray, List.set_cons_zero, List.set_cons_succ])
            refine tt_take (i := 11) (v := _) (by rfl) (by decide +kernel) (by exact fun _ _ _ h => h) (Or.inl ⟨by rfl, by (intro W hSw; (try dsimp only at hSw); go_simp <;> with_reducible rfl)⟩) (by assumption) ?_
            (try simp only [Act.put, List.setIfInBounds_toArray, List.set_cons_zero, List.set_cons_succ])
            refine tt_take (i := 12) (v := _) (by rfl) (by decide +kernel) (by exact fun _ _ _ h => h) (by first | exact Or.inl ⟨by rfl, by (intro W hSw; (try dsimp only at hSw); go_simp <;> with_reducible rfl)⟩ | exact Or.inr ⟨by rfl, rfl⟩) (by assumption) ?_
            (try simp only [Act.put, List.setIfInBounds_toArray, List.set_cons_zero, List.set_cons_succ])
            refine tt_take (i := 13) (v := _) (by rfl) (by decide +kernel) (by exact fun _ _ _ h => h) (by first | exact Or.inl ⟨by rfl, by (intro W hSw; (try dsimp only at hSw); go_simp <;> with_reducible rfl)⟩ | exact Or.inr ⟨by rfl, rfl⟩) (by assumption) ?_
            (try simp only [Act.put, List.setIfInBounds_toArray, List.set_cons_zero, List.set_cons_succ])
            refine tt_take (i := 14) (v := _) (by rfl) (by decide +kernel) (by exact fun _ _ _ h => h) (by first | exact Or.inl ⟨by rfl, by (intro W hSw; (try dsimp only at hSw); go_simp <;> with_reducible rfl)⟩ | exact Or.inr ⟨by rfl, rfl⟩) (by assumption) ?_
            (try simp only [Act.put, List.setIfInBounds_toArray, List.set_cons_zero, List.set_cons_succ])
            refine tt_take (i := 15) (v := _) (by rfl) (by decide +kernel) (by exact fun _ _ _ h => h) (by first | exact Or.inl ⟨by rfl, by (intro W hSw; (try dsimp only at hSw); go_simp <;> with_reducible rfl)⟩ | exact Or.inr ⟨by rfl, rfl⟩) (by assumption) ?_
            (try simp only [Act.put, List.setIfInBounds_toArray, List.set_cons_zero, List.set_cons_succ])
            refine tt_take (i := 16) (v := _) (by rfl) (by decide +kernel) (by exact fun _ _ _ h => h) (by first | exact Or.inl ⟨by rfl, by (intro W hSw; have hq1 := keep_cell (p := ⟨gb, go + at2 * 3 + 2, none⟩) hSw m2; go_simp <;> with_reducible rfl)⟩ | exact Or.inr ⟨by rfl, rfl⟩) (by assumption) ?_
            (try simp only [Act.put, List.setIfInBounds_toArray, List.set_cons_zero, List.set_cons_succ])
            refine tt_take (i := 17) (v := _) (by rfl) (by decide +kernel) (by exact fun _ _ _ h => h) (by first | exact Or.inl ⟨by rfl, by (intro W hSw; (try dsimp only at hSw); go_simp <;> with_reducible rfl)⟩ | exact Or.inr ⟨by rfl, rfl⟩) (by assumption) ?_
            (try simp only [Act.put, List.setIfInBounds_toArray, List.set_cons_zero, List.set_cons_succ])
            refine tt_take (i := 18) (v := _) (by rfl) (by decide +kernel) (by exact fun _ _ _ h => h) (by first | exact Or.inl ⟨by rfl, by (intro W hSw; (try dsimp only at hSw); go_simp <;> with_reducible rfl)⟩ | exact Or.inr ⟨by rfl, rfl⟩) (by assumption) ?_
            (try simp only [Act.put, List.setIfInBounds_toArray, List.set_cons_zero, List.set_cons_succ])
            refine tt_take (i := 19) (v := _) (by rfl) (by decide +kernel) (by exact fun _ _ _ h => h) (by first | exact Or.inl ⟨by rfl, by (intro W hSw; (try dsimp only at hSw); go_simp <;> with_reducible rfl)⟩ | exact Or.inr ⟨by rfl, rfl⟩) (by assumption) ?_
            (try simp only [Act.put, List.setIfInBounds_toArray, List.set_cons_zero, List.set_cons_succ])
            refine tt_take (i := 20) (v := _) (by rfl) (by decide +kernel) (by exact fun _ _ _ h => h) (Or.inl ⟨by rfl, by (intro W hSw; (try dsimp only at hSw); go_simp <;> with_reducible rfl)⟩) (by assumption) ?_
            (try simp only [Act.put, List.setIfInBounds_toArray, List.set_cons_zero, List.set_cons_succ])
            refine tt_take (i := 21) (v := _) (by rfl) (by decide +kernel) (by exact fun _ _ _ h => h) (Or.inl ⟨by rfl, by (intro W hSw; (try dsimp only at hSw); go_simp <;> with_reducible rfl)⟩) (by assumption) ?_
            (try simp only [Act.put, List.setIfInBounds_toArray, List.set_cons_zero, List.set_cons_succ])
            refine tt_take (i := 22) (v := _) (by rfl) (by decide +kernel) (by exact fun _ _ _ h => h) (by first | exact Or.inl ⟨by rfl, by (intro W hSw; (try dsimp only at hSw); go_simp <;> with_reducible rfl)⟩ | exact Or.inr ⟨by rfl, rfl⟩) (by assumption) ?_
            (try simp only [Act.put, List.setIfInBounds_toArray, List.set_cons_zero, List.set_cons_succ])
            refine tt_take (i := 23) (v := _) (by rfl) (by decide +kernel) (by exact fun _ _ _ h => h) (by first | exact Or.inl ⟨by rfl, by (intro W hSw; (try dsimp only at hSw); go_simp <;> with_reducible rfl)⟩ | exact Or.inr ⟨by rfl, rfl⟩) (by assumption) ?_
            (try simp only [Act.put, List.setIfInBounds_toArray, List.set_cons_zero, List.set_cons_succ])
            refine tt_take (i := 24) (v := _) (by rfl) (by decide +kernel) (by exact fun _ _ _ h => h) (by first | exact Or.inl ⟨by rfl, by (intro W hSw; (try dsimp only at hSw); go_simp <;> with_reducible rfl)⟩ | exact Or.inr ⟨by rfl, rfl⟩) (by assumption) ?_
            (try simp only [Act.put, List.setIfInBounds_toArray, List.set_cons_zero, List.set_cons_succ])
            refine tt_take (i := 25) (v := _) (by rfl) (by decide +kernel) (by exact fun _ _ _ h => h) (by first | exact Or.inl ⟨by rfl, by (intro W hSw; (try dsimp only at hSw); go_simp <;> with_reducible rfl)⟩ | exact Or.inr ⟨by rfl, rfl⟩) (by assumption) ?_
            (try simp only [Act.put, List.setIfInBounds_toArray, List.set_cons_zero, List.set_cons_succ])
            refine tt_take (i := 26) (v := _) (by rfl) (by decide +kernel) (by exact fun _ _ _ h => h) (by first | exact Or.inl ⟨by rfl, by (intro W hSw; have hq1 := keep_cell (p := ⟨gb, go + at2 * 3 + 1, none⟩) hSw m1; go_simp <;> with_reducible rfl)⟩ | exact Or.inr ⟨by rfl, rfl⟩) (by assumption) ?_
            (try simp only [Act.put, List.setIfInBounds_toArray, List.set_cons_zero, List.set_cons_succ])
            refine tt_ready (rs := [27]) (by decide +kernel) (allT_cons (by rfl) (fun K hK => ?_) allT_nil)
            go_simp
            refine hK.out _ _ (by (exact keep_alloc (by assumption) _)) (fun hHeld4 => ?_)
            clear hK K
            (try simp only [Act.put, List.setIfInBounds_toArray, List.set_cons_zero, List.set_cons_succ])
            refine tt_ready (rs := [28]) (by decide +kernel) (allT_cons (by rfl) (fun K hK => ?_) allT_nil)
            go_simp
            go_at_call 15
            refine hint.out.mono ?_
            rintro e w9 ⟨rfl, z9, rfl⟩
            dsimp only
            refine hK.out _ _ (by (exact (show Below wr.heap.size wr _ from by assumption).drewN z9)) (fun hHeld5 => ?_)
            clear hK K
            (try simp only [Act.put, List.setIfInBounds_toArray, List.set_cons_zero, List.set_cons_succ])
            refine tt_take (i := 29) (v := _) (by rfl) (by decide +kernel) (by exact fun _ _ _ h => h) (by first | exact Or.inl ⟨by rfl, by (intro W hSw; (try dsimp only at hSw); go_simp <;> with_reducible rfl)⟩ | exact Or.inr ⟨by rfl, rfl⟩) (by assumption) ?_
            (try simp only [Act.put, List.setIfInBounds_toArray, List.set_cons_zero, List.set_cons_succ])
            refine tt_tail (by decide +kernel) ?_
            simp only [List.drop_succ_cons, List.drop_zero]
            have B9 := Lib.hid ((keep_alloc (keep_alloc (Below.refl wr.heap.size wr) (.cells #[.int .u8 (97 + (k2 : Int))] 5)) (.cells #[.int .i64 1] 3)).drewN (1 + z9))
            have A9 := Lib.hid (hA.out.all B9.out)
            have H9 := Lib.hid (hH.out.all B9.out)
            have S9 := Lib.hid (hS.out.below B9.out (Nat.le_refl _))
            go_wp2
            go_roundw
            case rel => exact ⟨k2 + 1, by omega, by rw [hup.out]; go_num, by go_num, A9.out, H9.out, S9.out⟩
            case measure => simp [intOf]; omega
          · have hd1 : decide (k2 ∈ ks) = false := by simpa using hm
            rw [hd1] at c4
            have hup := Lib.hid (show (upTo ks (k2 + 1)).length = (upTo ks k2).length by rw [upTo_succ, if_neg hm]; simp)
            clear hd1 hm
            go_wp2
            go_roundw
            case rel => exact ⟨k2 + 1, by omega, by rw [hup.out], by go_num, hA.out, hH.out, hS.out⟩
            case measure => simp [intOf]; omega
        · have haw := Lib.hid (awake6_any wr hA.out.e)
          go_wp2_with fail
          refine haw.out.mono ?_; rintro e w' ⟨rfl, b⟩
          have b' := Lib.hid (hA.out.b.trans (b.mono hA.out.b.size))
          clear b
          go_wp2
          go_ret
          exact ⟨rfl, b'.out⟩
end Go.Proofs.YtpkajhmgkmkcgaaDoor
