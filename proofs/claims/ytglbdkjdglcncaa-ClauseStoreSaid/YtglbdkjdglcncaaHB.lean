/-
  theodoliteref19.Norm: it returns what the program's Norm returns. Condition: fewer than 2^40 elements.
-/
import Derived.Test.YtglbdkjdglcncaaHA
import Derived.Test.YtglbdkjdglcncaaR
import Derived.Test.YtglbdkjdglcncaaTU
namespace Go.Proofs.Ytglbdkjdglcncaa
open Go.RowKit Go.Sort Go.Lib

/-- what Norm returns, as a post -/
def Norm19Post (xs : List Int) (w : World) (e : Ending) (w' : World) : Prop :=
  ∃ a m c, e = .returned (.tuple #[.slice a m c, .bool (alw xs)]) ∧ m ≤ c ∧ c ≤ maxLen ∧ RdI w' a m (nout xs) ∧ (∀ y, a = some y → w.heap.size ≤ y.block) ∧ Below w.heap.size w w'
theorem norm19_bad {xs : List Int} {w W : World} (hb : Below w.heap.size w W) (hf : alw xs = true) :
    Norm19Post xs w (.returned (.tuple #[.slice none 0 0, .bool true])) W := by
  refine ⟨none, 0, 0, by rw [hf], Nat.le_refl _, Nat.zero_le _, ?_, by simp, hb⟩
  unfold nout
  rw [hf]
  exact RdI.nil _ _
theorem size_int (w : World) : (sizeOf 3).run Try.prog w = .ok 1 w := by kernel_rfl
theorem info_int1 : ∃ i : TypeInfo, Try.prog.info? 3 = some i ∧ i.zero = some (.int .i64 0) ∧ i.size = 1 ∧ i.bytes = 8 := by
  cases h : Try.prog.info? 3 with
  | none => exact absurd h (by decide +kernel)
  | some i =>
    have := info_int
    rw [h] at this
    simp at this
    exact ⟨i, rfl, this.1, this.2.1, this.2.2⟩
theorem int_one {xs : List Int} : ∀ u ∈ xs.map (Value.int .i64), u.oneCell' = true := by
  intro u hu
  obtain ⟨x, _, rfl⟩ := List.mem_map.1 hu
  rfl
theorem int_one1 {x : Int} : ∀ u ∈ [Value.int .i64 x], u.oneCell' = true := by
  intro u hu
  obtain rfl := List.mem_singleton.1 hu
  rfl
/-- the row that Norm grows -/
def NRow (w : World) (v : Value) (L : List Int) (W : World) : Prop := OwnC W w.heap.size 3 1 v L.length (L.map (Value.int .i64)) ∧ Below w.heap.size w W
theorem nrow_put {w W : World} {v : Value} {L : List Int} {q : Nat} {x : Int} {n : Nat} (hq : q ≤ L.length) (h : OwnC W w.heap.size 3 1 v n ((L.take q).map (Value.int .i64) ++ [Value.int .i64 x] ++ (L.drop q).map (Value.int .i64))) (hb : Below w.heap.size w W) (hn : n = L.length + 1) : NRow w v (putAt L q x) W := by
  subst hn
  refine ⟨?_, hb⟩
  unfold putAt
  rw [List.map_append, List.map_append, List.map_singleton]
  rw [show (L.take q ++ [x] ++ L.drop q).length = L.length + 1 by simp; omega]
  exact h
set_option maxRecDepth 100000 in
set_option maxHeartbeats 4000000 in
theorem norm19_any (a : Option Addr) (n c : Nat) (xs : List Int) (w : World) (hx : RdI w a n xs) (hn : n < 1099511627776) :
    Calls Try.prog 19 #[.slice a n c] w fun e w' => Norm19Post xs w e w' := by
  have hwf := Lib.hid hx.wf
  have hl := Lib.hid hx.len
  have hx' := Lib.hid hx
  clear hx
  obtain ⟨i0, hi, hz0, hz1, hz2⟩ := info_int1
  go_enter Try.func19, Try.ntmps19
  go_wp2
  go_loopw [2, 3, 4, 5, 6] (fun _ _ v4 i _ wr => ∃ k : Nat, k ≤ n ∧ i = .int .i64 k ∧ Hid (NRow w v4 (nrm (xs.take k)) wr) ∧ Hid (∀ j, j < k → nth xs j ≠ 0)) (fun _ _ _ i _ _ => n - (intOf i).toNat)
  case atStart => exact ⟨0, Nat.zero_le _, rfl, ⟨OwnC.nil _ _ _ _, Below.refl _ _⟩, by intro j hj; omega⟩
  case round =>
    obtain ⟨k, hk, rfl, hR, hnz⟩ := hrel
    obtain ⟨a4, c4, hv4, hc41, hc42⟩ := hR.out.1.slice
    subst hv4
    have hwfL := Lib.hid (show WfI (nrm (xs.take k)) from wf_nrm fun x hx => hwf.out x (List.mem_of_mem_take hx))
    have hLn : (nrm (xs.take k)).length ≤ k := by have := len_nrm (xs.take k); rw [List.length_take] at this; omega
    by_cases hlt : k < n
    · have hxr := Lib.hid (hx'.out.below hR.out.2 (Nat.le_refl _))
      obtain ⟨b1, o1, rfl, h1⟩ := hxr.out.at k hlt
      have hkl : k < xs.length := by rw [hl.out]; exact hlt
      have hz := Lib.hid (fun h => alw_zero hkl h)
      have hold := Lib.hid (fun h => nrm_old hkl h)
      have hnew := Lib.hid (fun h q h1 h2 h3 => nrm_new (q := q) hkl h h1 h2 h3)
      have hnz2 := Lib.hid (fun (h : nth xs k ≠ 0) => show ∀ j, j < k + 1 → nth xs j ≠ 0 from fun j hj => by
        by_cases e : j = k
        · subst e; exact h
        · exact hnz.out j (by omega))
      have hrd := Lib.hid (hR.out.1.rdI hwfL.out).2.1
      have hB := Lib.hid hR.out.2
      have hown := Lib.hid hR.out.1
      generalize nrm (xs.take k) = L at *
      clear hwfL hkl hwf
      generalize nth xs k = x at *
      by_cases hx0 : x = 0
      · have hf := Lib.hid (hz.out hx0)
        subst hx0
        go_wp2
        go_ret2
        exact norm19_bad hB.out hf.out
      have hx0' : (x == 0) = false := by simpa using hx0
      have hnz3 := Lib.hid (hnz2.out hx0)
      have hhas := Lib.hid (has19_any a4 L.length c4 L x wr hrd.out (by omega))
      clear hz hnz2 hx0
      cases hh : hasI L x
      case true =>
        have e := Lib.hid (hold.out hh)
        rw [hh] at hhas
        clear hh hold hnew
        go_wp2_with fail
        refine hhas.out.mono ?_; rintro e w' ⟨rfl, rfl⟩
        go_wp2
        go_roundw
        case rel => exact ⟨k + 1, by omega, by go_num, by rw [e.out]; exact hR.out, hnz3.out⟩
        case measure => simp [intOf]; omega
      case false =>
        have hnew' := Lib.hid (hnew.out hh)
        rw [hh] at hhas
        clear hh hold hnew
        go_wp2_with fail
        refine hhas.out.mono ?_; rintro e w' ⟨rfl, rfl⟩
        go_wp2
        generalize wr = wo at *
        have hbef := Lib.hid (fun y w => before_any x y w)
        have h1' := Lib.hid h1
        clear h1
        go_loopw [6] (fun v6 wr2 => ∃ q z : Nat, q ≤ L.length ∧ v6 = .int .i64 q ∧ wr2 = wo.drewN z ∧ Hid (∀ j, q ≤ j → j < L.length → ltC x (nth L j) = true)) (fun v6 _ => (intOf v6).toNat)
        case atStart => exact ⟨L.length, 0, Nat.le_refl _, rfl, rfl, by intro j h1 h2; omega⟩
        case round =>
          obtain ⟨q, z, hq, rfl, rfl, hgt⟩ := hrel
          have h1 := h1'.out
          have hstop := Lib.hid (fun h => hnew'.out q hq hgt.out h)
          by_cases hq0 : 0 < q
          · obtain ⟨b2, o2, rfl, h2⟩ := hrd.out.at (q - 1) (by omega)
            have hmore := Lib.hid (fun (h : ltC x (nth L (q - 1)) = true) => show ∀ j, q - 1 ≤ j → j < L.length → ltC x (nth L j) = true from fun j h3 h4 => by
              by_cases e : j = q - 1
              · subst e; exact h
              · exact hgt.out j (by omega) h4)
            have hbq := Lib.hid (hbef.out (nth L (q - 1)))
            have hqi : ((q : Int) - 1).toNat = q - 1 := by omega
            cases hb : ltC x (nth L (q - 1))
            · have e := Lib.hid (hstop.out (.inr hb))
              rw [hb] at hbq
              clear hb hmore hstop
              generalize nth L (q - 1) = y at *
              have hvq : ∀ q', Calls Try.prog 30 #[.int .i64 x, .int .i64 y] (wo.drewN q') fun e w' => e = .returned (.bool false) ∧ wo.drewN q' = w' := fun q' => hbq.out _
              go_wp2
              go_quiet ((go_at_call 30; exact (hvq _).mono fun _ _ h => ⟨h.1, _, h.2.symm⟩))
              go_wp2
              have sP := (hrd.out.srcs hq hc41)
              have sT := Lib.hid sP.1
              have sD := Lib.hid sP.2
              have r1 := run_take2 (P := Try.prog) (t := 30) (a := some ⟨b2, o2, none⟩) (c := c4) Try.underlying30 size_int hq hc41
              have r2 := run_from2 (P := Try.prog) (t := 30) (a := some ⟨b2, o2, none⟩) (c := c4) Try.underlying30 size_int hq hc41
              clear sP
              refine wp_region_tt (S := fun W => Below wo.heap.size wo W) 15 (by kernel_rfl) (by kernel_rfl) ⟨rfl, rfl, rfl, Nat.le_refl _, fun _ _ => rfl⟩ (fun _ => ?_)
              have hHeld : Below wo.heap.size wo (wo.drewN (z + nq + 1)) := ⟨rfl, rfl, rfl, Nat.le_refl _, fun _ _ => rfl⟩
              refine tt_take (i := 1) (v := _) (by rfl) (by decide +kernel) (by exact fun _ _ _ h => h) (Or.inl ⟨by rfl, by (intro W hSw; (try dsimp only at hSw); go_simp <;> with_reducible rfl)⟩) (by assumption) ?_
              (try simp only [Act.put, List.setIfInBounds_toArray, List.set_cons_zero, List.set_cons_succ])
              refine tt_take (i := 2) (v := _) (by rfl) (by decide +kernel) (by exact fun _ _ _ h => h) (Or.inl ⟨by rfl, by (intro W hSw; (try dsimp only at hSw); go_simp <;> with_reducible rfl)⟩) (by assumption) ?_
              (try simp only [Act.put, List.setIfInBounds_toArray, List.set_cons_zero, List.set_cons_succ])
              refine tt_take (i := 3) (v := _) (by rfl) (by decide +kernel) (by exact fun _ _ _ h => h) (Or.inl ⟨by rfl, by (intro W hSw; (try dsimp only at hSw); go_simp <;> with_reducible rfl)⟩) (by assumption) ?_
              (try simp only [Act.put, List.setIfInBounds_toArray, List.set_cons_zero, List.set_cons_succ])
              refine tt_take (i := 5) (v := _) (by rfl) (by decide +kernel) (by exact fun _ _ _ h => h) (Or.inl ⟨by rfl, by (intro W hSw; (try dsimp only at hSw); go_simp <;> with_reducible rfl)⟩) (by assumption) ?_
              (try simp only [Act.put, List.setIfInBounds_toArray, List.set_cons_zero, List.set_cons_succ])
              refine tt_take (i := 6) (v := _) (by rfl) (by decide +kernel) (by exact fun _ _ _ h => h) (Or.inl ⟨by rfl, by (intro W hSw; (try dsimp only at hSw); go_simp <;> with_reducible rfl)⟩) (by assumption) ?_
              (try simp only [Act.put, List.setIfInBounds_toArray, List.set_cons_zero, List.set_cons_succ])
              refine tt_take (i := 7) (v := _) (by rfl) (by decide +kernel) (by exact fun _ _ _ h => h) (Or.inl ⟨by rfl, by (intro W hSw; (try dsimp only at hSw); go_simp <;> with_reducible rfl)⟩) (by assumption) ?_
              (try simp only [Act.put, List.setIfInBounds_toArray, List.set_cons_zero, List.set_cons_succ])
              refine tt_take (i := 8) (v := _) (by rfl) (by decide +kernel) (by exact fun _ _ _ h => h) (Or.inl ⟨by rfl, by (intro W hSw; have hq1 := keep_cell (p := ⟨b1, o1 + k, none⟩) hSw h1'.out; go_simp <;> with_reducible rfl)⟩) (by assumption) ?_
              (try simp only [Act.put, List.setIfInBounds_toArray, List.set_cons_zero, List.set_cons_succ])
              refine tt_take (i := 11) (v := _) (by rfl) (by decide +kernel) (by exact fun _ _ _ h => h) (Or.inl ⟨by rfl, by (intro W hSw; (try dsimp only at hSw); go_simp <;> with_reducible rfl)⟩) (by assumption) ?_
              (try simp only [Act.put, List.setIfInBounds_toArray, List.set_cons_zero, List.set_cons_succ])
              refine tt_take (i := 12) (v := _) (by rfl) (by decide +kernel) (by exact fun _ _ _ h => h) (Or.inl ⟨by rfl, by (intro W hSw; (try dsimp only at hSw); go_simp <;> with_reducible rfl)⟩) (by assumption) ?_
              (try simp only [Act.put, List.setIfInBounds_toArray, List.set_cons_zero, List.set_cons_succ])
              refine tt_take (i := 13) (v := _) (by rfl) (by decide +kernel) (by exact fun _ _ _ h => h) (Or.inl ⟨by rfl, by (intro W hSw; (try dsimp only at hSw); go_simp <;> with_reducible rfl)⟩) (by assumption) ?_
              (try simp only [Act.put, List.setIfInBounds_toArray, List.set_cons_zero, List.set_cons_succ])
              refine tt_ready (rs := [0, 9]) (by decide +kernel) (allT_cons (by rfl) (fun K hK => ?_) (allT_cons (by rfl) (fun K hK => ?_) allT_nil))
              · skip
                go_simp
                refine hK.out _ _ (by (exact keep_alloc (by assumption) _)) (fun hHeld2 => ?_)
                clear hK K
                (try simp only [Act.put, List.setIfInBounds_toArray, List.set_cons_zero, List.set_cons_succ])
                refine tt_ready (rs := [4, 9]) (by decide +kernel) (allT_cons (by rfl) (fun K hK => ?_) (allT_cons (by rfl) (fun K hK => ?_) allT_nil))
                · skip
                  refine step_append_C (base := wo.heap.size) (by rfl) (.tmp 43) (.tmp 46) (by rfl) Try.underlying30 hi hz0 hz1 hz2 rfl (by decide) (Eq.refl (Value.slice _ _ _)) (by rfl) (by first | exact OwnC.lit0 (by simp) (by simp) | exact (OwnC.lit0 (by simp) (by simp)).alloc _) (Src.keep sT.out (by assumption)) int_one (by unfold maxLen; omega) (by omega) (Below.size (w := wo) (by assumption)) ?_
                  intro v' w2 ho2 hg2 _
                  rw [Nat.zero_add, List.nil_append] at ho2
                  obtain ⟨a', c', rfl, _, _⟩ := ho2.slice
                  first
                  | have L1 := Lib.hid (CellsF.push (s := wo.heap.size + 1) (us := [Value.int .i64 x]) hg2 (CellsF.lit1 (by simp)) (by simp [Value.ownBlock]))
                  | have L1 := Lib.hid (CellsF.push (s := wo.heap.size) (us := [Value.int .i64 x]) hg2 ((CellsF.lit1 (by simp)).more _) (by simp [Value.ownBlock]))
                  | have L1 := Lib.hid True.intro
                  refine hK.out _ _ (by (exact keep_push (by assumption) hg2 (by intro k hk; simp [Value.ownBlock] at hk; omega))) (fun hHeld3 => ?_)
                  clear hK K
                  (try simp only [Act.put, List.setIfInBounds_toArray, List.set_cons_zero, List.set_cons_succ])
                  refine tt_ready (rs := [9]) (by decide +kernel) (allT_cons (by rfl) (fun K hK => ?_) allT_nil)
                  go_simp
                  refine hK.out _ _ (by (exact keep_alloc (by assumption) _)) (fun hHeld4 => ?_)
                  clear hK K
                  (try simp only [Act.put, List.setIfInBounds_toArray, List.set_cons_zero, List.set_cons_succ])
                  refine tt_ready (rs := [10]) (by decide +kernel) (allT_cons (by rfl) (fun K hK => ?_) allT_nil)
                  refine step_append_C (base := wo.heap.size) (by rfl) (.tmp 47) (.tmp 52) (by rfl) Try.underlying30 hi hz0 hz1 hz2 rfl (by decide) (Eq.refl (Value.slice _ _ _)) (by rfl) (by first | exact ho2 | exact ho2.alloc _) (by first | exact Src.lit L1.out rfl | exact Src.lit (CellsF.lit1 (by first | rfl | simp)) rfl) int_one1 (by unfold maxLen; omega) (by omega) (Below.size (w := wo) (by assumption)) ?_
                  intro v' w3 ho3 hg3 _
                  obtain ⟨a', c', rfl, _, _⟩ := ho3.slice
                  refine hK.out _ _ (by (exact keep_push (by assumption) hg3 (fun k hk => by first | exact (ho2.lt k hk).1 | exact ((ho2.alloc _).lt k hk).1))) (fun hHeld5 => ?_)
                  clear hK K
                  (try simp only [Act.put, List.setIfInBounds_toArray, List.set_cons_zero, List.set_cons_succ])
                  refine tt_ready (rs := [14]) (by decide +kernel) (allT_cons (by rfl) (fun K hK => ?_) allT_nil)
                  refine step_append_C (base := wo.heap.size) (by rfl) (.tmp 53) (.tmp 56) (by rfl) Try.underlying30 hi hz0 hz1 hz2 rfl (by decide) (Eq.refl (Value.slice _ _ _)) (by rfl) ho3 (Src.keep sD.out (by assumption)) int_one (by unfold maxLen; omega) (by omega) (Below.size (w := wo) (by assumption)) ?_
                  intro v' w4 ho4 hg4 _
                  obtain ⟨a', c', rfl, _, _⟩ := ho4.slice
                  refine hK.out _ _ (by (exact keep_push (by assumption) hg4 (fun k hk => (ho3.lt k hk).1))) (fun hHeld6 => ?_)
                  clear hK K
                  (try simp only [Act.put, List.setIfInBounds_toArray, List.set_cons_zero, List.set_cons_succ])
                  refine tt_tail (by decide +kernel) ?_
                  simp only [List.drop_succ_cons, List.drop_zero]
                  have hB4 := hB.out.trans (Below.mono (show Below wo.heap.size wo w4 from by assumption) hB.out.size)
                  have R4 := Lib.hid (nrow_put hq (ho4.lower hB.out.size) hB4 (by omega))
                  rw [← e.out] at R4
                  clear ho2 ho3 ho4 hg2 hg3 hg4 L1 hB4
                  go_wp2
                  go_roundw
                  case rel => exact ⟨k + 1, by omega, by go_num, R4.out, hnz3.out⟩
                  case measure => simp [intOf]; omega
                · skip
                  go_simp
                  refine hK.out _ _ (by (exact keep_alloc (by assumption) _)) (fun hHeld3 => ?_)
                  clear hK K
                  (try simp only [Act.put, List.setIfInBounds_toArray, List.set_cons_zero, List.set_cons_succ])
                  refine tt_ready (rs := [4]) (by decide +kernel) (allT_cons (by rfl) (fun K hK => ?_) allT_nil)
                  refine step_append_C (base := wo.heap.size) (by rfl) (.tmp 43) (.tmp 46) (by rfl) Try.underlying30 hi hz0 hz1 hz2 rfl (by decide) (Eq.refl (Value.slice _ _ _)) (by rfl) (by first | exact OwnC.lit0 (by simp) (by simp) | exact (OwnC.lit0 (by simp) (by simp)).alloc _) (Src.keep sT.out (by assumption)) int_one (by unfold maxLen; omega) (by omega) (Below.size (w := wo) (by assumption)) ?_
                  intro v' w2 ho2 hg2 _
                  rw [Nat.zero_add, List.nil_append] at ho2
                  obtain ⟨a', c', rfl, _, _⟩ := ho2.slice
                  first
                  | have L1 := Lib.hid (CellsF.push (s := wo.heap.size + 1) (us := [Value.int .i64 x]) hg2 (CellsF.lit1 (by simp)) (by simp [Value.ownBlock]))
                  | have L1 := Lib.hid (CellsF.push (s := wo.heap.size) (us := [Value.int .i64 x]) hg2 ((CellsF.lit1 (by simp)).more _) (by simp [Value.ownBlock]))
                  | have L1 := Lib.hid True.intro
                  refine hK.out _ _ (by (exact keep_push (by assumption) hg2 (by intro k hk; simp [Value.ownBlock] at hk; omega))) (fun hHeld4 => ?_)
                  clear hK K
                  (try simp only [Act.put, List.setIfInBounds_toArray, List.set_cons_zero, List.set_cons_succ])
                  refine tt_ready (rs := [10]) (by decide +kernel) (allT_cons (by rfl) (fun K hK => ?_) allT_nil)
                  refine step_append_C (base := wo.heap.size) (by rfl) (.tmp 47) (.tmp 52) (by rfl) Try.underlying30 hi hz0 hz1 hz2 rfl (by decide) (Eq.refl (Value.slice _ _ _)) (by rfl) (by first | exact ho2 | exact ho2.alloc _) (by first | exact Src.lit L1.out rfl | exact Src.lit (CellsF.lit1 (by first | rfl | simp)) rfl) int_one1 (by unfold maxLen; omega) (by omega) (Below.size (w := wo) (by assumption)) ?_
                  intro v' w3 ho3 hg3 _
                  obtain ⟨a', c', rfl, _, _⟩ := ho3.slice
                  refine hK.out _ _ (by (exact keep_push (by assumption) hg3 (fun k hk => by first | exact (ho2.lt k hk).1 | exact ((ho2.alloc _).lt k hk).1))) (fun hHeld5 => ?_)
                  clear hK K
                  (try simp only [Act.put, List.setIfInBounds_toArray, List.set_cons_zero, List.set_cons_succ])
                  refine tt_ready (rs := [14]) (by decide +kernel) (allT_cons (by rfl) (fun K hK => ?_) allT_nil)
                  refine step_append_C (base := wo.heap.size) (by rfl) (.tmp 53) (.tmp 56) (by rfl) Try.underlying30 hi hz0 hz1 hz2 rfl (by decide) (Eq.refl (Value.slice _ _ _)) (by rfl) ho3 (Src.keep sD.out (by assumption)) int_one (by unfold maxLen; omega) (by omega) (Below.size (w := wo) (by assumption)) ?_
                  intro v' w4 ho4 hg4 _
                  obtain ⟨a', c', rfl, _, _⟩ := ho4.slice
                  refine hK.out _ _ (by (exact keep_push (by assumption) hg4 (fun k hk => (ho3.lt k hk).1))) (fun hHeld6 => ?_)
                  clear hK K
                  (try simp only [Act.put, List.setIfInBounds_toArray, List.set_cons_zero, List.set_cons_succ])
                  refine tt_tail (by decide +kernel) ?_
                  simp only [List.drop_succ_cons, List.drop_zero]
                  have hB4 := hB.out.trans (Below.mono (show Below wo.heap.size wo w4 from by assumption) hB.out.size)
                  have R4 := Lib.hid (nrow_put hq (ho4.lower hB.out.size) hB4 (by omega))
                  rw [← e.out] at R4
                  clear ho2 ho3 ho4 hg2 hg3 hg4 L1 hB4
                  go_wp2
                  go_roundw
                  case rel => exact ⟨k + 1, by omega, by go_num, R4.out, hnz3.out⟩
                  case measure => simp [intOf]; omega
              · skip
                go_simp
                refine hK.out _ _ (by (exact keep_alloc (by assumption) _)) (fun hHeld2 => ?_)
                clear hK K
                (try simp only [Act.put, List.setIfInBounds_toArray, List.set_cons_zero, List.set_cons_succ])
                refine tt_ready (rs := [0]) (by decide +kernel) (allT_cons (by rfl) (fun K hK => ?_) allT_nil)
                go_simp
                refine hK.out _ _ (by (exact keep_alloc (by assumption) _)) (fun hHeld3 => ?_)
                clear hK K
                (try simp only [Act.put, List.setIfInBounds_toArray, List.set_cons_zero, List.set_cons_succ])
                refine tt_ready (rs := [4]) (by decide +kernel) (allT_cons (by rfl) (fun K hK => ?_) allT_nil)
                refine step_append_C (base := wo.heap.size) (by rfl) (.tmp 43) (.tmp 46) (by rfl) Try.underlying30 hi hz0 hz1 hz2 rfl (by decide) (Eq.refl (Value.slice _ _ _)) (by rfl) (by first | exact OwnC.lit0 (by simp) (by simp) | exact (OwnC.lit0 (by simp) (by simp)).alloc _) (Src.keep sT.out (by assumption)) int_one (by unfold maxLen; omega) (by omega) (Below.size (w := wo) (by assumption)) ?_
                intro v' w2 ho2 hg2 _
                rw [Nat.zero_add, List.nil_append] at ho2
                obtain ⟨a', c', rfl, _, _⟩ := ho2.slice
                first
                | have L1 := Lib.hid (CellsF.push (s := wo.heap.size + 1) (us := [Value.int .i64 x]) hg2 (CellsF.lit1 (by simp)) (by simp [Value.ownBlock]))
                | have L1 := Lib.hid (CellsF.push (s := wo.heap.size) (us := [Value.int .i64 x]) hg2 ((CellsF.lit1 (by simp)).more _) (by simp [Value.ownBlock]))
                | have L1 := Lib.hid True.intro
                refine hK.out _ _ (by (exact keep_push (by assumption) hg2 (by intro k hk; simp [Value.ownBlock] at hk; omega))) (fun hHeld4 => ?_)
                clear hK K
                (try simp only [Act.put, List.setIfInBounds_toArray, List.set_cons_zero, List.set_cons_succ])
                refine tt_ready (rs := [10]) (by decide +kernel) (allT_cons (by rfl) (fun K hK => ?_) allT_nil)
                refine step_append_C (base := wo.heap.size) (by rfl) (.tmp 47) (.tmp 52) (by rfl) Try.underlying30 hi hz0 hz1 hz2 rfl (by decide) (Eq.refl (Value.slice _ _ _)) (by rfl) (by first | exact ho2 | exact ho2.alloc _) (by first | exact Src.lit L1.out rfl | exact Src.lit (CellsF.lit1 (by first | rfl | simp)) rfl) int_one1 (by unfold maxLen; omega) (by omega) (Below.size (w := wo) (by assumption)) ?_
                intro v' w3 ho3 hg3 _
                obtain ⟨a', c', rfl, _, _⟩ := ho3.slice
                refine hK.out _ _ (by (exact keep_push (by assumption) hg3 (fun k hk => by first | exact (ho2.lt k hk).1 | exact ((ho2.alloc _).lt k hk).1))) (fun hHeld5 => ?_)
                clear hK K
                (try simp only [Act.put, List.setIfInBounds_toArray, List.set_cons_zero, List.set_cons_succ])
                refine tt_ready (rs := [14]) (by decide +kernel) (allT_cons (by rfl) (fun K hK => ?_) allT_nil)
                refine step_append_C (base := wo.heap.size) (by rfl) (.tmp 53) (.tmp 56) (by rfl) Try.underlying30 hi hz0 hz1 hz2 rfl (by decide) (Eq.refl (Value.slice _ _ _)) (by rfl) ho3 (Src.keep sD.out (by assumption)) int_one (by unfold maxLen; omega) (by omega) (Below.size (w := wo) (by assumption)) ?_
                intro v' w4 ho4 hg4 _
                obtain ⟨a', c', rfl, _, _⟩ := ho4.slice
                refine hK.out _ _ (by (exact keep_push (by assumption) hg4 (fun k hk => (ho3.lt k hk).1))) (fun hHeld6 => ?_)
                clear hK K
                (try simp only [Act.put, List.setIfInBounds_toArray, List.set_cons_zero, List.set_cons_succ])
                refine tt_tail (by decide +kernel) ?_
                simp only [List.drop_succ_cons, List.drop_zero]
                have hB4 := hB.out.trans (Below.mono (show Below wo.heap.size wo w4 from by assumption) hB.out.size)
                have R4 := Lib.hid (nrow_put hq (ho4.lower hB.out.size) hB4 (by omega))
                rw [← e.out] at R4
                clear ho2 ho3 ho4 hg2 hg3 hg4 L1 hB4
                go_wp2
                go_roundw
                case rel => exact ⟨k + 1, by omega, by go_num, R4.out, hnz3.out⟩
                case measure => simp [intOf]; omega
            · have e := Lib.hid (hmore.out hb)
              rw [hb] at hbq
              clear hb hmore hstop
              generalize nth L (q - 1) = y at *
              have hvq : ∀ q', Calls Try.prog 30 #[.int .i64 x, .int .i64 y] (wo.drewN q') fun e w' => e = .returned (.bool true) ∧ wo.drewN q' = w' := fun q' => hbq.out _
              go_wp2
              go_quiet ((go_at_call 30; exact (hvq _).mono fun _ _ h => ⟨h.1, _, h.2.symm⟩))
              go_wp2
              go_roundw
              case rel => exact ⟨q - 1, _, by omega, by go_num, rfl, e.out⟩
              case measure => simp [intOf]; omega
          · have e := Lib.hid (hstop.out (.inl (by omega)))
            have hq1 : ¬ (0 : Int) < q := by omega
            clear hstop
            go_wp2
            go_quiet (fail)
            go_wp2
            have sP := (hrd.out.srcs hq hc41)
            have sT := Lib.hid sP.1
            have sD := Lib.hid sP.2
            have r1 := run_take2 (P := Try.prog) (t := 30) (a := a4) (c := c4) Try.underlying30 size_int hq hc41
            have r2 := run_from2 (P := Try.prog) (t := 30) (a := a4) (c := c4) Try.underlying30 size_int hq hc41
            clear sP
            refine wp_region_tt (S := fun W => Below wo.heap.size wo W) 15 (by kernel_rfl) (by kernel_rfl) ⟨rfl, rfl, rfl, Nat.le_refl _, fun _ _ => rfl⟩ (fun _ => ?_)
            have hHeld : Below wo.heap.size wo (wo.drewN (z + nq + 1)) := ⟨rfl, rfl, rfl, Nat.le_refl _, fun _ _ => rfl⟩
            refine tt_take (i := 1) (v := _) (by rfl) (by decide +kernel) (by exact fun _ _ _ h => h) (Or.inl ⟨by rfl, by (intro W hSw; (try dsimp only at hSw); go_simp <;> with_reducible rfl)⟩) (by assumption) ?_
            (try simp only [Act.put, List.setIfInBounds_toArray, List.set_cons_zero, List.set_cons_succ])
            refine tt_take (i := 2) (v := _) (by rfl) (by decide +kernel) (by exact fun _ _ _ h => h) (Or.inl ⟨by rfl, by (intro W hSw; (try dsimp only at hSw); go_simp <;> with_reducible rfl)⟩) (by assumption) ?_
            (try simp only [Act.put, List.setIfInBounds_toArray, List.set_cons_zero, List.set_cons_succ])
            refine tt_take (i := 3) (v := _) (by rfl) (by decide +kernel) (by exact fun _ _ _ h => h) (Or.inl ⟨by rfl, by (intro W hSw; (try dsimp only at hSw); go_simp <;> with_reducible rfl)⟩) (by assumption) ?_
            (try simp only [Act.put, List.setIfInBounds_toArray, List.set_cons_zero, List.set_cons_succ])
            refine tt_take (i := 5) (v := _) (by rfl) (by decide +kernel) (by exact fun _ _ _ h => h) (Or.inl ⟨by rfl, by (intro W hSw; (try dsimp only at hSw); go_simp <;> with_reducible rfl)⟩) (by assumption) ?_
            (try simp only [Act.put, List.setIfInBounds_toArray, List.set_cons_zero, List.set_cons_succ])
            refine tt_take (i := 6) (v := _) (by rfl) (by decide +kernel) (by exact fun _ _ _ h => h) (Or.inl ⟨by rfl, by (intro W hSw; (try dsimp only at hSw); go_simp <;> with_reducible rfl)⟩) (by assumption) ?_
            (try simp only [Act.put, List.setIfInBounds_toArray, List.set_cons_zero, List.set_cons_succ])
            refine tt_take (i := 7) (v := _) (by rfl) (by decide +kernel) (by exact fun _ _ _ h => h) (Or.inl ⟨by rfl, by (intro W hSw; (try dsimp only at hSw); go_simp <;> with_reducible rfl)⟩) (by assumption) ?_
            (try simp only [Act.put, List.setIfInBounds_toArray, List.set_cons_zero, List.set_cons_succ])
            refine tt_take (i := 8) (v := _) (by rfl) (by decide +kernel) (by exact fun _ _ _ h => h) (Or.inl ⟨by rfl, by (intro W hSw; have hq1 := keep_cell (p := ⟨b1, o1 + k, none⟩) hSw h1'.out; go_simp <;> with_reducible rfl)⟩) (by assumption) ?_
            (try simp only [Act.put, List.setIfInBounds_toArray, List.set_cons_zero, List.set_cons_succ])
            refine tt_take (i := 11) (v := _) (by rfl) (by decide +kernel) (by exact fun _ _ _ h => h) (Or.inl ⟨by rfl, by (intro W hSw; (try dsimp only at hSw); go_simp <;> with_reducible rfl)⟩) (by assumption) ?_
            (try simp only [Act.put, List.setIfInBounds_toArray, List.set_cons_zero, List.set_cons_succ])
            refine tt_take (i := 12) (v := _) (by rfl) (by decide +kernel) (by exact fun _ _ _ h => h) (Or.inl ⟨by rfl, by (intro W hSw; (try dsimp only at hSw); go_simp <;> with_reducible rfl)⟩) (by assumption) ?_
            (try simp only [Act.put, List.setIfInBounds_toArray, List.set_cons_zero, List.set_cons_succ])
            refine tt_take (i := 13) (v := _) (by rfl) (by decide +kernel) (by exact fun _ _ _ h => h) (Or.inl ⟨by rfl, by (intro W hSw; (try dsimp only at hSw); go_simp <;> with_reducible rfl)⟩) (by assumption) ?_
            (try simp only [Act.put, List.setIfInBounds_toArray, List.set_cons_zero, List.set_cons_succ])
            refine tt_ready (rs := [0, 9]) (by decide +kernel) (allT_cons (by rfl) (fun K hK => ?_) (allT_cons (by rfl) (fun K hK => ?_) allT_nil))
            · skip
              go_simp
              refine hK.out _ _ (by (exact keep_alloc (by assumption) _)) (fun hHeld2 => ?_)
              clear hK K
              (try simp only [Act.put, List.setIfInBounds_toArray, List.set_cons_zero, List.set_cons_succ])
              refine tt_ready (rs := [4, 9]) (by decide +kernel) (allT_cons (by rfl) (fun K hK => ?_) (allT_cons (by rfl) (fun K hK => ?_) allT_nil))
              · skip
                refine step_append_C (base := wo.heap.size) (by rfl) (.tmp 43) (.tmp 46) (by rfl) Try.underlying30 hi hz0 hz1 hz2 rfl (by decide) (Eq.refl (Value.slice _ _ _)) (by rfl) (by first | exact OwnC.lit0 (by simp) (by simp) | exact (OwnC.lit0 (by simp) (by simp)).alloc _) (Src.keep sT.out (by assumption)) int_one (by unfold maxLen; omega) (by omega) (Below.size (w := wo) (by assumption)) ?_
                intro v' w2 ho2 hg2 _
                rw [Nat.zero_add, List.nil_append] at ho2
                obtain ⟨a', c', rfl, _, _⟩ := ho2.slice
                first
                | have L1 := Lib.hid (CellsF.push (s := wo.heap.size + 1) (us := [Value.int .i64 x]) hg2 (CellsF.lit1 (by simp)) (by simp [Value.ownBlock]))
                | have L1 := Lib.hid (CellsF.push (s := wo.heap.size) (us := [Value.int .i64 x]) hg2 ((CellsF.lit1 (by simp)).more _) (by simp [Value.ownBlock]))
                | have L1 := Lib.hid True.intro
                refine hK.out _ _ (by (exact keep_push (by assumption) hg2 (by intro k hk; simp [Value.ownBlock] at hk; omega))) (fun hHeld3 => ?_)
                clear hK K
                (try simp only [Act.put, List.setIfInBounds_toArray, List.set_cons_zero, List.set_cons_succ])
                refine tt_ready (rs := [9]) (by decide +kernel) (allT_cons (by rfl) (fun K hK => ?_) allT_nil)
                go_simp
                refine hK.out _ _ (by (exact keep_alloc (by assumption) _)) (fun hHeld4 => ?_)
                clear hK K
                (try simp only [Act.put, List.setIfInBounds_toArray, List.set_cons_zero, List.set_cons_succ])
                refine tt_ready (rs := [10]) (by decide +kernel) (allT_cons (by rfl) (fun K hK => ?_) allT_nil)
                refine step_append_C (base := wo.heap.size) (by rfl) (.tmp 47) (.tmp 52) (by rfl) Try.underlying30 hi hz0 hz1 hz2 rfl (by decide) (Eq.refl (Value.slice _ _ _)) (by rfl) (by first | exact ho2 | exact ho2.alloc _) (by first | exact Src.lit L1.out rfl | exact Src.lit (CellsF.lit1 (by first | rfl | simp)) rfl) int_one1 (by unfold maxLen; omega) (by omega) (Below.size (w := wo) (by assumption)) ?_
                intro v' w3 ho3 hg3 _
                obtain ⟨a', c', rfl, _, _⟩ := ho3.slice
                refine hK.out _ _ (by (exact keep_push (by assumption) hg3 (fun k hk => by first | exact (ho2.lt k hk).1 | exact ((ho2.alloc _).lt k hk).1))) (fun hHeld5 => ?_)
                clear hK K
                (try simp only [Act.put, List.setIfInBounds_toArray, List.set_cons_zero, List.set_cons_succ])
                refine tt_ready (rs := [14]) (by decide +kernel) (allT_cons (by rfl) (fun K hK => ?_) allT_nil)
                refine step_append_C (base := wo.heap.size) (by rfl) (.tmp 53) (.tmp 56) (by rfl) Try.underlying30 hi hz0 hz1 hz2 rfl (by decide) (Eq.refl (Value.slice _ _ _)) (by rfl) ho3 (Src.keep sD.out (by assumption)) int_one (by unfold maxLen; omega) (by omega) (Below.size (w := wo) (by assumption)) ?_
                intro v' w4 ho4 hg4 _
                obtain ⟨a', c', rfl, _, _⟩ := ho4.slice
                refine hK.out _ _ (by (exact keep_push (by assumption) hg4 (fun k hk => (ho3.lt k hk).1))) (fun hHeld6 => ?_)
                clear hK K
                (try simp only [Act.put, List.setIfInBounds_toArray, List.set_cons_zero, List.set_cons_succ])
                refine tt_tail (by decide +kernel) ?_
                simp only [List.drop_succ_cons, List.drop_zero]
                have hB4 := hB.out.trans (Below.mono (show Below wo.heap.size wo w4 from by assumption) hB.out.size)
                have R4 := Lib.hid (nrow_put hq (ho4.lower hB.out.size) hB4 (by omega))
                rw [← e.out] at R4
                clear ho2 ho3 ho4 hg2 hg3 hg4 L1 hB4
                go_wp2
                go_roundw
                case rel => exact ⟨k + 1, by omega, by go_num, R4.out, hnz3.out⟩
                case measure => simp [intOf]; omega
              · skip
                go_simp
                refine hK.out _ _ (by (exact keep_alloc (by assumption) _)) (fun hHeld3 => ?_)
                clear hK K
                (try simp only [Act.put, List.setIfInBounds_toArray, List.set_cons_zero, List.set_cons_succ])
                refine tt_ready (rs := [4]) (by decide +kernel) (allT_cons (by rfl) (fun K hK => ?_) allT_nil)
                refine step_append_C (base := wo.heap.size) (by rfl) (.tmp 43) (.tmp 46) (by rfl) Try.underlying30 hi hz0 hz1 hz2 rfl (by decide) (Eq.refl (Value.slice _ _ _)) (by rfl) (by first | exact OwnC.lit0 (by simp) (by simp) | exact (OwnC.lit0 (by simp) (by simp)).alloc _) (Src.keep sT.out (by assumption)) int_one (by unfold maxLen; omega) (by omega) (Below.size (w := wo) (by assumption)) ?_
                intro v' w2 ho2 hg2 _
                rw [Nat.zero_add, List.nil_append] at ho2
                obtain ⟨a', c', rfl, _, _⟩ := ho2.slice
                first
                | have L1 := Lib.hid (CellsF.push (s := wo.heap.size + 1) (us := [Value.int .i64 x]) hg2 (CellsF.lit1 (by simp)) (by simp [Value.ownBlock]))
                | have L1 := Lib.hid (CellsF.push (s := wo.heap.size) (us := [Value.int .i64 x]) hg2 ((CellsF.lit1 (by simp)).more _) (by simp [Value.ownBlock]))
                | have L1 := Lib.hid True.intro
                refine hK.out _ _ (by (exact keep_push (by assumption) hg2 (by intro k hk; simp [Value.ownBlock] at hk; omega))) (fun hHeld4 => ?_)
                clear hK K
                (try simp only [Act.put, List.setIfInBounds_toArray, List.set_cons_zero, List.set_cons_succ])
                refine tt_ready (rs := [10]) (by decide +kernel) (allT_cons (by rfl) (fun K hK => ?_) allT_nil)
                refine step_append_C (base := wo.heap.size) (by rfl) (.tmp 47) (.tmp 52) (by rfl) Try.underlying30 hi hz0 hz1 hz2 rfl (by decide) (Eq.refl (Value.slice _ _ _)) (by rfl) (by first | exact ho2 | exact ho2.alloc _) (by first | exact Src.lit L1.out rfl | exact Src.lit (CellsF.lit1 (by first | rfl | simp)) rfl) int_one1 (by unfold maxLen; omega) (by omega) (Below.size (w := wo) (by assumption)) ?_
                intro v' w3 ho3 hg3 _
                obtain ⟨a', c', rfl, _, _⟩ := ho3.slice
                refine hK.out _ _ (by (exact keep_push (by assumption) hg3 (fun k hk => by first | exact (ho2.lt k hk).1 | exact ((ho2.alloc _).lt k hk).1))) (fun hHeld5 => ?_)
                clear hK K
                (try simp only [Act.put, List.setIfInBounds_toArray, List.set_cons_zero, List.set_cons_succ])
                refine tt_ready (rs := [14]) (by decide +kernel) (allT_cons (by rfl) (fun K hK => ?_) allT_nil)
                refine step_append_C (base := wo.heap.size) (by rfl) (.tmp 53) (.tmp 56) (by rfl) Try.underlying30 hi hz0 hz1 hz2 rfl (by decide) (Eq.refl (Value.slice _ _ _)) (by rfl) ho3 (Src.keep sD.out (by assumption)) int_one (by unfold maxLen; omega) (by omega) (Below.size (w := wo) (by assumption)) ?_
                intro v' w4 ho4 hg4 _
                obtain ⟨a', c', rfl, _, _⟩ := ho4.slice
                refine hK.out _ _ (by (exact keep_push (by assumption) hg4 (fun k hk => (ho3.lt k hk).1))) (fun hHeld6 => ?_)
                clear hK K
                (try simp only [Act.put, List.setIfInBounds_toArray, List.set_cons_zero, List.set_cons_succ])
                refine tt_tail (by decide +kernel) ?_
                simp only [List.drop_succ_cons, List.drop_zero]
                have hB4 := hB.out.trans (Below.mono (show Below wo.heap.size wo w4 from by assumption) hB.out.size)
                have R4 := Lib.hid (nrow_put hq (ho4.lower hB.out.size) hB4 (by omega))
                rw [← e.out] at R4
                clear ho2 ho3 ho4 hg2 hg3 hg4 L1 hB4
                go_wp2
                go_roundw
                case rel => exact ⟨k + 1, by omega, by go_num, R4.out, hnz3.out⟩
                case measure => simp [intOf]; omega
            · skip
              go_simp
              refine hK.out _ _ (by (exact keep_alloc (by assumption) _)) (fun hHeld2 => ?_)
              clear hK K
              (try simp only [Act.put, List.setIfInBounds_toArray, List.set_cons_zero, List.set_cons_succ])
              refine tt_ready (rs := [0]) (by decide +kernel) (allT_cons (by rfl) (fun K hK => ?_) allT_nil)
              go_simp
              refine hK.out _ _ (by (exact keep_alloc (by assumption) _)) (fun hHeld3 => ?_)
              clear hK K
              (try simp only [Act.put, List.setIfInBounds_toArray, List.set_cons_zero, List.set_cons_succ])
              refine tt_ready (rs := [4]) (by decide +kernel) (allT_cons (by rfl) (fun K hK => ?_) allT_nil)
              refine step_append_C (base := wo.heap.size) (by rfl) (.tmp 43) (.tmp 46) (by rfl) Try.underlying30 hi hz0 hz1 hz2 rfl (by decide) (Eq.refl (Value.slice _ _ _)) (by rfl) (by first | exact OwnC.lit0 (by simp) (by simp) | exact (OwnC.lit0 (by simp) (by simp)).alloc _) (Src.keep sT.out (by assumption)) int_one (by unfold maxLen; omega) (by omega) (Below.size (w := wo) (by assumption)) ?_
              intro v' w2 ho2 hg2 _
              rw [Nat.zero_add, List.nil_append] at ho2
              obtain ⟨a', c', rfl, _, _⟩ := ho2.slice
              first
              | have L1 := Lib.hid (CellsF.push (s := wo.heap.size + 1) (us := [Value.int .i64 x]) hg2 (CellsF.lit1 (by simp)) (by simp [Value.ownBlock]))
              | have L1 := Lib.hid (CellsF.push (s := wo.heap.size) (us := [Value.int .i64 x]) hg2 ((CellsF.lit1 (by simp)).more _) (by simp [Value.ownBlock]))
              | have L1 := Lib.hid True.intro
              refine hK.out _ _ (by (exact keep_push (by assumption) hg2 (by intro k hk; simp [Value.ownBlock] at hk; omega))) (fun hHeld4 => ?_)
              clear hK K
              (try simp only [Act.put, List.setIfInBounds_toArray, List.set_cons_zero, List.set_cons_succ])
              refine tt_ready (rs := [10]) (by decide +kernel) (allT_cons (by rfl) (fun K hK => ?_) allT_nil)
              refine step_append_C (base := wo.heap.size) (by rfl) (.tmp 47) (.tmp 52) (by rfl) Try.underlying30 hi hz0 hz1 hz2 rfl (by decide) (Eq.refl (Value.slice _ _ _)) (by rfl) (by first | exact ho2 | exact ho2.alloc _) (by first | exact Src.lit L1.out rfl | exact Src.lit (CellsF.lit1 (by first | rfl | simp)) rfl) int_one1 (by unfold maxLen; omega) (by omega) (Below.size (w := wo) (by assumption)) ?_
              intro v' w3 ho3 hg3 _
              obtain ⟨a', c', rfl, _, _⟩ := ho3.slice
              refine hK.out _ _ (by (exact keep_push (by assumption) hg3 (fun k hk => by first | exact (ho2.lt k hk).1 | exact ((ho2.alloc _).lt k hk).1))) (fun hHeld5 => ?_)
              clear hK K
              (try simp only [Act.put, List.setIfInBounds_toArray, List.set_cons_zero, List.set_cons_succ])
              refine tt_ready (rs := [14]) (by decide +kernel) (allT_cons (by rfl) (fun K hK => ?_) allT_nil)
              refine step_append_C (base := wo.heap.size) (by rfl) (.tmp 53) (.tmp 56) (by rfl) Try.underlying30 hi hz0 hz1 hz2 rfl (by decide) (Eq.refl (Value.slice _ _ _)) (by rfl) ho3 (Src.keep sD.out (by assumption)) int_one (by unfold maxLen; omega) (by omega) (Below.size (w := wo) (by assumption)) ?_
              intro v' w4 ho4 hg4 _
              obtain ⟨a', c', rfl, _, _⟩ := ho4.slice
              refine hK.out _ _ (by (exact keep_push (by assumption) hg4 (fun k hk => (ho3.lt k hk).1))) (fun hHeld6 => ?_)
              clear hK K
              (try simp only [Act.put, List.setIfInBounds_toArray, List.set_cons_zero, List.set_cons_succ])
              refine tt_tail (by decide +kernel) ?_
              simp only [List.drop_succ_cons, List.drop_zero]
              have hB4 := hB.out.trans (Below.mono (show Below wo.heap.size wo w4 from by assumption) hB.out.size)
              have R4 := Lib.hid (nrow_put hq (ho4.lower hB.out.size) hB4 (by omega))
              rw [← e.out] at R4
              clear ho2 ho3 ho4 hg2 hg3 hg4 L1 hB4
              go_wp2
              go_roundw
              case rel => exact ⟨k + 1, by omega, by go_num, R4.out, hnz3.out⟩
              case measure => simp [intOf]; omega
    · obtain rfl : k = n := by omega
      have htk : xs.take k = xs := by rw [← hl.out, List.take_length]
      rw [htk] at hR hwfL hLn hc41 ⊢
      have hrd := Lib.hid (hR.out.1.rdI hwfL.out).2.1
      have hfr := Lib.hid (hR.out.1.rdI hwfL.out).2.2
      have hB := Lib.hid hR.out.2
      have hop := Lib.hid (fun j (hj : j < (nrm xs).length) => badAt_opp hj (fun i hi => hnz.out i (by have := hl.out; omega)))
      have hm := @Lib.hid (∀ (q : Nat) (w' : World), (∀ j, j < (nrm xs).length → badAt (nrm xs) j = false) → w' = wr.drewN q → Norm19Post xs w (.returned (.tuple #[.slice a4 (nrm xs).length c4, .bool false])) w') (fun q w' h hw => by
        have hf : alw xs = false := bad_none h
        subst hw
        refine ⟨a4, (nrm xs).length, c4, by rw [hf], hc41, hc42, ?_, hfr.out, hB.out.drewN q⟩
        unfold nout
        rw [hf]
        exact hrd.out.drewN q)
      have hopc := Lib.hid (fun x y w => opposite_any x y w)
      clear hR hwfL hnz hfr htk hwf
      obtain ⟨L, hL⟩ : ∃ L, L = nrm xs := ⟨_, rfl⟩
      rw [← hL] at hrd hop hm hc41 hLn ⊢
      have hL' := Lib.hid hL
      clear hL
      go_wp2
      generalize wr = wo at *
      go_loopw [2, 3, 7] (fun _ _ v7 wr2 => ∃ q z : Nat, 0 < q ∧ (q ≤ L.length ∨ q = 1) ∧ v7 = .int .i64 q ∧ wr2 = wo.drewN z ∧ Hid (∀ j, j < q → j < L.length → badAt L j = false)) (fun _ _ v7 _ => L.length - (intOf v7).toNat)
      case atStart => exact ⟨1, 0, by omega, .inr rfl, rfl, rfl, by intro j h1 h2; obtain rfl : j = 0 := by omega
                                                                    rw [hop.out _ h2]; rfl⟩
      case round =>
        obtain ⟨q, z, hq0, hq, rfl, rfl, hok⟩ := hrel
        by_cases hlt : q < L.length
        · obtain ⟨b2, o2, rfl, h2⟩ := hrd.out.at q hlt
          obtain ⟨_, _, e2, h3⟩ := hrd.out.at (q - 1) (by omega)
          cases e2
          have hqi : ((q : Int) - 1).toNat = q - 1 := by omega
          have hbo : badAt L q = oppB (nth L (q - 1)) (nth L q) := by rw [hop.out _ hlt]; simp [hq0]
          have hnext := Lib.hid (fun (h : badAt L q = false) => show ∀ j, j < q + 1 → j < L.length → badAt L j = false from fun j h4 h5 => by
            by_cases e : j = q
            · subst e; exact h
            · exact hok.out j (by omega) h5)
          have hbad := Lib.hid (fun (h : badAt L q = true) => show alw xs = true from by rw [hL'.out] at hlt h; exact bad_some hlt h)
          have hoq := Lib.hid (hopc.out (nth L (q - 1)) (nth L q))
          rw [← hbo] at hoq
          clear hbo
          generalize nth L (q - 1) = y at *
          generalize nth L q = x at *
          cases hb : badAt L q
          · have e := Lib.hid (hnext.out hb)
            rw [hb] at hoq
            clear hb hnext hbad
            have hvq : ∀ q', Calls Try.prog 31 #[.int .i64 y, .int .i64 x] (wo.drewN q') fun e w' => e = .returned (.bool false) ∧ wo.drewN q' = w' := fun q' => hoq.out _
            go_wp2
            go_quiet ((go_at_call 31; exact (hvq _).mono fun _ _ h => ⟨h.1, _, h.2.symm⟩))
            go_wp2
            go_roundw
            case rel => exact ⟨q + 1, _, by omega, .inl (by omega), by go_num, rfl, e.out⟩
            case measure => simp [intOf]; omega
          · have e := Lib.hid (hbad.out hb)
            rw [hb] at hoq
            clear hb hnext hbad
            have hvq : ∀ q', Calls Try.prog 31 #[.int .i64 y, .int .i64 x] (wo.drewN q') fun e w' => e = .returned (.bool true) ∧ wo.drewN q' = w' := fun q' => hoq.out _
            go_wp2
            go_quiet ((go_at_call 31; exact (hvq _).mono fun _ _ h => ⟨h.1, _, h.2.symm⟩))
            go_wp2
            go_ret2
            exact norm19_bad ((hB.out.drewN _).drewN _) e.out
        · go_wp2
          go_ret2
          exact hm.out _ _ (fun j hj => hok.out j (by omega) hj) rfl
end Go.Proofs.Ytglbdkjdglcncaa
