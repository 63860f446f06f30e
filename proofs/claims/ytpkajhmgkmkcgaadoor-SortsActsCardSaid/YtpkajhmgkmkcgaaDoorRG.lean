/-
  theodoliteref6.Sorts: All. Conditions: a table in memory of fewer than 2^40 entries.
-/
import Derived.Test.YtpkajhmgkmkcgaaDoorRF
import Derived.Test.YtpkajhmgkmkcgaaDoorSJ
namespace Go.Proofs.YtpkajhmgkmkcgaaDoor
open Go.RowKit Go.Sort Go.Lib
variable {X : Nat → Prop}

theorem ltS_ntrans {a b c : ByteArray} (h1 : ltS a b = false) (h2 : ltS b c = false) : ltS a c = false := by
  rw [ltS_eq] at *
  exact swo_ltStr.ntrans _ _ _ h1 h2
theorem gtS_eq (f g : ByteArray) : (!Op.bytesLess g.toList f.toList && !g.toList == f.toList) = ltS f g := by
  cases h1 : Op.bytesLess g.toList f.toList
  · cases h2 : ltS f g
    · have := bytesLess_tot h1 h2
      rw [this]; simp
    · have hne : ¬ g.toList = f.toList := fun e => by
        have h3 : Op.bytesLess f.toList g.toList = true := h2
        rw [e] at h1 h3
        rw [h1] at h3; cases h3
      simp [hne]
  · have : ltS f g = false := ltS_asymm h1
    rw [this]; rfl
/-- put where it belongs -/
theorem byName_put {gs : List FunD} {f : FunD} {j : Nat} (hj : j ≤ gs.length) (hn : ByName gs) (hge : ∀ i g, j ≤ i → gs[i]? = some g → ltS f.name g.name = true) (hlt : ∀ i g, i + 1 = j → gs[i]? = some g → ltS f.name g.name = false) : ByName (gs.take j ++ [f] ++ gs.drop j) := by
  have hat := List.pairwise_iff_getElem.1 hn
  have hback : ∀ a ∈ gs.take j, ltS f.name a.name = false := fun a ha => by
    obtain ⟨i, hi, rfl⟩ := List.getElem_of_mem ha
    rw [List.length_take] at hi
    rw [List.getElem_take]
    have hj1 : j - 1 < gs.length := by omega
    have h1 := hlt (j - 1) gs[j - 1] (by omega) (List.getElem?_eq_getElem hj1)
    by_cases hij : i = j - 1
    · subst hij; exact h1
    · exact ltS_ntrans h1 (hat i (j - 1) (by omega) hj1 (by omega))
  have hfwd : ∀ b ∈ gs.drop j, ltS b.name f.name = false := fun b hb => by
    obtain ⟨i, hi, rfl⟩ := List.getElem_of_mem hb
    rw [List.length_drop] at hi
    rw [List.getElem_drop]
    exact ltS_asymm (hge (j + i) _ (by omega) (List.getElem?_eq_getElem (by omega)))
  have hab : ∀ a ∈ gs.take j, ∀ b ∈ gs.drop j, ltS b.name a.name = false := fun a ha b hb => ltS_ntrans (hfwd b hb) (hback a ha)
  refine List.pairwise_append.2 ⟨List.pairwise_append.2 ⟨hn.sublist (List.take_sublist _ _), List.pairwise_singleton _ _, fun a ha b hb => ?_⟩, hn.sublist (List.drop_sublist _ _), fun a ha b hb => ?_⟩
  · obtain rfl := List.mem_singleton.1 hb
    exact hback a ha
  · rcases List.mem_append.1 ha with ha | ha
    · exact hab a ha b hb
    · obtain rfl := List.mem_singleton.1 ha
      exact hfwd b hb
theorem perm_put {gs fs : List FunD} {f : FunD} {j : Nat} (h : gs.Perm fs) : (gs.take j ++ [f] ++ gs.drop j).Perm (fs ++ [f]) := by
  have h1 : (gs.take j ++ [f] ++ gs.drop j).Perm (gs.take j ++ gs.drop j ++ [f]) := by
    rw [List.append_assoc, List.append_assoc]
    exact List.Perm.append_left _ List.perm_append_comm
  rw [List.take_append_drop] at h1
  exact h1.trans (h.append_right _)
structure AllAt (X : Nat → Prop) (w : World) (B : Nat) (fs : List FunD) (k : Nat) (a : Option Addr) (c : Nat) (gs : List FunD) (wr : World) : Prop where
  perm : gs.Perm (fs.take k)
  up : ByName gs
  own : OwnR repF (IntX X wr) wr B 32 (.slice a k c) gs
  below : Below w.heap.size w wr
theorem AllAt.drewN {w wr : World} {B k c : Nat} {fs gs : List FunD} {a : Option Addr} (h : AllAt X w B fs k a c gs wr) (q : Nat) : AllAt X w B fs k a c gs (wr.drewN q) :=
  ⟨h.perm, h.up, (h.own.below ((Below.refl wr.heap.size wr).drewN q) (Nat.le_refl _)).mono fun _ _ hb => hb.same rfl, h.below.drewN q⟩
theorem AllAt.next {w wr W : World} {B k c c' j : Nat} {fs gs : List FunD} {a a' : Option Addr} {f : FunD} {css : List (List Value)} {cs : List Value} {n : Nat} {xs : List Value} (h : AllAt X w B fs k a c gs wr) (hB : Below wr.heap.size wr W) (hf : fs[k]? = some f) (hp : Pairs repF (IntX X wr) wr gs css) (hr : repF.rd (IntX X wr) wr f cs)
    (hge : ∀ i g, j ≤ i → gs[i]? = some g → ltS f.name g.name = true) (hlt : ∀ i g, i + 1 = j → gs[i]? = some g → ltS f.name g.name = false) (hx : xs = (css.take j).flatten ++ cs ++ (css.drop j).flatten ∧ n = k + 1)
    (ho : OwnC W wr.heap.size 32 3 (.slice a' n c') n xs) (hb : B ≤ wr.heap.size) (hj : j ≤ k) : AllAt X w B fs (k + 1) a' c' (gs.take j ++ [f] ++ gs.drop j) W := by
  obtain ⟨rfl, rfl⟩ := hx
  have hkl := (List.getElem?_eq_some_iff.1 hf).1
  have hgl : gs.length = k := by rw [h.perm.length_eq, List.length_take]; omega
  have hf' : fs.take (k + 1) = fs.take k ++ [f] := by rw [List.take_succ_eq_append_getElem hkl]; rw [List.getElem?_eq_getElem hkl] at hf; cases hf; rfl
  have hpp : Pairs repF (IntX X wr) wr (gs.take j ++ [f] ++ gs.drop j) (css.take j ++ [cs] ++ css.drop j) := ((hp.take j).append (Pairs.one hr)).append (hp.drop j)
  have hpm : (gs.take j ++ [f] ++ gs.drop j).Perm (fs.take (k + 1)) := by rw [hf']; exact perm_put h.perm
  have hlen : k + 1 = (gs.take j ++ [f] ++ gs.drop j).length := by rw [hpm.length_eq, List.length_take]; omega
  exact ⟨hpm, byName_put (by rw [hgl]; exact hj) h.up hge hlt, ((hpp.below hB).own (by rw [List.flatten_append, List.flatten_append, List.flatten_singleton]; exact ho.lower hb) hlen).mono fun _ _ hb => hb.same (hB.block _ hb.lt), h.below.trans (hB.mono h.below.size)⟩
theorem CellsF.lit3 {w : World} {e : TypeId} {s : Nat} {x y z : Value} (hs : s = w.heap.size) : CellsF (w.alloc (.cells #[x, y, z] e)) s [x, y, z] := CellsF.lit (us := [x, y, z]) hs
theorem flat_len {size : Nat} : ∀ (l : List (List Value)), (∀ cs ∈ l, cs.length = size) → l.flatten.length = l.length * size
  | [], _ => by simp
  | d :: l, hl => by rw [List.flatten_cons, List.length_append, hl d (by simp), flat_len l (fun cs h => hl cs (by simp [h])), List.length_cons, Nat.succ_mul]; omega
/-- parts of a row of one's own -/
theorem OwnC.srcs {w : World} {base size n c q : Nat} {e : TypeId} {a : Option Addr} {css : List (List Value)} (h : OwnC w base e size (.slice a n c) n css.flatten) (hl : ∀ cs ∈ css, cs.length = size) (hn : css.length = n) (hq : q ≤ n) :
    Src w size a q (css.take q).flatten ∧ Src w size (fromA a c q size) (n - q) (css.drop q).flatten := by
  have l1 : (css.take q).flatten.length = q * size := by rw [flat_len _ (fun cs h => hl cs (List.mem_of_mem_take h)), List.length_take, hn, Nat.min_eq_left hq]
  have l2 : (css.drop q).flatten.length = (n - q) * size := by rw [flat_len _ (fun cs h => hl cs (List.mem_of_mem_drop h)), List.length_drop, hn]
  have hf : css.flatten = (css.take q).flatten ++ (css.drop q).flatten := by rw [← List.flatten_append, List.take_append_drop]
  obtain ⟨_, c', hs, hnc, _⟩ := h.slice
  cases hs
  refine ⟨⟨l1, fun h0 => ?_⟩, ⟨l2, fun h0 => ?_⟩⟩
  · obtain ⟨g, cap, hv, _, _⟩ := h.form (by omega)
    cases hv
    refine ⟨_, rfl, fun j u hu => ?_⟩
    rw [Addr.add_lit, Nat.zero_add]
    refine h.cells (g := g) rfl j u ?_
    rw [hf, List.getElem?_append_left (List.getElem?_eq_some_iff.1 hu).1]
    exact hu
  · obtain ⟨g, cap, hv, _, _⟩ := h.form (by omega)
    cases hv
    refine ⟨⟨g, q * size, none⟩, by unfold fromA; rw [if_neg (show c ≠ q by omega)]; simp [Addr.add_lit], fun j u hu => ?_⟩
    rw [Addr.add_lit]
    refine h.cells (g := g) rfl _ u ?_
    rw [hf, List.getElem?_append_right (by rw [l1]; omega), l1, Nat.add_sub_cancel_left]
    exact hu
theorem Pairs.lens {α : Type} {R : Rep α} {S : Nat → Prop} {w : World} {xs : List α} {css : List (List Value)} (h : Pairs R S w xs css) : ∀ cs ∈ css, cs.length = R.k := fun cs hc => by
  obtain ⟨x, hx⟩ := h.at hc
  exact R.len hx
theorem size_fun' (w : World) : (sizeOf 32).run Tryd.prog w = .ok 3 w := by kernel_rfl
set_option maxRecDepth 100000 in
set_option maxHeartbeats 4000000 in
theorem rall_any (B p : Nat) (T : TabD) (w : World) (h : RefX X B p T w) (hs : Small T) :
    Calls Tryd.prog 29 #[.pointer (some ⟨p, 0, none⟩)] w fun e w' => FunsPost T.funs w e w' := by
  obtain ⟨a1, c1, a2, c2, a3, c3, hblk, o1, o2, o3⟩ := h.look
  have k1' : w.cell? ⟨p, 1, none⟩ = some (.slice a2 T.funs.length c2) := cell_p hblk 1
  have hrd := Lib.hid o2
  have hfl := hs.f
  obtain ⟨i0, hi, hz0, hz1, hz2⟩ := info_parts info_fun
  clear h hs hblk o1 o2 o3
  generalize T.funs = fs at *
  go_enter Tryd.func29, Tryd.ntmps29
  go_wp2
  go_loopw [3, 4, 5] (fun v i _ wr => ∃ (k : Nat) (gs : List FunD) (a : Option Addr) (c : Nat), k ≤ fs.length ∧ i = .int .i64 k ∧ v = .slice a k c ∧ k ≤ c ∧ c ≤ maxLen ∧ Hid (AllAt X w w.heap.size fs k a c gs wr)) (fun _ i _ _ => fs.length - (intOf i).toNat)
  case atStart => exact ⟨0, [], none, 0, Nat.zero_le _, rfl, rfl, Nat.le_refl _, Nat.zero_le _, ⟨List.Perm.refl _, List.Pairwise.nil, OwnR.nil _ _ _ _ _, Below.refl _ _⟩⟩
  case round =>
    obtain ⟨k, gs, a, c, hk, rfl, rfl, hkc, hcm, hA⟩ := hrel
    have k1 := keep_cell hA.out.below k1'
    by_cases hlt : k < fs.length
    · have hf := List.getElem?_eq_getElem hlt
      obtain ⟨b, a', c', rfl, q0', q1', q2', q3', q4, q5, q6⟩ := hrd.out.funAt hf
      have q0 := keep_cell hA.out.below q0'
      have q1 := keep_cell hA.out.below q1'
      have q2 := keep_cell hA.out.below q2'
      have hf' := Lib.hid hf
      have hr := Lib.hid (show repF.rd (IntX X wr) wr fs[k] [.string fs[k].name, .slice a' fs[k].args.length c', .int .i64 fs[k].res] from repF_rd.2 ⟨a', _, c', rfl, q5, q6, (q3'.below hA.out.below (Nat.le_refl _)).mono fun _ _ hb => hb.same (hA.out.below.block _ hb.lt), q4⟩)
      have hgl : gs.length = k := by rw [hA.out.perm.length_eq, List.length_take]; omega
      have hgl' := Lib.hid hgl
      clear q0' q1' q2' q3' q4 q5 q6 hf k1' hgl
      generalize fs[k] = f at *
      go_wp2
      go_loopw [5] (fun v5 wi => ∃ (j q : Nat), j ≤ k ∧ v5 = .int .i64 j ∧ wi = wr.drewN q ∧ Hid (∀ i g, j ≤ i → gs[i]? = some g → ltS f.name g.name = true)) (fun v5 _ => (intOf v5).toNat)
      case atStart => exact ⟨k, 0, Nat.le_refl _, rfl, rfl, fun i g h1 h2 => by have := (List.getElem?_eq_some_iff.1 h2).1; have := hgl'.out; omega⟩
      case round =>
        obtain ⟨j, q, hj, rfl, rfl, hge⟩ := hrel
        cases j with
        | zero =>
          go_wp2
          go_quiet (fail)
          go_wp2
          have A0 : AllAt X w w.heap.size fs k a c gs ((wr.drewN q).drewN nq) := (hA.out.drewN q).drewN nq
          have r0 : repF.rd (IntX X ((wr.drewN q).drewN nq)) ((wr.drewN q).drewN nq) f [.string f.name, .slice a' f.args.length c', .int .i64 f.res] := hr.out
          have n1 : ((wr.drewN q).drewN nq).cell? ⟨p, 1, none⟩ = some (.slice (some ⟨b, 0, none⟩) fs.length c2) := k1
          have n2 : ((wr.drewN q).drewN nq).cell? ⟨b, k * 3, none⟩ = some (.string f.name) := q0
          have n3 : ((wr.drewN q).drewN nq).cell? ⟨b, k * 3 + 1, none⟩ = some (.slice a' f.args.length c') := q1
          have n4 : ((wr.drewN q).drewN nq).cell? ⟨b, k * 3 + 2, none⟩ = some (.int .i64 f.res) := q2
          have hup : Hid (∀ x g, 0 ≤ x → gs[x]? = some g → ltS f.name g.name = true) := hge
          have hdn : Hid (∀ x g, x + 1 = 0 → gs[x]? = some g → ltS f.name g.name = false) := fun i g h => by omega
          have hjk : 0 ≤ k := hj
          clear k1 q0 q1 q2 hr hA hge
          generalize ((wr.drewN q).drewN nq) = W0 at *
          obtain ⟨css, oc, pA0⟩ := A0.own.pairs
          rw [hgl'.out] at oc
          have hB0 := A0.below.size
          have A0' := Lib.hid A0
          have pA := Lib.hid pA0
          have pT := Lib.hid (pA0.take (0)).ones
          have pD := Lib.hid (pA0.drop (0)).ones
          have sT := Lib.hid (oc.srcs pA0.lens (by rw [pA0.1, hgl'.out]) hjk).1
          have sD := Lib.hid (oc.srcs pA0.lens (by rw [pA0.1, hgl'.out]) hjk).2
          have hr0 := Lib.hid r0
          have r1 : ∀ W, (Instr.slice 39 (.slice a k c) none (some (.int .i64 0)) none).run Tryd.prog W = .ok (.slice a (0) c) W := run_take2 (P := Tryd.prog) (t := 39) (k := 0) Tryd.underlying39 size_fun' hjk hkc
          have r2 : ∀ W, (Instr.slice 39 (.slice a k c) (some (.int .i64 0)) none none).run Tryd.prog W = .ok (.slice (fromA a c (0) 3) (k - (0)) (c - (0))) W := run_from2 (P := Tryd.prog) (t := 39) (k := 0) Tryd.underlying39 size_fun' hjk hkc
          clear A0 oc pA0 r0
          have hHeld0 := keep_drew W0
          refine wp_region_tt (S := fun W => Below W0.heap.size W0 W) 18 (by kernel_rfl) (by kernel_rfl) (keep_drew W0) (fun hHeld => ?_)
          refine tt_take (i := 1) (v := _) (by rfl) (by decide +kernel) (by exact fun _ _ _ h => h) (Or.inl ⟨by rfl, by (intro W hSw; (try dsimp only at hSw); go_simp <;> with_reducible rfl)⟩) (by assumption) ?_
          (try simp only [Act.put, List.setIfInBounds_toArray, List.set_cons_zero, List.set_cons_succ])
          refine tt_take (i := 2) (v := _) (by rfl) (by decide +kernel) (by exact fun _ _ _ h => h) (Or.inl ⟨by rfl, by (intro W hSw; (try dsimp only at hSw); go_simp <;> with_reducible rfl)⟩) (by assumption) ?_
          (try simp only [Act.put, List.setIfInBounds_toArray, List.set_cons_zero, List.set_cons_succ])
          refine tt_take (i := 3) (v := _) (by rfl) (by decide +kernel) (by exact fun _ _ _ h => h) (Or.inl ⟨by rfl, by (intro W hSw; (try dsimp only at hSw); go_simp <;> with_reducible rfl)⟩) (by assumption) ?_
          (try simp only [Act.put, List.setIfInBounds_toArray, List.set_cons_zero, List.set_cons_succ])
          refine tt_take (i := 5) (v := _) (by rfl) (by decide +kernel) (by exact fun _ _ _ h => h) (Or.inl ⟨by rfl, by (intro W hSw; (try dsimp only at hSw); go_simp <;> with_reducible rfl)⟩) (by assumption) ?_
          (try simp only [Act.put, List.setIfInBounds_toArray, List.set_cons_zero, List.set_cons_succ])
          refine tt_take (i := 6) (v := _) (by rfl) (by decide +kernel) (by exact fun _ _ _ h => h) (Or.inl ⟨by rfl, by (intro W hSw; (try dsimp only at hSw); go_simp <;> with_reducible rfl)⟩) (by assumption) ?_
          (try simp only [Act.put, List.setIfInBounds_toArray, List.set_cons_zero, List.set_cons_succ])
          refine tt_take (i := 7) (v := _) (by rfl) (by decide +kernel) (by exact fun _ _ _ h => h) (Or.inl ⟨by rfl, by (intro W hSw; (try dsimp only at hSw); go_simp <;> with_reducible rfl)⟩) (by assumption) ?_
          (try simp only [Act.put, List.setIfInBounds_toArray, List.set_cons_zero, List.set_cons_succ])
          refine tt_take (i := 8) (v := _) (by rfl) (by decide +kernel) (by exact fun _ _ _ h => h) (Or.inl ⟨by rfl, by (intro W hSw; have hq1 := keep_cell (p := ⟨p, 1, none⟩) hSw n1; go_simp <;> with_reducible rfl)⟩) (by assumption) ?_
          (try simp only [Act.put, List.setIfInBounds_toArray, List.set_cons_zero, List.set_cons_succ])
          refine tt_take (i := 9) (v := _) (by rfl) (by decide +kernel) (by exact fun _ _ _ h => h) (Or.inl ⟨by rfl, by (intro W hSw; (try dsimp only at hSw); go_simp <;> with_reducible rfl)⟩) (by assumption) ?_
          (try simp only [Act.put, List.setIfInBounds_toArray, List.set_cons_zero, List.set_cons_succ])
          refine tt_take (i := 10) (v := _) (by rfl) (by decide +kernel) (by exact fun _ _ _ h => h) (Or.inl ⟨by rfl, by (intro W hSw; (try dsimp only at hSw); go_simp <;> with_reducible rfl)⟩) (by assumption) ?_
          (try simp only [Act.put, List.setIfInBounds_toArray, List.set_cons_zero, List.set_cons_succ])
          refine tt_take (i := 11) (v := _) (by rfl) (by decide +kernel) (by exact fun _ _ _ h => h) (Or.inl ⟨by rfl, by (intro W hSw; have hq1 := keep_cell hSw n2; have hq2 := keep_cell hSw n3; have hq3 := keep_cell hSw n4; go_simp <;> with_reducible rfl)⟩) (by assumption) ?_
          (try simp only [Act.put, List.setIfInBounds_toArray, List.set_cons_zero, List.set_cons_succ])
          refine tt_take (i := 14) (v := _) (by rfl) (by decide +kernel) (by exact fun _ _ _ h => h) (Or.inl ⟨by rfl, by (intro W hSw; (try dsimp only at hSw); go_simp <;> with_reducible rfl)⟩) (by assumption) ?_
          (try simp only [Act.put, List.setIfInBounds_toArray, List.set_cons_zero, List.set_cons_succ])
          refine tt_take (i := 15) (v := _) (by rfl) (by decide +kernel) (by exact fun _ _ _ h => h) (Or.inl ⟨by rfl, by (intro W hSw; (try dsimp only at hSw); go_simp <;> with_reducible rfl)⟩) (by assumption) ?_
          (try simp only [Act.put, List.setIfInBounds_toArray, List.set_cons_zero, List.set_cons_succ])
          refine tt_take (i := 16) (v := _) (by rfl) (by decide +kernel) (by exact fun _ _ _ h => h) (Or.inl ⟨by rfl, by (intro W hSw; (try dsimp only at hSw); go_simp <;> with_reducible rfl)⟩) (by assumption) ?_
          (try simp only [Act.put, List.setIfInBounds_toArray, List.set_cons_zero, List.set_cons_succ])
          refine tt_ready (rs := [0, 12]) (by decide +kernel) (allT_cons (by rfl) (fun K hK => ?_) (allT_cons (by rfl) (fun K hK => ?_) allT_nil))
          · skip
            go_simp
            refine hK.out _ _ (by (exact keep_alloc (by assumption) _)) (fun hHeld2 => ?_)
            clear hK K
            (try simp only [Act.put, List.setIfInBounds_toArray, List.set_cons_zero, List.set_cons_succ])
            refine tt_ready (rs := [4, 12]) (by decide +kernel) (allT_cons (by rfl) (fun K hK => ?_) (allT_cons (by rfl) (fun K hK => ?_) allT_nil))
            · skip
              refine step_append_C (base := W0.heap.size) (by rfl) (.tmp 38) (.tmp 41) (by rfl) Tryd.underlying39 hi hz0 hz1 hz2 rfl (by decide) (Eq.refl (Value.slice _ _ _)) (by rfl) (by first | exact OwnC.lit0 (by simp) (by simp) | exact (OwnC.lit0 (by simp) (by simp)).alloc _) (Src.keep sT.out (by assumption)) pT.out (by unfold maxLen; omega) (by omega) (Below.size (w := W0) (by assumption)) ?_
              intro v' w2 ho2 hg2 _
              rw [Nat.zero_add, List.nil_append] at ho2
              obtain ⟨a4, c4, rfl, _, _⟩ := ho2.slice
              first
              | have L1 := Lib.hid (CellsF.push (s := W0.heap.size + 1) (us := [Value.string f.name, .slice a' f.args.length c', .int .i64 f.res]) hg2 (CellsF.lit3 (by simp)) (by simp [Value.ownBlock]))
              | have L1 := Lib.hid (CellsF.push (s := W0.heap.size) (us := [Value.string f.name, .slice a' f.args.length c', .int .i64 f.res]) hg2 ((CellsF.lit3 (by simp)).more _) (by simp [Value.ownBlock]))
              | have L1 := Lib.hid True.intro
              refine hK.out _ _ (by (exact keep_push (by assumption) hg2 (by intro k hk; simp [Value.ownBlock] at hk; omega))) (fun hHeld3 => ?_)
              clear hK K
              (try simp only [Act.put, List.setIfInBounds_toArray, List.set_cons_zero, List.set_cons_succ])
              refine tt_ready (rs := [12]) (by decide +kernel) (allT_cons (by rfl) (fun K hK => ?_) allT_nil)
              go_simp
              refine hK.out _ _ (by (exact keep_alloc (by assumption) _)) (fun hHeld4 => ?_)
              clear hK K
              (try simp only [Act.put, List.setIfInBounds_toArray, List.set_cons_zero, List.set_cons_succ])
              refine tt_ready (rs := [13]) (by decide +kernel) (allT_cons (by rfl) (fun K hK => ?_) allT_nil)
              refine step_append_C (base := W0.heap.size) (by rfl) (.tmp 42) (.tmp 50) (by rfl) Tryd.underlying39 hi hz0 hz1 hz2 rfl (by decide) (Eq.refl (Value.slice _ _ _)) (by rfl) (by first | exact ho2 | exact ho2.alloc _) (by first | exact Src.lit L1.out rfl | exact Src.lit (CellsF.lit3 (by first | rfl | simp)) rfl) triple_one (by unfold maxLen; omega) (by omega) (Below.size (w := W0) (by assumption)) ?_
              intro v' w3 ho3 hg3 _
              obtain ⟨a5, c5, rfl, _, _⟩ := ho3.slice
              refine hK.out _ _ (by (exact keep_push (by assumption) hg3 (fun k hk => by first | exact (ho2.lt k hk).1 | exact ((ho2.alloc _).lt k hk).1))) (fun hHeld5 => ?_)
              clear hK K
              (try simp only [Act.put, List.setIfInBounds_toArray, List.set_cons_zero, List.set_cons_succ])
              refine tt_ready (rs := [17]) (by decide +kernel) (allT_cons (by rfl) (fun K hK => ?_) allT_nil)
              refine step_append_C (base := W0.heap.size) (by rfl) (.tmp 51) (.tmp 54) (by rfl) Tryd.underlying39 hi hz0 hz1 hz2 rfl (by decide) (Eq.refl (Value.slice _ _ _)) (by rfl) ho3 (Src.keep sD.out (by assumption)) pD.out (by unfold maxLen; omega) (by omega) (Below.size (w := W0) (by assumption)) ?_
              intro v' w4 ho4 hg4 _
              rw [show 0 + 1 + (k - 0) = k + 1 by omega] at ho4
              obtain ⟨a6, c6, rfl, hc61, hc62⟩ := ho4.slice
              refine hK.out _ _ (by (exact keep_push (by assumption) hg4 (fun k hk => (ho3.lt k hk).1))) (fun hHeld6 => ?_)
              clear hK K
              (try simp only [Act.put, List.setIfInBounds_toArray, List.set_cons_zero, List.set_cons_succ])
              refine tt_tail (by decide +kernel) ?_
              simp only [List.drop_succ_cons, List.drop_zero]
              have hB4 : Below W0.heap.size W0 w4 := by assumption
              have A4 := Lib.hid (A0'.out.next hB4 hf'.out pA.out hr0.out hup.out hdn.out ⟨rfl, rfl⟩ ho4 hB0 hjk)
              clear hB4 ho2 ho3 ho4 hg2 hg3 hg4 n1 n2 n3 n4 r1 r2
              go_wp2
              go_roundw
              case rel => exact ⟨k + 1, _, a6, c6, by omega, by go_num, rfl, hc61, hc62, A4.out⟩
              case measure => simp [intOf]; omega
            · skip
              go_simp
              refine hK.out _ _ (by (exact keep_alloc (by assumption) _)) (fun hHeld3 => ?_)
              clear hK K
              (try simp only [Act.put, List.setIfInBounds_toArray, List.set_cons_zero, List.set_cons_succ])
              refine tt_ready (rs := [4]) (by decide +kernel) (allT_cons (by rfl) (fun K hK => ?_) allT_nil)
              refine step_append_C (base := W0.heap.size) (by rfl) (.tmp 38) (.tmp 41) (by rfl) Tryd.underlying39 hi hz0 hz1 hz2 rfl (by decide) (Eq.refl (Value.slice _ _ _)) (by rfl) (by first | exact OwnC.lit0 (by simp) (by simp) | exact (OwnC.lit0 (by simp) (by simp)).alloc _) (Src.keep sT.out (by assumption)) pT.out (by unfold maxLen; omega) (by omega) (Below.size (w := W0) (by assumption)) ?_
              intro v' w2 ho2 hg2 _
              rw [Nat.zero_add, List.nil_append] at ho2
              obtain ⟨a4, c4, rfl, _, _⟩ := ho2.slice
              first
              | have L1 := Lib.hid (CellsF.push (s := W0.heap.size + 1) (us := [Value.string f.name, .slice a' f.args.length c', .int .i64 f.res]) hg2 (CellsF.lit3 (by simp)) (by simp [Value.ownBlock]))
              | have L1 := Lib.hid (CellsF.push (s := W0.heap.size) (us := [Value.string f.name, .slice a' f.args.length c', .int .i64 f.res]) hg2 ((CellsF.lit3 (by simp)).more _) (by simp [Value.ownBlock]))
              | have L1 := Lib.hid True.intro
              refine hK.out _ _ (by (exact keep_push (by assumption) hg2 (by intro k hk; simp [Value.ownBlock] at hk; omega))) (fun hHeld4 => ?_)
              clear hK K
              (try simp only [Act.put, List.setIfInBounds_toArray, List.set_cons_zero, List.set_cons_succ])
              refine tt_ready (rs := [13]) (by decide +kernel) (allT_cons (by rfl) (fun K hK => ?_) allT_nil)
              refine step_append_C (base := W0.heap.size) (by rfl) (.tmp 42) (.tmp 50) (by rfl) Tryd.underlying39 hi hz0 hz1 hz2 rfl (by decide) (Eq.refl (Value.slice _ _ _)) (by rfl) (by first | exact ho2 | exact ho2.alloc _) (by first | exact Src.lit L1.out rfl | exact Src.lit (CellsF.lit3 (by first | rfl | simp)) rfl) triple_one (by unfold maxLen; omega) (by omega) (Below.size (w := W0) (by assumption)) ?_
              intro v' w3 ho3 hg3 _
              obtain ⟨a5, c5, rfl, _, _⟩ := ho3.slice
              refine hK.out _ _ (by (exact keep_push (by assumption) hg3 (fun k hk => by first | exact (ho2.lt k hk).1 | exact ((ho2.alloc _).lt k hk).1))) (fun hHeld5 => ?_)
              clear hK K
              (try simp only [Act.put, List.setIfInBounds_toArray, List.set_cons_zero, List.set_cons_succ])
              refine tt_ready (rs := [17]) (by decide +kernel) (allT_cons (by rfl) (fun K hK => ?_) allT_nil)
              refine step_append_C (base := W0.heap.size) (by rfl) (.tmp 51) (.tmp 54) (by rfl) Tryd.underlying39 hi hz0 hz1 hz2 rfl (by decide) (Eq.refl (Value.slice _ _ _)) (by rfl) ho3 (Src.keep sD.out (by assumption)) pD.out (by unfold maxLen; omega) (by omega) (Below.size (w := W0) (by assumption)) ?_
              intro v' w4 ho4 hg4 _
              rw [show 0 + 1 + (k - 0) = k + 1 by omega] at ho4
              obtain ⟨a6, c6, rfl, hc61, hc62⟩ := ho4.slice
              refine hK.out _ _ (by (exact keep_push (by assumption) hg4 (fun k hk => (ho3.lt k hk).1))) (fun hHeld6 => ?_)
              clear hK K
              (try simp only [Act.put, List.setIfInBounds_toArray, List.set_cons_zero, List.set_cons_succ])
              refine tt_tail (by decide +kernel) ?_
              simp only [List.drop_succ_cons, List.drop_zero]
              have hB4 : Below W0.heap.size W0 w4 := by assumption
              have A4 := Lib.hid (A0'.out.next hB4 hf'.out pA.out hr0.out hup.out hdn.out ⟨rfl, rfl⟩ ho4 hB0 hjk)
              clear hB4 ho2 ho3 ho4 hg2 hg3 hg4 n1 n2 n3 n4 r1 r2
              go_wp2
              go_roundw
              case rel => exact ⟨k + 1, _, a6, c6, by omega, by go_num, rfl, hc61, hc62, A4.out⟩
              case measure => simp [intOf]; omega
          · skip
            go_simp
            refine hK.out _ _ (by (exact keep_alloc (by assumption) _)) (fun hHeld2 => ?_)
            clear hK K
            (try simp only [Act.put, List.setIfInBounds_toArray, List.set_cons_zero, List.set_cons_succ])
            refine tt_ready (rs := [0]) (by decide +kernel) (allT_cons (by rfl) (fun K hK => ?_) allT_nil)
            go_simp
            refine hK.out _ _ (by (exact keep_alloc (by assumption) _)) (fun hHeld3 => ?_)
            clear hK K
            (try simp only [Act.put, List.setIfInBounds_toArray, List.set_cons_zero, List.set_cons_succ])
            refine tt_ready (rs := [4]) (by decide +kernel) (allT_cons (by rfl) (fun K hK => ?_) allT_nil)
            refine step_append_C (base := W0.heap.size) (by rfl) (.tmp 38) (.tmp 41) (by rfl) Tryd.underlying39 hi hz0 hz1 hz2 rfl (by decide) (Eq.refl (Value.slice _ _ _)) (by rfl) (by first | exact OwnC.lit0 (by simp) (by simp) | exact (OwnC.lit0 (by simp) (by simp)).alloc _) (Src.keep sT.out (by assumption)) pT.out (by unfold maxLen; omega) (by omega) (Below.size (w := W0) (by assumption)) ?_
            intro v' w2 ho2 hg2 _
            rw [Nat.zero_add, List.nil_append] at ho2
            obtain ⟨a4, c4, rfl, _, _⟩ := ho2.slice
            first
            | have L1 := Lib.hid (CellsF.push (s := W0.heap.size + 1) (us := [Value.string f.name, .slice a' f.args.length c', .int .i64 f.res]) hg2 (CellsF.lit3 (by simp)) (by simp [Value.ownBlock]))
            | have L1 := Lib.hid (CellsF.push (s := W0.heap.size) (us := [Value.string f.name, .slice a' f.args.length c', .int .i64 f.res]) hg2 ((CellsF.lit3 (by simp)).more _) (by simp [Value.ownBlock]))
            | have L1 := Lib.hid True.intro
            refine hK.out _ _ (by (exact keep_push (by assumption) hg2 (by intro k hk; simp [Value.ownBlock] at hk; omega))) (fun hHeld4 => ?_)
            clear hK K
            (try simp only [Act.put, List.setIfInBounds_toArray, List.set_cons_zero, List.set_cons_succ])
            refine tt_ready (rs := [13]) (by decide +kernel) (allT_cons (by rfl) (fun K hK => ?_) allT_nil)
            refine step_append_C (base := W0.heap.size) (by rfl) (.tmp 42) (.tmp 50) (by rfl) Tryd.underlying39 hi hz0 hz1 hz2 rfl (by decide) (Eq.refl (Value.slice _ _ _)) (by rfl) (by first | exact ho2 | exact ho2.alloc _) (by first | exact Src.lit L1.out rfl | exact Src.lit (CellsF.lit3 (by first | rfl | simp)) rfl) triple_one (by unfold maxLen; omega) (by omega) (Below.size (w := W0) (by assumption)) ?_
            intro v' w3 ho3 hg3 _
            obtain ⟨a5, c5, rfl, _, _⟩ := ho3.slice
            refine hK.out _ _ (by (exact keep_push (by assumption) hg3 (fun k hk => by first | exact (ho2.lt k hk).1 | exact ((ho2.alloc _).lt k hk).1))) (fun hHeld5 => ?_)
            clear hK K
            (try simp only [Act.put, List.setIfInBounds_toArray, List.set_cons_zero, List.set_cons_succ])
            refine tt_ready (rs := [17]) (by decide +kernel) (allT_cons (by rfl) (fun K hK => ?_) allT_nil)
            refine step_append_C (base := W0.heap.size) (by rfl) (.tmp 51) (.tmp 54) (by rfl) Tryd.underlying39 hi hz0 hz1 hz2 rfl (by decide) (Eq.refl (Value.slice _ _ _)) (by rfl) ho3 (Src.keep sD.out (by assumption)) pD.out (by unfold maxLen; omega) (by omega) (Below.size (w := W0) (by assumption)) ?_
            intro v' w4 ho4 hg4 _
            rw [show 0 + 1 + (k - 0) = k + 1 by omega] at ho4
            obtain ⟨a6, c6, rfl, hc61, hc62⟩ := ho4.slice
            refine hK.out _ _ (by (exact keep_push (by assumption) hg4 (fun k hk => (ho3.lt k hk).1))) (fun hHeld6 => ?_)
            clear hK K
            (try simp only [Act.put, List.setIfInBounds_toArray, List.set_cons_zero, List.set_cons_succ])
            refine tt_tail (by decide +kernel) ?_
            simp only [List.drop_succ_cons, List.drop_zero]
            have hB4 : Below W0.heap.size W0 w4 := by assumption
            have A4 := Lib.hid (A0'.out.next hB4 hf'.out pA.out hr0.out hup.out hdn.out ⟨rfl, rfl⟩ ho4 hB0 hjk)
            clear hB4 ho2 ho3 ho4 hg2 hg3 hg4 n1 n2 n3 n4 r1 r2
            go_wp2
            go_roundw
            case rel => exact ⟨k + 1, _, a6, c6, by omega, by go_num, rfl, hc61, hc62, A4.out⟩
            case measure => simp [intOf]; omega
        | succ i =>
          have hil : i < gs.length := by rw [hgl'.out]; omega
          have hg := List.getElem?_eq_getElem hil
          obtain ⟨b2, _, _, rfl, m0, _⟩ := hA.out.own.funAt hg
          have hg := Lib.hid hg
          generalize gs[i] = g at *
          have e1 := Lib.hid (gtS_eq f.name g.name)
          cases hlf : ltS f.name g.name
          · rw [hlf] at e1
            go_wp2
            go_quiet (fail)
            rw [e1.out]
            go_wp2
            have A0 : AllAt X w w.heap.size fs k (some ⟨b2, 0, none⟩) c gs ((wr.drewN q).drewN nq) := (hA.out.drewN q).drewN nq
            have r0 : repF.rd (IntX X ((wr.drewN q).drewN nq)) ((wr.drewN q).drewN nq) f [.string f.name, .slice a' f.args.length c', .int .i64 f.res] := hr.out
            have n1 : ((wr.drewN q).drewN nq).cell? ⟨p, 1, none⟩ = some (.slice (some ⟨b, 0, none⟩) fs.length c2) := k1
            have n2 : ((wr.drewN q).drewN nq).cell? ⟨b, k * 3, none⟩ = some (.string f.name) := q0
            have n3 : ((wr.drewN q).drewN nq).cell? ⟨b, k * 3 + 1, none⟩ = some (.slice a' f.args.length c') := q1
            have n4 : ((wr.drewN q).drewN nq).cell? ⟨b, k * 3 + 2, none⟩ = some (.int .i64 f.res) := q2
            have hup : Hid (∀ x g, i + 1 ≤ x → gs[x]? = some g → ltS f.name g.name = true) := hge
            have hdn : Hid (∀ x g, x + 1 = i + 1 → gs[x]? = some g → ltS f.name g.name = false) := fun x y hx hy => by
              obtain rfl : x = i := by omega
              rw [hg.out] at hy
              cases hy
              exact hlf
            have hjk : i + 1 ≤ k := hj
            clear k1 q0 q1 q2 hr hA hge
            generalize ((wr.drewN q).drewN nq) = W0 at *
            obtain ⟨css, oc, pA0⟩ := A0.own.pairs
            rw [hgl'.out] at oc
            have hB0 := A0.below.size
            have A0' := Lib.hid A0
            have pA := Lib.hid pA0
            have pT := Lib.hid (pA0.take (i + 1)).ones
            have pD := Lib.hid (pA0.drop (i + 1)).ones
            have sT := Lib.hid (oc.srcs pA0.lens (by rw [pA0.1, hgl'.out]) hjk).1
            have sD := Lib.hid (oc.srcs pA0.lens (by rw [pA0.1, hgl'.out]) hjk).2
            have hr0 := Lib.hid r0
            have r1 : ∀ W, (Instr.slice 39 (.slice (some ⟨b2, 0, none⟩) k c) none (some (.int .i64 ((i : Int) + 1))) none).run Tryd.prog W = .ok (.slice (some ⟨b2, 0, none⟩) (i + 1) c) W := run_take2 (P := Tryd.prog) (t := 39) (k := i + 1) Tryd.underlying39 size_fun' hjk hkc
            have r2 : ∀ W, (Instr.slice 39 (.slice (some ⟨b2, 0, none⟩) k c) (some (.int .i64 ((i : Int) + 1))) none none).run Tryd.prog W = .ok (.slice (fromA (some ⟨b2, 0, none⟩) c (i + 1) 3) (k - (i + 1)) (c - (i + 1))) W := run_from2 (P := Tryd.prog) (t := 39) (k := i + 1) Tryd.underlying39 size_fun' hjk hkc
            clear A0 oc pA0 r0
            have hHeld0 := keep_drew W0
            refine wp_region_tt (S := fun W => Below W0.heap.size W0 W) 18 (by kernel_rfl) (by kernel_rfl) (keep_drew W0) (fun hHeld => ?_)
            refine tt_take (i := 1) (v := _) (by rfl) (by decide +kernel) (by exact fun _ _ _ h => h) (Or.inl ⟨by rfl, by (intro W hSw; (try dsimp only at hSw); go_simp <;> with_reducible rfl)⟩) (by assumption) ?_
            (try simp only [Act.put, List.setIfInBounds_toArray, List.set_cons_zero, List.set_cons_succ])
            refine tt_take (i := 2) (v := _) (by rfl) (by decide +kernel) (by exact fun _ _ _ h => h) (Or.inl ⟨by rfl, by (intro W hSw; (try dsimp only at hSw); go_simp <;> with_reducible rfl)⟩) (by assumption) ?_
            (try simp only [Act.put, List.setIfInBounds_toArray, List.set_cons_zero, List.set_cons_succ])
            refine tt_take (i := 3) (v := _) (by rfl) (by decide +kernel) (by exact fun _ _ _ h => h) (Or.inl ⟨by rfl, by (intro W hSw; (try dsimp only at hSw); go_simp <;> with_reducible rfl)⟩) (by assumption) ?_
            (try simp only [Act.put, List.setIfInBounds_toArray, List.set_cons_zero, List.set_cons_succ])
            refine tt_take (i := 5) (v := _) (by rfl) (by decide +kernel) (by exact fun _ _ _ h => h) (Or.inl ⟨by rfl, by (intro W hSw; (try dsimp only at hSw); go_simp <;> with_reducible rfl)⟩) (by assumption) ?_
            (try simp only [Act.put, List.setIfInBounds_toArray, List.set_cons_zero, List.set_cons_succ])
            refine tt_take (i := 6) (v := _) (by rfl) (by decide +kernel) (by exact fun _ _ _ h => h) (Or.inl ⟨by rfl, by (intro W hSw; (try dsimp only at hSw); go_simp <;> with_reducible rfl)⟩) (by assumption) ?_
            (try simp only [Act.put, List.setIfInBounds_toArray, List.set_cons_zero, List.set_cons_succ])
            refine tt_take (i := 7) (v := _) (by rfl) (by decide +kernel) (by exact fun _ _ _ h => h) (Or.inl ⟨by rfl, by (intro W hSw; (try dsimp only at hSw); go_simp <;> with_reducible rfl)⟩) (by assumption) ?_
            (try simp only [Act.put, List.setIfInBounds_toArray, List.set_cons_zero, List.set_cons_succ])
            refine tt_take (i := 8) (v := _) (by rfl) (by decide +kernel) (by exact fun _ _ _ h => h) (Or.inl ⟨by rfl, by (intro W hSw; have hq1 := keep_cell (p := ⟨p, 1, none⟩) hSw n1; go_simp <;> with_reducible rfl)⟩) (by assumption) ?_
            (try simp only [Act.put, List.setIfInBounds_toArray, List.set_cons_zero, List.set_cons_succ])
            refine tt_take (i := 9) (v := _) (by rfl) (by decide +kernel) (by exact fun _ _ _ h => h) (Or.inl ⟨by rfl, by (intro W hSw; (try dsimp only at hSw); go_simp <;> with_reducible rfl)⟩) (by assumption) ?_
            (try simp only [Act.put, List.setIfInBounds_toArray, List.set_cons_zero, List.set_cons_succ])
            refine tt_take (i := 10) (v := _) (by rfl) (by decide +kernel) (by exact fun _ _ _ h => h) (Or.inl ⟨by rfl, by (intro W hSw; (try dsimp only at hSw); go_simp <;> with_reducible rfl)⟩) (by assumption) ?_
            (try simp only [Act.put, List.setIfInBounds_toArray, List.set_cons_zero, List.set_cons_succ])
            refine tt_take (i := 11) (v := _) (by rfl) (by decide +kernel) (by exact fun _ _ _ h => h) (Or.inl ⟨by rfl, by (intro W hSw; have hq1 := keep_cell hSw n2; have hq2 := keep_cell hSw n3; have hq3 := keep_cell hSw n4; go_simp <;> with_reducible rfl)⟩) (by assumption) ?_
            (try simp only [Act.put, List.setIfInBounds_toArray, List.set_cons_zero, List.set_cons_succ])
            refine tt_take (i := 14) (v := _) (by rfl) (by decide +kernel) (by exact fun _ _ _ h => h) (Or.inl ⟨by rfl, by (intro W hSw; (try dsimp only at hSw); go_simp <;> with_reducible rfl)⟩) (by assumption) ?_
            (try simp only [Act.put, List.setIfInBounds_toArray, List.set_cons_zero, List.set_cons_succ])
            refine tt_take (i := 15) (v := _) (by rfl) (by decide +kernel) (by exact fun _ _ _ h => h) (Or.inl ⟨by rfl, by (intro W hSw; (try dsimp only at hSw); go_simp <;> with_reducible rfl)⟩) (by assumption) ?_
            (try simp only [Act.put, List.setIfInBounds_toArray, List.set_cons_zero, List.set_cons_succ])
            refine tt_take (i := 16) (v := _) (by rfl) (by decide +kernel) (by exact fun _ _ _ h => h) (Or.inl ⟨by rfl, by (intro W hSw; (try dsimp only at hSw); go_simp <;> with_reducible rfl)⟩) (by assumption) ?_
            (try simp only [Act.put, List.setIfInBounds_toArray, List.set_cons_zero, List.set_cons_succ])
            refine tt_ready (rs := [0, 12]) (by decide +kernel) (allT_cons (by rfl) (fun K hK => ?_) (allT_cons (by rfl) (fun K hK => ?_) allT_nil))
            · skip
              go_simp
              refine hK.out _ _ (by (exact keep_alloc (by assumption) _)) (fun hHeld2 => ?_)
              clear hK K
              (try simp only [Act.put, List.setIfInBounds_toArray, List.set_cons_zero, List.set_cons_succ])
              refine tt_ready (rs := [4, 12]) (by decide +kernel) (allT_cons (by rfl) (fun K hK => ?_) (allT_cons (by rfl) (fun K hK => ?_) allT_nil))
              · skip
                refine step_append_C (base := W0.heap.size) (by rfl) (.tmp 38) (.tmp 41) (by rfl) Tryd.underlying39 hi hz0 hz1 hz2 rfl (by decide) (Eq.refl (Value.slice _ _ _)) (by rfl) (by first | exact OwnC.lit0 (by simp) (by simp) | exact (OwnC.lit0 (by simp) (by simp)).alloc _) (Src.keep sT.out (by assumption)) pT.out (by unfold maxLen; omega) (by omega) (Below.size (w := W0) (by assumption)) ?_
                intro v' w2 ho2 hg2 _
                rw [Nat.zero_add, List.nil_append] at ho2
                obtain ⟨a4, c4, rfl, _, _⟩ := ho2.slice
                first
                | have L1 := Lib.hid (CellsF.push (s := W0.heap.size + 1) (us := [Value.string f.name, .slice a' f.args.length c', .int .i64 f.res]) hg2 (CellsF.lit3 (by simp)) (by simp [Value.ownBlock]))
                | have L1 := Lib.hid (CellsF.push (s := W0.heap.size) (us := [Value.string f.name, .slice a' f.args.length c', .int .i64 f.res]) hg2 ((CellsF.lit3 (by simp)).more _) (by simp [Value.ownBlock]))
                | have L1 := Lib.hid True.intro
                refine hK.out _ _ (by (exact keep_push (by assumption) hg2 (by intro k hk; simp [Value.ownBlock] at hk; omega))) (fun hHeld3 => ?_)
                clear hK K
                (try simp only [Act.put, List.setIfInBounds_toArray, List.set_cons_zero, List.set_cons_succ])
                refine tt_ready (rs := [12]) (by decide +kernel) (allT_cons (by rfl) (fun K hK => ?_) allT_nil)
                go_simp
                refine hK.out _ _ (by (exact keep_alloc (by assumption) _)) (fun hHeld4 => ?_)
                clear hK K
                (try simp only [Act.put, List.setIfInBounds_toArray, List.set_cons_zero, List.set_cons_succ])
                refine tt_ready (rs := [13]) (by decide +kernel) (allT_cons (by rfl) (fun K hK => ?_) allT_nil)
                refine step_append_C (base := W0.heap.size) (by rfl) (.tmp 42) (.tmp 50) (by rfl) Tryd.underlying39 hi hz0 hz1 hz2 rfl (by decide) (Eq.refl (Value.slice _ _ _)) (by rfl) (by first | exact ho2 | exact ho2.alloc _) (by first | exact Src.lit L1.out rfl | exact Src.lit (CellsF.lit3 (by first | rfl | simp)) rfl) triple_one (by unfold maxLen; omega) (by omega) (Below.size (w := W0) (by assumption)) ?_
                intro v' w3 ho3 hg3 _
                obtain ⟨a5, c5, rfl, _, _⟩ := ho3.slice
                refine hK.out _ _ (by (exact keep_push (by assumption) hg3 (fun k hk => by first | exact (ho2.lt k hk).1 | exact ((ho2.alloc _).lt k hk).1))) (fun hHeld5 => ?_)
                clear hK K
                (try simp only [Act.put, List.setIfInBounds_toArray, List.set_cons_zero, List.set_cons_succ])
                refine tt_ready (rs := [17]) (by decide +kernel) (allT_cons (by rfl) (fun K hK => ?_) allT_nil)
                refine step_append_C (base := W0.heap.size) (by rfl) (.tmp 51) (.tmp 54) (by rfl) Tryd.underlying39 hi hz0 hz1 hz2 rfl (by decide) (Eq.refl (Value.slice _ _ _)) (by rfl) ho3 (Src.keep sD.out (by assumption)) pD.out (by unfold maxLen; omega) (by omega) (Below.size (w := W0) (by assumption)) ?_
                intro v' w4 ho4 hg4 _
                rw [show (i + 1) + 1 + (k - (i + 1)) = k + 1 by omega] at ho4
                obtain ⟨a6, c6, rfl, hc61, hc62⟩ := ho4.slice
                refine hK.out _ _ (by (exact keep_push (by assumption) hg4 (fun k hk => (ho3.lt k hk).1))) (fun hHeld6 => ?_)
                clear hK K
                (try simp only [Act.put, List.setIfInBounds_toArray, List.set_cons_zero, List.set_cons_succ])
                refine tt_tail (by decide +kernel) ?_
                simp only [List.drop_succ_cons, List.drop_zero]
                have hB4 : Below W0.heap.size W0 w4 := by assumption
                have A4 := Lib.hid (A0'.out.next hB4 hf'.out pA.out hr0.out hup.out hdn.out ⟨rfl, rfl⟩ ho4 hB0 hjk)
                clear hB4 ho2 ho3 ho4 hg2 hg3 hg4 n1 n2 n3 n4 r1 r2
                go_wp2
                go_roundw
                case rel => exact ⟨k + 1, _, a6, c6, by omega, by go_num, rfl, hc61, hc62, A4.out⟩
                case measure => simp [intOf]; omega
              · skip
                go_simp
                refine hK.out _ _ (by (exact keep_alloc (by assumption) _)) (fun hHeld3 => ?_)
                clear hK K
                (try simp only [Act.put, List.setIfInBounds_toArray, List.set_cons_zero, List.set_cons_succ])
                refine tt_ready (rs := [4]) (by decide +kernel) (allT_cons (by rfl) (fun K hK => ?_) allT_nil)
                refine step_append_C (base := W0.heap.size) (by rfl) (.tmp 38) (.tmp 41) (by rfl) Tryd.underlying39 hi hz0 hz1 hz2 rfl (by decide) (Eq.refl (Value.slice _ _ _)) (by rfl) (by first | exact OwnC.lit0 (by simp) (by simp) | exact (OwnC.lit0 (by simp) (by simp)).alloc _) (Src.keep sT.out (by assumption)) pT.out (by unfold maxLen; omega) (by omega) (Below.size (w := W0) (by assumption)) ?_
                intro v' w2 ho2 hg2 _
                rw [Nat.zero_add, List.nil_append] at ho2
                obtain ⟨a4, c4, rfl, _, _⟩ := ho2.slice
                first
                | have L1 := Lib.hid (CellsF.push (s := W0.heap.size + 1) (us := [Value.string f.name, .slice a' f.args.length c', .int .i64 f.res]) hg2 (CellsF.lit3 (by simp)) (by simp [Value.ownBlock]))
                | have L1 := Lib.hid (CellsF.push (s := W0.heap.size) (us := [Value.string f.name, .slice a' f.args.length c', .int .i64 f.res]) hg2 ((CellsF.lit3 (by simp)).more _) (by simp [Value.ownBlock]))
                | have L1 := Lib.hid True.intro
                refine hK.out _ _ (by (exact keep_push (by assumption) hg2 (by intro k hk; simp [Value.ownBlock] at hk; omega))) (fun hHeld4 => ?_)
                clear hK K
                (try simp only [Act.put, List.setIfInBounds_toArray, List.set_cons_zero, List.set_cons_succ])
                refine tt_ready (rs := [13]) (by decide +kernel) (allT_cons (by rfl) (fun K hK => ?_) allT_nil)
                refine step_append_C (base := W0.heap.size) (by rfl) (.tmp 42) (.tmp 50) (by rfl) Tryd.underlying39 hi hz0 hz1 hz2 rfl (by decide) (Eq.refl (Value.slice _ _ _)) (by rfl) (by first | exact ho2 | exact ho2.alloc _) (by first | exact Src.lit L1.out rfl | exact Src.lit (CellsF.lit3 (by first | rfl | simp)) rfl) triple_one (by unfold maxLen; omega) (by omega) (Below.size (w := W0) (by assumption)) ?_
                intro v' w3 ho3 hg3 _
                obtain ⟨a5, c5, rfl, _, _⟩ := ho3.slice
                refine hK.out _ _ (by (exact keep_push (by assumption) hg3 (fun k hk => by first | exact (ho2.lt k hk).1 | exact ((ho2.alloc _).lt k hk).1))) (fun hHeld5 => ?_)
                clear hK K
                (try simp only [Act.put, List.setIfInBounds_toArray, List.set_cons_zero, List.set_cons_succ])
                refine tt_ready (rs := [17]) (by decide +kernel) (allT_cons (by rfl) (fun K hK => ?_) allT_nil)
                refine step_append_C (base := W0.heap.size) (by rfl) (.tmp 51) (.tmp 54) (by rfl) Tryd.underlying39 hi hz0 hz1 hz2 rfl (by decide) (Eq.refl (Value.slice _ _ _)) (by rfl) ho3 (Src.keep sD.out (by assumption)) pD.out (by unfold maxLen; omega) (by omega) (Below.size (w := W0) (by assumption)) ?_
                intro v' w4 ho4 hg4 _
                rw [show (i + 1) + 1 + (k - (i + 1)) = k + 1 by omega] at ho4
                obtain ⟨a6, c6, rfl, hc61, hc62⟩ := ho4.slice
                refine hK.out _ _ (by (exact keep_push (by assumption) hg4 (fun k hk => (ho3.lt k hk).1))) (fun hHeld6 => ?_)
                clear hK K
                (try simp only [Act.put, List.setIfInBounds_toArray, List.set_cons_zero, List.set_cons_succ])
                refine tt_tail (by decide +kernel) ?_
                simp only [List.drop_succ_cons, List.drop_zero]
                have hB4 : Below W0.heap.size W0 w4 := by assumption
                have A4 := Lib.hid (A0'.out.next hB4 hf'.out pA.out hr0.out hup.out hdn.out ⟨rfl, rfl⟩ ho4 hB0 hjk)
                clear hB4 ho2 ho3 ho4 hg2 hg3 hg4 n1 n2 n3 n4 r1 r2
                go_wp2
                go_roundw
                case rel => exact ⟨k + 1, _, a6, c6, by omega, by go_num, rfl, hc61, hc62, A4.out⟩
                case measure => simp [intOf]; omega
            · skip
              go_simp
              refine hK.out _ _ (by (exact keep_alloc (by assumption) _)) (fun hHeld2 => ?_)
              clear hK K
              (try simp only [Act.put, List.setIfInBounds_toArray, List.set_cons_zero, List.set_cons_succ])
              refine tt_ready (rs := [0]) (by decide +kernel) (allT_cons (by rfl) (fun K hK => ?_) allT_nil)
              go_simp
              refine hK.out _ _ (by (exact keep_alloc (by assumption) _)) (fun hHeld3 => ?_)
              clear hK K
              (try simp only [Act.put, List.setIfInBounds_toArray, List.set_cons_zero, List.set_cons_succ])
              refine tt_ready (rs := [4]) (by decide +kernel) (allT_cons (by rfl) (fun K hK => ?_) allT_nil)
              refine step_append_C (base := W0.heap.size) (by rfl) (.tmp 38) (.tmp 41) (by rfl) Tryd.underlying39 hi hz0 hz1 hz2 rfl (by decide) (Eq.refl (Value.slice _ _ _)) (by rfl) (by first | exact OwnC.lit0 (by simp) (by simp) | exact (OwnC.lit0 (by simp) (by simp)).alloc _) (Src.keep sT.out (by assumption)) pT.out (by unfold maxLen; omega) (by omega) (Below.size (w := W0) (by assumption)) ?_
              intro v' w2 ho2 hg2 _
              rw [Nat.zero_add, List.nil_append] at ho2
              obtain ⟨a4, c4, rfl, _, _⟩ := ho2.slice
              first
              | have L1 := Lib.hid (CellsF.push (s := W0.heap.size + 1) (us := [Value.string f.name, .slice a' f.args.length c', .int .i64 f.res]) hg2 (CellsF.lit3 (by simp)) (by simp [Value.ownBlock]))
              | have L1 := Lib.hid (CellsF.push (s := W0.heap.size) (us := [Value.string f.name, .slice a' f.args.length c', .int .i64 f.res]) hg2 ((CellsF.lit3 (by simp)).more _) (by simp [Value.ownBlock]))
              | have L1 := Lib.hid True.intro
              refine hK.out _ _ (by (exact keep_push (by assumption) hg2 (by intro k hk; simp [Value.ownBlock] at hk; omega))) (fun hHeld4 => ?_)
              clear hK K
              (try simp only [Act.put, List.setIfInBounds_toArray, List.set_cons_zero, List.set_cons_succ])
              refine tt_ready (rs := [13]) (by decide +kernel) (allT_cons (by rfl) (fun K hK => ?_) allT_nil)
              refine step_append_C (base := W0.heap.size) (by rfl) (.tmp 42) (.tmp 50) (by rfl) Tryd.underlying39 hi hz0 hz1 hz2 rfl (by decide) (Eq.refl (Value.slice _ _ _)) (by rfl) (by first | exact ho2 | exact ho2.alloc _) (by first | exact Src.lit L1.out rfl | exact Src.lit (CellsF.lit3 (by first | rfl | simp)) rfl) triple_one (by unfold maxLen; omega) (by omega) (Below.size (w := W0) (by assumption)) ?_
              intro v' w3 ho3 hg3 _
              obtain ⟨a5, c5, rfl, _, _⟩ := ho3.slice
              refine hK.out _ _ (by (exact keep_push (by assumption) hg3 (fun k hk => by first | exact (ho2.lt k hk).1 | exact ((ho2.alloc _).lt k hk).1))) (fun hHeld5 => ?_)
              clear hK K
              (try simp only [Act.put, List.setIfInBounds_toArray, List.set_cons_zero, List.set_cons_succ])
              refine tt_ready (rs := [17]) (by decide +kernel) (allT_cons (by rfl) (fun K hK => ?_) allT_nil)
              refine step_append_C (base := W0.heap.size) (by rfl) (.tmp 51) (.tmp 54) (by rfl) Tryd.underlying39 hi hz0 hz1 hz2 rfl (by decide) (Eq.refl (Value.slice _ _ _)) (by rfl) ho3 (Src.keep sD.out (by assumption)) pD.out (by unfold maxLen; omega) (by omega) (Below.size (w := W0) (by assumption)) ?_
              intro v' w4 ho4 hg4 _
              rw [show (i + 1) + 1 + (k - (i + 1)) = k + 1 by omega] at ho4
              obtain ⟨a6, c6, rfl, hc61, hc62⟩ := ho4.slice
              refine hK.out _ _ (by (exact keep_push (by assumption) hg4 (fun k hk => (ho3.lt k hk).1))) (fun hHeld6 => ?_)
              clear hK K
              (try simp only [Act.put, List.setIfInBounds_toArray, List.set_cons_zero, List.set_cons_succ])
              refine tt_tail (by decide +kernel) ?_
              simp only [List.drop_succ_cons, List.drop_zero]
              have hB4 : Below W0.heap.size W0 w4 := by assumption
              have A4 := Lib.hid (A0'.out.next hB4 hf'.out pA.out hr0.out hup.out hdn.out ⟨rfl, rfl⟩ ho4 hB0 hjk)
              clear hB4 ho2 ho3 ho4 hg2 hg3 hg4 n1 n2 n3 n4 r1 r2
              go_wp2
              go_roundw
              case rel => exact ⟨k + 1, _, a6, c6, by omega, by go_num, rfl, hc61, hc62, A4.out⟩
              case measure => simp [intOf]; omega
          · rw [hlf] at e1
            go_wp2
            go_quiet (fail)
            rw [e1.out]
            go_wp2
            refine ⟨⟨i, _, by omega, rfl, rfl, fun x y hx hy => ?_⟩, by simp [intOf]⟩
            by_cases hxi : x = i
            · subst hxi
              rw [hg.out] at hy
              cases hy
              exact hlf
            · exact hge.out x y (by omega) hy
    · obtain rfl : k = fs.length := by omega
      have H := Lib.hid (show FunsPost fs w (.returned (.slice a fs.length c)) wr from by
        have hpm := hA.out.perm
        rw [List.take_length] at hpm
        have hl := hpm.length_eq
        refine ⟨gs, a, c, by rw [hl], hpm, hA.out.up, by rw [hl]; exact hA.out.own.read (fun _ _ _ => trivial) (fun _ _ => trivial), hA.out.below⟩)
      go_wp2
      go_ret
      exact H.out
end Go.Proofs.YtpkajhmgkmkcgaaDoor
