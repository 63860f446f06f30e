/-
  watch.Watch: the walk of Set. Conditions: ints, bounded lengths.
-/
import Derived.Test.YtdmnpjlgldlodaaWI
namespace Go.Proofs.Ytdmnpjlgldlodaa
open Go.RowKit Go.Sort Go.Lib Go.Maps

def WSetPost (B p m1 m2 : Nat) (C : List (Int × List Int)) (S : List Int) (x : Int) (w : World) (e : Ending) (w' : World) : Prop :=
  if x == 0 || valS S x != 0 then e = .returned (.tuple #[.slice none 0 0, .int .i64 (-1)]) ∧ w = w' else
    WatchIs B p m1 m2 C (S ++ [x]) w' ∧ WStep p p m2 w w' ∧ ∃ a n c, e = .returned (.tuple #[.slice a n c, .int .i64 (setC C (S ++ [x]))]) ∧ AtR p m1 m2 w' a n (setU C (S ++ [x])) ∧ ∀ y, a = some y → w.heap.size ≤ y.block
set_option maxHeartbeats 400000 in
theorem wset_nil (x : Int) (w : World) : Calls Try.prog 29 #[.pointer none, .int .i64 x] w fun e w' => e = .returned (.tuple #[.slice none 0 0, .int .i64 (-1)]) ∧ w = w' := by
  go_enter Try.func29, Try.ntmps29
  go_wp2
  go_ret2
  exact ⟨rfl, rfl⟩
theorem WSetPost.no {B p m1 m2 : Nat} {C : List (Int × List Int)} {S : List Int} {x : Int} {w : World} (h : (x == 0 || valS S x != 0) = true) : WSetPost B p m1 m2 C S x w (.returned (.tuple #[.slice none 0 0, .int .i64 (-1)])) w := by
  unfold WSetPost; rw [if_pos h]; exact ⟨rfl, rfl⟩
theorem WatchP.rowLt {B p m1 m2 : Nat} {C : List (Int × List Int)} {R S : List Int} {w : World} (h : WatchP B p m1 m2 C R S w) {k : Nat} (hr : rowOf w p = some k) : k < w.heap.size := by
  obtain ⟨v, hv, ho⟩ := h.blk
  unfold rowOf at hr
  rw [hv] at hr
  exact (ho.lt k hr).2
theorem WSetPost.yes {B p m1 m2 : Nat} {C : List (Int × List Int)} {S : List Int} {x : Int} {w w2 w' : World} {a : Option Addr} {n c : Nat} {z : Int} (h : (x == 0 || valS S x != 0) = false) (hW : WatchIs B p m1 m2 C (S ++ [x]) w2) (hs : WStep p p m2 w w2) (hb : Below w2.heap.size w2 w')
    (hz : z = setC C (S ++ [x])) (hr : RdI w' a n (setU C (S ++ [x]))) (hn : n < 1099511627776) (hf : ∀ y, a = some y → w2.heap.size ≤ y.block) : WSetPost B p m1 m2 C S x w (.returned (.tuple #[.slice a n c, .int .i64 z])) w' := by
  unfold WSetPost; rw [if_neg (by rw [h]; decide)]
  refine ⟨hW.below hb, hs.trans (.of_below hW.plt hb), a, n, c, by rw [hz], ⟨hr, hn, fun _ y hy => ?_⟩, fun y hy => Nat.le_trans hs.size (hf y hy)⟩
  have h1 := hf y hy
  have h2 := hW.plt
  have h3 := hW.tru.map.lt
  obtain ⟨_, hm, _⟩ := hW.all
  have h4 := hm.lt
  refine ⟨by omega, by omega, by omega, ?_⟩
  rw [rowOf_same (hb.block p hW.plt)]
  intro e
  have := hW.rowLt e
  omega
theorem under_watchall : Try.prog.underlying 83 = some (.map 3 22) := under_all

set_option maxRecDepth 100000 in
set_option maxHeartbeats 4000000 in
theorem wset_any (B p m1 m2 : Nat) (C : List (Int × List Int)) (S : List Int) (x : Int) (w : World) (h : WatchIs B p m1 m2 C S w) (hx : okI x) (hC : C.length < 1099511627776) (hS : S.length < 1099511627776) :
    Calls Try.prog 29 #[.pointer (some ⟨p, 0, none⟩), .int .i64 x] w fun e w' => WSetPost B p m1 m2 C S x w e w' := by
  have h' := Lib.hid h
  have hx' := Lib.hid hx
  obtain ⟨v, hb, ho⟩ := h.blk
  have hb' := Lib.hid hb
  have ho' := Lib.hid ho
  have c1 : w.cell? ⟨p, 1, none⟩ = some v := cell_p hb 1
  have c2 : w.cell? ⟨p, 2, none⟩ = some (.map (some m2)) := cell_p hb 2
  have hv := Lib.hid (value_any m2 S x w h.tru hx)
  have hplt := h.plt
  have hn2 := h.ne2
  clear h hb ho hx
  cases h0 : x == 0
  case true =>
    have hno := Lib.hid (WSetPost.no (B := B) (p := p) (m1 := m1) (m2 := m2) (C := C) (S := S) (x := x) (w := w) (by rw [h0]; rfl))
    clear hv
    go_enter Try.func29, Try.ntmps29
    go_wp2
    go_ret2
    exact hno.out
  case false =>
  cases hvv : valS S x != 0
  case true =>
    have hno := Lib.hid (WSetPost.no (B := B) (p := p) (m1 := m1) (m2 := m2) (C := C) (S := S) (x := x) (w := w) (by rw [h0, hvv]; rfl))
    generalize valS S x = vx at *
    go_enter Try.func29, Try.ntmps29
    go_wp2_with fail
    refine hv.out.mono ?_; rintro e w' ⟨rfl, rfl⟩
    go_wp2
    go_ret2
    exact hno.out
  case false =>
  have hgo := Lib.hid (show (x == 0 || valS S x != 0) = false by rw [h0, hvv]; rfl)
  have hvz : valS S x = 0 := eq_of_bne_false hvv
  have hadd : addS S x = S ++ [x] := by
    unfold addS
    rw [if_neg]
    intro hh
    unfold valS at hvz
    rw [if_pos hh] at hvz
    cases hvz
  have hadd' := Lib.hid hadd
  rw [hvz] at hv
  clear hvz hvv hadd
  obtain ⟨i0, hi, hz0, hz1, hz2⟩ := info_parts info_int
  go_enter Try.func29, Try.ntmps29
  go_wp2_with fail
  refine hv.out.mono ?_; rintro e w' ⟨rfl, rfl⟩
  go_wp2_with (at_builtin; refine wpList_append_lies _ rfl _ _ 22 rfl B 3 i0 (.int .i64 0) 1 8 Try.underlying22 hi hz0 hz1 hz2 rfl (by decide) _ _ _ rfl (ho'.out.alloc _) ⟨w.heap.size, 0, none⟩ 1 1 [.int .i64 x] rfl rfl ?c1 ?c2 (by decide) ?c3 ?c4 ?c5 (w.heap.size + 1) ?c6 ?_)
  case c1 => exact cell_one_new _ _ _
  case c2 => intro u hu; simp at hu; subst hu; rfl
  case c3 => unfold maxLen; omega
  case c4 => omega
  case c5 => have := h'.out.bp; simp; omega
  case c6 => simp
  intro g cap w1 hown1 hgrow1 hat1 hlt1
  have hgw : w.grownBy w1 v.ownBlock := (World.grownBy_alloc w (.cells #[.int .i64 x] 3) v.ownBlock).trans hgrow1
  have hlen1 : (S ++ [x]).length = S.length + 1 := by simp
  have hsr := h'.out.setRow (R' := S ++ [x]) (W := w1) (v' := .slice (some ⟨g, 0, none⟩) (S.length + 1) cap) hb'.out ho'.out hgw (by rw [hlen1, List.map_append]; exact hown1) (by
    rcases hat1 with e | e
    · exact Or.inl (by rw [e]; rfl)
    · exact Or.inr (fun g' hg' => by injection hg' with e2; have e3 : g = g' := e2; omega))
  obtain ⟨hP1, hs1⟩ := hsr
  obtain ⟨w2, hst, hT2, ht2⟩ := hP1.tru.store hx'.out (by omega)
  rw [hadd'.out] at hT2
  obtain ⟨hP2, hs2⟩ := hP1.turn2 ht2 hT2
  have hpn : v.ownBlock ≠ some p := own_ne_cells (by decide) ho'.out hb'.out
  have hp1 := (hgw.block p hplt (Ne.symm hpn)).trans hb'.out
  have d1 : w1.cell? ⟨p, 1, none⟩ = some v := cell_p hp1 1
  have f1 : w1.frozen? ⟨p, 1, none⟩ = false := frz_p hp1 1
  have d2 : (w1.setCell ⟨p, 1, none⟩ (.slice (some ⟨g, 0, none⟩) (S.length + 1) cap)).cell? ⟨p, 2, none⟩ = some (.map (some m2)) := by
    rw [World.cell?_setCell_other _ _ _ _ (by simp)]; exact cell_p hp1 2
  have hW2 := Lib.hid hP2
  have hS2 := Lib.hid (hs1.trans hs2)
  obtain ⟨v3, hb3, _⟩ := hP2.blk
  have k0 : w2.cell? ⟨p, 0, none⟩ = some (.map (some m1)) := cell_p hb3 0
  have k2 : w2.cell? ⟨p, 2, none⟩ = some (.map (some m2)) := cell_p hb3 2
  obtain ⟨F, ⟨D, hownD, hszD, hFD⟩, hF⟩ := hP2.all
  have hFD' := Lib.hid hFD
  have hF' := Lib.hid hF
  have hmlt := hownD.lt
  clear hown1 hgrow1 hat1 hgw hP1 hs1 hP2 hs2 hT2 ht2 hp1 hb3 hFD hF hpn hlen1 c1 c2 hv ho' hb'
  go_wp2_with (at_range; refine wpList_range_own _ rfl _ 83 rfl 3 22 law_int under_all _ m1 C.length _ rfl hownD ?_; intro w3 hrg3 hg3 hs3)
  have hg3' := Lib.hid hg3
  have hhas : ∀ y, Maps.has D (keyI y) = (findC C y).isSome := fun y => by
    rw [(hFD'.out y).1]
    have := hF'.out y
    split at this
    · rename_i hh; rw [this, hh]; rfl
    · rename_i l hh; obtain ⟨_, _, _, e, _⟩ := this; rw [e, hh]; rfl
  have hM0 : Met (idsC C) [] (Maps.has D) := by
    refine ⟨List.nodup_nil, fun y => ?_⟩
    rw [hhas y, ← findC_ids]
    cases findC C y <;> simp
  have hM0' := Lib.hid hM0
  have hlh : ∀ y, Maps.has D (keyI y) = true → y ∈ idsC C := fun y hy => by rw [hhas y] at hy; exact findC_ids.1 hy
  have hlh' := Lib.hid hlh
  have hb3 : Below w2.heap.size w2 w3 := (Below.refl _ _).grown hg3 (Nat.le_refl _) (fun j hj => by cases hj)
  have hb3' := Lib.hid hb3
  have hp2 : p < w2.heap.size := hW2.out.plt
  obtain ⟨S2, hS2e⟩ : ∃ S2, S ++ [x] = S2 := ⟨_, rfl⟩
  have hT : TruthIs m2 (S ++ [x]) w2 := hW2.out.tru
  rw [hS2e] at hT
  have hT' := Lib.hid hT
  have hS2e' := Lib.hid hS2e
  obtain ⟨r, hr⟩ : ∃ r, w2.heap.size = r := ⟨_, rfl⟩
  rw [hr] at hrg3 hp2 hb3' hmlt ⊢
  have hr' := Lib.hid hr
  have hrg3' := Lib.hid hrg3
  clear hs3 hM0 hlh hg3 hhas hb3 hT hS2e hr hrg3 hownD hst d1 d2 f1 hlt1
  go_frame
  go_loopw [4, 5, 6, 7, 8, 9] (fun v4 v5 v6 _ _ _ wx => ∃ (left : Lit → Bool) (cnt : Nat) (L U : List Int) (bb : Bool) (cc : Int), wx.ranges Try.prog 3 rawElem m1 r C.length D left cnt ∧ Hid (Met (idsC C) L left) ∧ Hid (∀ y, left (keyI y) = true → y ∈ idsC C) ∧ v5 = .int .i64 cc ∧ v6 = .bool bb ∧ Hid (foldC C S2 L = (bb, cc)) ∧ Hid (unitsC C S2 L = U) ∧
      wx.ownsRow r 3 1 v4 U.length (U.map (Value.int .i64)) ∧ v4.ownBlock ≠ some r ∧ Below r w2 wx) (fun _ _ _ _ _ _ wx => wx.rangeLeft m1 r)
  case atStart => exact ⟨_, _, [], [], false, 0, hrg3'.out, hM0'.out, hlh'.out, rfl, rfl, rfl, rfl, World.ownsRow_nil _ _ _ _, by simp [Value.ownBlock], hb3'.out⟩
  case round =>
    clear hrg3' hM0' hlh' hg3' hb3'
    obtain ⟨left, cnt, L, U, bb, cc, hrg, hM, hlf, rfl, rfl, hfc, huc, hown, hnr, hb⟩ := hrel
    have hLl : L.length ≤ C.length := by
      have := nodup_len hM.out.nodup (fun y hy => ((hM.out.mem y).1 hy).1)
      unfold idsC at this
      simpa using this
    have hUl : U.length ≤ C.length := by rw [← huc.out]; exact Nat.le_trans (unitsC_len _ _ _) hLl
    have hrgl := Lib.hid hrg.left_eq
    have hown' := Lib.hid hown
    have hb' := Lib.hid hb
    have hrz : r < wr.heap.size := hrg.lt
    clear hown hb
    go_wp2_with (first
      | (at_next; refine wpList_next_ranges _ rfl _ rfl 3 law_int rawElem (Value.int .i64) id (fun key kl h => by obtain ⟨x, rfl, _⟩ := Maps.keyOf_int_inv Try.underlying3 h; exact ⟨x, rfl⟩) (fun v _ _ => ⟨v, rfl⟩) m1 r C.length _ _ _ rfl hrg ?_ ?_))
    · intro hc0 hl0
      have hiff : ∀ y, y ∈ L ↔ y ∈ idsC C := fun y => by rw [hM.out.mem, hl0]; simp
      have hf1 : foldC C S2 (idsC C) = (bb, cc) := by rw [← foldC_congr hiff]; exact hfc.out
      have hu1 : nrm (unitsC C S2 (idsC C)) = nrm U := by rw [← unitsC_congr hiff, huc.out]
      have hwU : WfI U := by
        rw [← huc.out]
        refine wf_unitsC fun id l hl => ?_
        have := hF'.out id
        rw [hl] at this
        obtain ⟨_, _, _, _, e2⟩ := this
        exact e2.1.wf
      have hsc : Hid (setC C S2 = if bb then cc else -1) := by show setC C S2 = _; unfold setC; rw [hf1]
      have hsu : Hid (setU C S2 = if bb then [] else nrm U) := by show setU C S2 = _; unfold setU; rw [hf1, hu1]
      have hwU' := Lib.hid hwU
      obtain ⟨a3, e3, rfl, _⟩ := hown'.out.slice
      clear hiff hf1 hu1 hwU hrg hlf hM
      cases bb
      case true =>
        go_wp2
        go_ret2
        refine WSetPost.yes hgo.out hW2.out hS2.out (by rw [hr'.out]; exact hb'.out) ?_ ?_ (by omega) (fun y hy => by cases hy)
        · rw [hS2e'.out, hsc.out]; rfl
        · rw [hS2e'.out, hsu.out]; exact RdI.nil _ _
      case false =>
        have hso := Lib.hid (sorted_any r a3 U.length e3 U wr hown'.out (by omega))
        go_wp2_with fail
        refine hso.out.mono ?_
        rintro e w5 ⟨rfl, ho5, hg5⟩
        have ho5' := Lib.hid ho5
        have hb5 := Lib.hid (hb'.out.grown hg5 (Nat.le_of_lt hrz) (fun j hj => (hown'.out.lt j hj).1))
        have hcp := Lib.hid (compact_any r a3 U.length e3 _ w5 ho5 (by omega))
        clear ho5 hg5
        go_wp2_with fail
        refine hcp.out.mono ?_
        rintro e w6 ⟨m, hm, rfl, ho6, hg6⟩
        have hcs : Lib.compact (sortC U) = nrm U := compact_sorted U
        rw [hcs] at hm ho6
        have hrd := Lib.hid (RdI.own ho6 (wf_nrm hwU'.out)).2
        have hb6 := Lib.hid (hb5.out.grown hg6 (by have := hb5.out.size; have := hr'.out; omega) (fun j hj => (ho5'.out.lt j hj).1))
        have hm' := Lib.hid hm
        clear ho6 hg6 hcs hm
        go_wp2
        go_ret2
        refine WSetPost.yes hgo.out hW2.out hS2.out (by rw [hr'.out]; exact hb6.out) ?_ ?_ ?_ (fun y hy => by rw [hr'.out]; exact (hrd.out.2 y hy).1)
        · rw [hS2e'.out, hsc.out]; rfl
        · rw [hS2e'.out, hsu.out]; exact hrd.out.1
        · have := len_nrm U; have := hm'.out; omega
    · intro ci v0 kl yd yp w4 cnt2 hkey hlk hv hat hrg4 hlt hg4 hs4 hen
      obtain ⟨ci', ex, rfl, hwx⟩ := Maps.keyOf_int_inv Try.underlying3 hkey
      cases ex
      have hid : ci ∈ idsC C := hlf.out ci hlk
      obtain ⟨l, hl⟩ : ∃ l, findC C ci = some l := Option.isSome_iff_exists.1 (findC_ids.2 hid)
      have hFi := hF'.out ci
      rw [hl] at hFi
      obtain ⟨a, n, c, e1, e2, e3, _⟩ := hFi
      have hv0 : v0 = .slice a n c := by
        have q := (hFD'.out ci).2 v0
        have q2 : D.atKey (keyI ci) (.held v0) = yd := hat _
        rw [e1, q2] at q
        unfold rawElem at hv
        cases hv
        injection q
      subst hv0
      have hM2 := Lib.hid (hM.out.step hid hlk)
      have hlf2 := Lib.hid (fun z (hz : (left (keyI z) && !(keyI z).sameKey (keyI ci)) = true) => hlf.out z (by cases hq : left (keyI z) <;> simp_all))
      have hown4 := Lib.hid (hown'.out.kept hg4 (Or.inr hnr))
      have hb4 : Below r w2 w4 := hb'.out.grown hg4 (Nat.le_of_lt hrz) (fun j hj => by cases hj; exact Nat.le_refl _)
      have hrn : w2.heap.size ≤ r := by have := hr'.out; omega
      have hrd4 := e2.below hb4 hrn
      have hT4 : TruthIs m2 S2 w4 := by have := hT'.out.touch (Touch.of_below (S := fun _ => False) (show Below w2.heap.size w2 w4 by rw [hr'.out]; exact hb4)) (fun h => h); exact this
      have hln := Lib.hid hrd4.len
      have hcl := Lib.hid (left_any m2 S2 a n c l w4 hT4 hrd4 e3)
      have hwl := Lib.hid (wf_leftS (S := S2) hrd4.wf)
      have q2 : w4.cell? ⟨p, 2, none⟩ = some (.map (some m2)) := (hb4.cell (p := ⟨p, 2, none⟩) hp2).trans k2
      have hst1 := Lib.hid (foldC_snoc C S2 L ci)
      have hst2 := Lib.hid (unitsC_snoc C S2 L ci)
      have hbd := @Lib.hid (badAtC C S2 ci = (!(l.length == 0) && (leftS S2 l).length == 0)) (by unfold badAtC; rw [hl]; rfl)
      have hun := @Lib.hid (unitAtC C S2 ci = if (leftS S2 l).length == 1 && valS S2 (nth (leftS S2 l) 0) == 0 then some (nth (leftS S2 l) 0) else none) (by unfold unitAtC; rw [hl]; rfl)
      have hb4' := Lib.hid hb4
      have hT4' := Lib.hid hT4
      have hcnt := Lib.hid hlt
      have hrz4 : r < w4.heap.size := by rw [hs4]; exact hrz
      clear hs4 hkey hlk hv hat hg4 hlt hid e1 e2 hrd4 hT4 hb4 hl hM hlf hb' hown' hrn hrg
      go_wp2_with fail
      refine hcl.out.mono ?_
      rintro e w5 ⟨a5, c5, rfl, r5, fr5, b5⟩
      have b5r : Below r w4 w5 := ⟨b5.os, b5.tape, b5.output, b5.size, fun k hk => b5.block k (Nat.lt_trans hk hrz4)⟩
      have hb5 := Lib.hid (hb4'.out.trans b5r)
      have hg45 : w4.grownBy w5 none := ⟨b5.os, b5.tape, b5.output, b5.size, fun k hk _ => b5.block k hk⟩
      have hrg5 := Lib.hid (hrg4.kept hg45 (by simp) (by simp))
      have hown5 := Lib.hid (hown4.out.kept hg45 (Classical.em _))
      have T5 := Lib.hid (hT4'.out.below b5)
      have r5' := Lib.hid r5
      have q5 : w5.cell? ⟨p, 2, none⟩ = some (.map (some m2)) := (b5.cell (p := ⟨p, 2, none⟩) (Nat.lt_trans hp2 hrz4)).trans q2
      have hrz5 : r < w5.heap.size := Nat.lt_of_lt_of_le hrz4 b5.size
      have hz0 := Lib.hid (show n = 0 → (leftS S2 l).length = 0 from fun h => by
        have : l = [] := List.eq_nil_of_length_eq_zero (by rw [hln.out]; exact h)
        rw [this]; rfl)
      rw [hln.out] at hbd
      have hnob := Lib.hid (show badAtC C S2 ci = false → Hid (foldC C S2 (L ++ [ci]) = (bb, cc)) from fun h => by
        show foldC C S2 (L ++ [ci]) = (bb, cc)
        rw [hst1.out, hfc.out]; unfold stepC; rw [h]; rfl)
      have hnoc := Lib.hid (show (!bb || decide (ci < cc)) = false → Hid (foldC C S2 (L ++ [ci]) = (bb, cc)) from fun h => by
        show foldC C S2 (L ++ [ci]) = (bb, cc)
        rw [hst1.out, hfc.out]; unfold stepC
        show (if (badAtC C S2 ci && (!bb || decide (ci < cc))) = true then (true, ci) else (bb, cc)) = (bb, cc)
        rw [h, Bool.and_false]; rfl)
      have hyes := Lib.hid (show badAtC C S2 ci = true → (!bb || decide (ci < cc)) = true → Hid (foldC C S2 (L ++ [ci]) = (true, ci)) from fun h h2 => by
        show foldC C S2 (L ++ [ci]) = (true, ci)
        rw [hst1.out, hfc.out]; unfold stepC
        show (if (badAtC C S2 ci && (!bb || decide (ci < cc))) = true then (true, ci) else (bb, cc)) = (true, ci)
        rw [h, h2]; rfl)
      have hnou := Lib.hid (show unitAtC C S2 ci = none → Hid (unitsC C S2 (L ++ [ci]) = U) from fun h => by
        show unitsC C S2 (L ++ [ci]) = U
        rw [hst2.out, h, huc.out]; simp)
      have hyeu := Lib.hid (show ∀ z, unitAtC C S2 ci = some z → Hid (unitsC C S2 (L ++ [ci]) = U ++ [z]) from fun z h => by
        show unitsC C S2 (L ++ [ci]) = U ++ [z]
        rw [hst2.out, h, huc.out]; rfl)
      clear b5r b5 hg45 r5 fr5 hst1 hst2 hfc huc hcl hown4 hT4' hb4' hrg4 q2 hrz4 hln hen
      generalize leftS S2 l = Lf at *
      by_cases hn0 : n = 0
      · have hL0 := hz0.out hn0
        have hf2 := hnob.out (by rw [hbd.out, hn0]; rfl)
        have hu2 := hnou.out (by rw [hun.out, hL0]; rfl)
        subst hn0
        clear hL0 hz0 hnob hnoc hyes hnou hyeu hbd hun
        generalize Lf.length = q at *
        go_wp2
        go_roundw
        case rel => exact ⟨_, cnt2, L ++ [ci], U, bb, cc, hrg5.out, hM2.out, hlf2.out, rfl, rfl, hf2, hu2, hown5.out, hnr, hb5.out⟩
        case measure => rw [hrg5.out.left_eq, hrgl.out]; exact hcnt.out
      have n0b : ((n : Int) == 0) = false := by simp only [beq_eq_false_iff_ne, ne_eq]; omega
      have n0c : (n == 0) = false := by simpa using hn0
      rw [n0c] at hbd
      by_cases hL0 : Lf.length = 0
      · have hbt : badAtC C S2 ci = true := by rw [hbd.out, hL0]; rfl
        have hu2 := hnou.out (by rw [hun.out, hL0]; rfl)
        rw [hL0]
        cases bb
        case false =>
          have hf2 := hyes.out hbt rfl
          clear hL0 hz0 hnob hnoc hyes hnou hyeu hbd hun hn0 n0c hbt
          go_wp2
          go_roundw
          case rel => exact ⟨_, cnt2, L ++ [ci], U, true, ci, hrg5.out, hM2.out, hlf2.out, rfl, rfl, hf2, hu2, hown5.out, hnr, hb5.out⟩
          case measure => rw [hrg5.out.left_eq, hrgl.out]; exact hcnt.out
        case true =>
          by_cases hlc : ci < cc
          · have hf2 := hyes.out hbt (by simp [hlc])
            clear hL0 hz0 hnob hnoc hyes hnou hyeu hbd hun hn0 n0c hbt
            go_wp2
            go_roundw
            case rel => exact ⟨_, cnt2, L ++ [ci], U, true, ci, hrg5.out, hM2.out, hlf2.out, rfl, rfl, hf2, hu2, hown5.out, hnr, hb5.out⟩
            case measure => rw [hrg5.out.left_eq, hrgl.out]; exact hcnt.out
          · have hf2 := hnoc.out (by simp [hlc])
            clear hL0 hz0 hnob hnoc hyes hnou hyeu hbd hun hn0 n0c hbt
            go_wp2
            go_quiet (fail)
            have hrgq := hrg5.out.kept (w' := w5.drewN nq) (row := none) ⟨rfl, rfl, rfl, Nat.le_refl _, fun _ _ _ => rfl⟩ (by simp) (by simp)
            have hrgq' := Lib.hid hrgq
            clear hrgq
            go_wp2
            go_roundw
            case rel => exact ⟨_, cnt2, L ++ [ci], U, true, cc, hrgq'.out, hM2.out, hlf2.out, rfl, rfl, hf2, hu2, hown5.out, hnr, hb5.out.drewN nq⟩
            case measure => rw [hrgq'.out.left_eq, hrgl.out]; exact hcnt.out
      have l0b : (Lf.length == 0) = false := by simpa using hL0
      have l0c : ((Lf.length : Int) == 0) = false := by simp only [beq_eq_false_iff_ne, ne_eq]; omega
      have hf2 := hnob.out (by rw [hbd.out, l0b]; rfl)
      by_cases hL1 : Lf.length = 1
      · obtain ⟨b3, o3, rfl, h5⟩ := r5'.out.at 0 (by omega)
        rw [Nat.add_zero] at h5
        have hzo : okI (nth Lf 0) := r5'.out.wf _ (nth_mem (by omega))
        have hvq := fun (q : Nat) => value_any m2 S2 (nth Lf 0) (w5.drewN q) (T5.out.below ((Below.refl _ _).drewN q)) hzo
        rw [hL1] at hun ⊢
        clear hL0 hz0 hnob hnoc hyes hbd hn0 n0c l0b l0c hL1 hzo
        by_cases hV : valS S2 (nth Lf 0) = 0
        · have hu2 := hyeu.out (nth Lf 0) (by rw [hun.out, hV]; rfl)
          rw [hV] at hvq
          clear hnou hyeu hun hV
          generalize nth Lf 0 = z at *
          go_wp2
          go_quiet ((go_at_call 47; exact (hvq _).mono fun _ _ h => ⟨h.1, _, h.2.symm⟩))
          have hrgq := hrg5.out.kept (w' := w5.drewN nq) (row := none) ⟨rfl, rfl, rfl, Nat.le_refl _, fun _ _ _ => rfl⟩ (by simp) (by simp)
          have hownq := hown5.out.kept (w' := w5.drewN nq) (row := none) ⟨rfl, rfl, rfl, Nat.le_refl _, fun _ _ _ => rfl⟩ (Classical.em _)
          have hownq' := Lib.hid hownq
          have hbq := Lib.hid (hb5.out.drewN nq)
          have h5q : (w5.drewN nq).cell? ⟨b3, o3, none⟩ = some (.int .i64 z) := h5
          have hrzq : r < (w5.drewN nq).heap.size := hrz5
          have hrgq' := Lib.hid hrgq
          have hrge : w2.heap.size ≤ r := by have := hr'.out; omega
          clear hownq hvq hrgq
          go_wp2_with (at_builtin; refine wpList_append_lies _ rfl _ _ 22 rfl r 3 i0 (.int .i64 0) 1 8 Try.underlying22 hi hz0 hz1 hz2 rfl (by decide) _ _ _ rfl (hownq'.out.alloc _) ⟨(w5.drewN nq).heap.size, 0, none⟩ 1 1 [.int .i64 z] rfl rfl ?c1 ?c2 (by decide) ?c3 ?c4 ?c5 ((w5.drewN nq).heap.size + 1) ?c6 ?_)
          case c1 => exact cell_one_new _ _ _
          case c2 => intro u hu; simp at hu; subst hu; rfl
          case c3 => unfold maxLen; omega
          case c4 => omega
          case c5 => simp; omega
          case c6 => simp
          intro g2 cap2 w6 hown6 hgrow6 hat6 hlt6
          have hrg6 := Lib.hid ((hrgq'.out.alloc (.cells #[.int .i64 z] 3)).kept hgrow6 (by
            intro e
            have := (hownq'.out.lt m1 e.symm).1
            omega) (Ne.symm hnr))
          have hres := Lib.hid (own_snoc (x := z) (L' := U ++ [z]) hownq'.out hbq.out (Nat.le_refl _) (Nat.le_of_lt hrzq) hown6 hgrow6 rfl)
          have hg2 : g2 ≠ r := by
            rcases hat6 with h | h
            · rintro rfl; exact hnr h
            · omega
          clear hown6 hgrow6 hat6 hrgq'
          go_wp2
          go_roundw
          case rel => exact ⟨_, cnt2, L ++ [ci], U ++ [z], bb, cc, hrg6.out, hM2.out, hlf2.out, rfl, rfl, hf2, hu2, hres.out.1, by simpa [Value.ownBlock] using hg2, hres.out.2⟩
          case measure => rw [hrg6.out.left_eq, hrgl.out]; exact hcnt.out
        · have hVb : (valS S2 (nth Lf 0) == 0) = false := by simpa using hV
          have hu2 := hnou.out (by rw [hun.out, hVb]; rfl)
          clear hnou hyeu hun hV
          generalize hgv : valS S2 (nth Lf 0) = V at *
          clear hgv
          generalize nth Lf 0 = z at *
          go_wp2
          go_quiet ((go_at_call 47; exact (hvq _).mono fun _ _ h => ⟨h.1, _, h.2.symm⟩))
          have hrgq := hrg5.out.kept (w' := w5.drewN nq) (row := none) ⟨rfl, rfl, rfl, Nat.le_refl _, fun _ _ _ => rfl⟩ (by simp) (by simp)
          have hrgq' := Lib.hid hrgq
          clear hrgq hvq
          go_wp2
          go_roundw
          case rel => exact ⟨_, cnt2, L ++ [ci], U, bb, cc, hrgq'.out, hM2.out, hlf2.out, rfl, rfl, hf2, hu2, hown5.out, hnr, hb5.out.drewN nq⟩
          case measure => rw [hrgq'.out.left_eq, hrgl.out]; exact hcnt.out
      have l1b : (Lf.length == 1) = false := by simpa using hL1
      have l1c : ((Lf.length : Int) == 1) = false := by simp only [beq_eq_false_iff_ne, ne_eq]; omega
      have hu2 := hnou.out (by rw [hun.out, l1b]; rfl)
      clear hL0 hz0 hnob hnoc hyes hnou hyeu hbd hun hn0 n0c l0b l1b hL1
      generalize Lf.length = q at *
      go_wp2
      go_quiet (fail)
      have hrgq := hrg5.out.kept (w' := w5.drewN nq) (row := none) ⟨rfl, rfl, rfl, Nat.le_refl _, fun _ _ _ => rfl⟩ (by simp) (by simp)
      have hrgq' := Lib.hid hrgq
      clear hrgq
      go_wp2
      go_roundw
      case rel => exact ⟨_, cnt2, L ++ [ci], U, bb, cc, hrgq'.out, hM2.out, hlf2.out, rfl, rfl, hf2, hu2, hown5.out, hnr, hb5.out.drewN nq⟩
      case measure => rw [hrgq'.out.left_eq, hrgl.out]; exact hcnt.out
end Go.Proofs.Ytdmnpjlgldlodaa
