/-
  watch: sorted and Close. Conditions: fewer than 2^40 literals in all, each an int.
-/
import Derived.Test.YtdmnpjlgldlodaaWC
import Derived.Deep.LoopGhost
namespace Go.Proofs.Ytdmnpjlgldlodaa
open Go.RowKit Go.Sort Go.Lib Go.Maps

set_option maxHeartbeats 400000 in
theorem sorted_any (base : Nat) (a : Option Addr) (n c : Nat) (xs : List Int) (w : World) (ho : w.ownsRow base 3 1 (.slice a n c) n (xs.map (Value.int .i64))) (hn : n < 17592186044416) :
    Calls Try.prog 46 #[.slice a n c] w fun e w' => e = .returned (.slice a n c) ∧ w'.ownsRow base 3 1 (.slice a n c) n ((sortC xs).map (Value.int .i64)) ∧ w.grownBy w' (Value.ownBlock (.slice a n c)) := by
  have hc := Lib.hid (sort_any base a n c xs w ho hn)
  clear ho
  go_enter Try.func46, Try.ntmps46
  go_wp2_with fail
  refine hc.out.mono ?_; rintro e w' ⟨rfl, ho, hg⟩
  have ho' := Lib.hid ho
  have hg' := Lib.hid hg
  clear ho hg
  go_wp2
  go_ret
  exact ⟨rfl, ho'.out, hg'.out⟩

theorem law_int : Keyed Try.prog 3 := int_keyed Try.underlying3
/-- the keys met so far in a range -/
structure Met (S L : List Int) (left : Lit → Bool) : Prop where
  nodup : L.Nodup
  mem : ∀ x, x ∈ L ↔ (x ∈ S ∧ left (keyI x) = false)
theorem Met.step {S L : List Int} {left : Lit → Bool} {x : Int} (h : Met S L left) (hx : x ∈ S) (hl : left (keyI x) = true) : Met S (L ++ [x]) (fun z => left z && !z.sameKey (keyI x)) := by
  have hn : x ∉ L := fun hm => by rw [((h.mem x).1 hm).2] at hl; cases hl
  refine ⟨?_, fun y => ?_⟩
  · rw [List.nodup_append]
    exact ⟨h.nodup, by simp, fun a ha b hb e => by simp at hb; subst hb; subst e; exact hn ha⟩
  · rw [List.mem_append, h.mem]
    by_cases e : y = x
    · subst e
      simp [hx, hl, WideAt.sameKey_self (keyI_lit y)]
    · have : (keyI y).sameKey (keyI x) = false := sameKey_ne (keyI_ne e)
      simp [this, e]
theorem nodup_sorted {L : List Int} (h : L.Nodup) : sortC L = nrm L := by
  refine strict_unique _ _ ?_ (strict_nrm L) fun x => by rw [mem_nrm]; unfold sortC; exact List.mem_mergeSort
  have hp : (sortC L).Pairwise fun a b => ltC b a = false := by
    have := List.pairwise_mergeSort (le := fun x y => !(ltOf cfC) y x) (fun a b c h1 h2 => by
      simp only [Bool.not_eq_true'] at *
      exact swoC.ntrans _ _ _ h2 h1) (fun a b => by
      simp only [lt_cf]
      cases h1 : ltC b a <;> cases h2 : ltC a b <;> simp
      exact ltC_asymm h1 h2) L
    refine this.imp ?_
    intro a b h
    simpa [lt_cf] using h
  have hnd : (sortC L).Nodup := (List.mergeSort_perm L _).nodup_iff.2 h
  refine (hp.and hnd).imp ?_
  intro a b ⟨h1, h2⟩
  cases h3 : ltC a b
  · exact absurd (ltC_total h3 h1) h2
  · rfl
theorem Met.done {S L : List Int} {left : Lit → Bool} (h : Met S L left) (hl : ∀ kl, left kl = false) : sortC L = nrm S := by
  rw [nodup_sorted h.nodup]
  exact nrm_congr fun x => by rw [h.mem, hl]; simp
theorem len_perm {S L : List Int} (hS : S.Nodup) (hL : L.Nodup) (h : ∀ x, x ∈ L ↔ x ∈ S) : L.length = S.length := ((List.perm_ext_iff_of_nodup hL hS).2 h).length_eq

theorem nodup_len : ∀ {L S : List Int}, L.Nodup → (∀ x ∈ L, x ∈ S) → L.length ≤ S.length
  | [], _, _, _ => Nat.zero_le _
  | x :: L, S, h, hs => by
    obtain ⟨h1, h2⟩ := List.nodup_cons.1 h
    have hx := hs x (by simp)
    have := nodup_len (L := L) (S := S.erase x) h2 (fun y hy => (List.mem_erase_of_ne (fun e => h1 (by rw [← e]; exact hy))).2 (hs y (by simp [hy])))
    rw [List.length_erase_of_mem hx] at this
    have := List.length_pos_of_mem hx
    simp only [List.length_cons]
    omega
/-- what Close hands back -/
def ClosePost (ls : List (List Int)) (given : List Int) (w : World) (e : Ending) (w' : World) : Prop :=
  Below w.heap.size w w' ∧ match closeS ls given with
  | none => e = .returned (.tuple #[.slice none 0 0, .bool true])
  | some S => ∃ a n c, e = .returned (.tuple #[.slice a n c, .bool false]) ∧ RdI w' a n (nrm S)
theorem ClosePost.no {ls : List (List Int)} {given : List Int} {w w' : World} (hb : Below w.heap.size w w') (h : closeS ls given = none) : ClosePost ls given w (.returned (.tuple #[.slice none 0 0, .bool true])) w' := by
  unfold ClosePost; rw [h]; exact ⟨hb, rfl⟩
theorem ClosePost.yes {ls : List (List Int)} {given S : List Int} {w w' : World} {a : Option Addr} {n c : Nat} (hb : Below w.heap.size w w') (h : closeS ls given = some S) (hr : RdI w' a n (nrm S)) : ClosePost ls given w (.returned (.tuple #[.slice a n c, .bool false])) w' := by
  unfold ClosePost; rw [h]; exact ⟨hb, a, n, c, rfl, hr⟩
theorem givS_cons (x : Int) (xs S : List Int) : givS (x :: xs) S = if x == 0 then givS xs S else if valS S x == -1 then none else givS xs (addS S x) := rfl
theorem closeA_eq (ls : List (List Int)) (f : Nat) (S : List Int) (more ok : Bool) : closeA ls f (S, more, ok) = if ok == false then none else if more then (match f with | 0 => none | g + 1 => closeA ls g (rdS ls S false)) else some S := by
  cases f <;> rfl

set_option maxRecDepth 100000 in
set_option maxHeartbeats 4000000 in
theorem close_any (a b : Option Addr) (n k0 c d : Nat) (ls : List (List Int)) (given : List Int) (w : World) (hx : RdR w a n ls) (hg : RdI w b k0 given) (hn : n < 1099511627776) (hk0 : k0 < 1099511627776) (hr : ∀ r ∈ ls, r.length < 1099511627776) (hfl : ls.flatten.length < 1099511627776) :
    Calls Try.prog 24 #[.slice a n c, .slice b k0 d] w fun e w' => ClosePost ls given w e w' := by
  have hmm := @run_makeMap Try.prog
  have hx' := Lib.hid hx
  have hg' := Lib.hid hg
  have lg := Lib.hid hg.len
  have hr' := Lib.hid hr
  clear hx hg hr
  have T0 : TruthIs w.heap.size [] (w.alloc (.map #[] 0)) := ⟨List.nodup_nil, (by intro x hx; cases hx), MapV.made w⟩
  have B0 : Below w.heap.size w (w.alloc (.map #[] 0)) := (Below.refl _ _).alloc (Nat.le_refl _) _
  have T0' := Lib.hid T0
  have B0' := Lib.hid B0
  clear T0 B0
  go_enter Try.func24, Try.ntmps24
  go_wp2
  go_loopw [4, 5, 15] (fun v4 v5 i wr => ∃ (k : Nat) (S : List Int), k ≤ k0 ∧ i = .int .i64 k ∧ v4 = .slice none 0 0 ∧ v5 = .bool false ∧ Hid (TruthIs w.heap.size S wr) ∧ Hid (Below w.heap.size w wr) ∧ Hid (givS given [] = givS (given.drop k) S) ∧ Hid (S.length ≤ k)) (fun _ _ i _ => k0 - (intOf i).toNat)
  case atStart => exact ⟨0, [], Nat.zero_le _, rfl, rfl, rfl, T0'.out, B0'.out, rfl, Nat.le_refl _⟩
  case round =>
    clear T0' B0'
    obtain ⟨k, S, hk, rfl, rfl, rfl, hT, hB, hgv, hlen⟩ := hrel
    by_cases hlt : k < k0
    · obtain ⟨b1, o1, rfl, h4⟩ := (hg'.out.below hB.out (Nat.le_refl _)).at k hlt
      have hkx : k < given.length := by rw [lg.out]; exact hlt
      have hok : okI (nth given k) := hg'.out.wf _ (nth_mem hkx)
      have hst := Lib.hid (set_any w.heap.size S (nth given k) wr hT.out hok (by have := hlen.out; omega))
      have hdr := hgv.out
      rw [List.drop_eq_getElem_cons hkx, ← nth_eq hkx, givS_cons] at hdr
      have hdr' := Lib.hid hdr
      clear hdr hkx hok
      generalize nth given k = x at *
      by_cases h0 : x = 0
      · subst h0
        have hd2 : givS given [] = givS (given.drop (k + 1)) S := hdr'.out
        have hd2' := Lib.hid hd2
        clear hd2 hdr' hst
        go_wp2
        go_roundw
        case rel => exact ⟨k + 1, S, by omega, by go_num, rfl, rfl, hT.out, hB.out, hd2'.out, show S.length ≤ k + 1 by have := hlen.out; omega⟩
        case measure => simp [intOf]; omega
      · have hxb : (x != 0) = true := by simpa using h0
        have hxb2 : (x == 0) = false := by simpa using h0
        have hd1 := hdr'.out
        rw [hxb2] at hd1
        by_cases hv : valS S x = -1
        · have hvb : (valS S x == -1) = true := by simpa using hv
          rw [hvb] at hd1
          have hno : closeS ls given = none := by unfold closeS; rw [hd1]; rfl
          have hno' := Lib.hid hno
          have hv' := Lib.hid hv
          clear hno hd1 hvb hdr' hv h0 hxb2
          go_wp2_with fail
          refine hst.out.mono ?_
          rintro e w2 hp
          unfold SetPost at hp
          rw [if_pos hv'.out] at hp
          obtain ⟨rfl, rfl⟩ := hp
          go_wp2
          go_ret2
          exact ClosePost.no hB.out hno'.out
        · have hvb : (valS S x == -1) = false := by simpa using hv
          rw [hvb] at hd1
          have hd2' : Hid (givS given [] = givS (given.drop (k + 1)) (addS S x)) := hd1
          have hv' := Lib.hid hv
          have hla := Lib.hid (len_addS S x)
          clear hd1 hvb hdr' hv h0 hxb2
          go_wp2_with fail
          refine hst.out.mono ?_
          rintro e w2 hp
          unfold SetPost at hp
          rw [if_neg hv'.out] at hp
          obtain ⟨rfl, ht, hgt⟩ := hp
          have ht' := Lib.hid ht
          have hb2 := Lib.hid (hB.out.grown hgt.grown hB.out.size (fun j hj => by cases hj; exact Nat.le_refl _))
          clear ht hgt
          go_wp2
          go_roundw
          case rel => exact ⟨k + 1, addS S x, by omega, by go_num, rfl, rfl, ht'.out, hb2.out, hd2'.out, show (addS S x).length ≤ k + 1 by have := hlen.out; have := hla.out; omega⟩
          case measure => simp [intOf]; omega
    · obtain rfl : k = k0 := by omega
      have hd0 : given.drop k = [] := by rw [← lg.out]; exact List.drop_length
      have hgs := hgv.out
      rw [hd0] at hgs
      have hgs' : Hid (givS given [] = some S) := hgs
      have hcl : closeS ls given = closeA ls (ls.flatten.length + 1) (rdS ls S false) := by unfold closeS; rw [hgs'.out]
      have hcl' := Lib.hid hcl
      have hxw := hx'.out.below hB.out (Nat.le_refl _)
      have hrt := Lib.hid (round_truth w.heap.size S a n c ls wr hT.out hxw hn hr'.out (by have := hlen.out; omega))
      have hms := Lib.hid (rdS_meas ls.flatten ls S false mem_flat)
      obtain ⟨S1, m1, k1, hr1⟩ : ∃ S1 m1 k1, rdS ls S false = (S1, m1, k1) := ⟨_, _, _, rfl⟩
      have hr1' := Lib.hid hr1
      rw [hr1] at hms hcl'
      have hms1 := Lib.hid hms.out
      clear hgs hd0 hcl hxw hgv hr1
      go_wp2_with fail
      refine hrt.out.mono ?_
      rintro e w1 ⟨rfl, ht1, htt⟩
      rw [hr1'.out] at ht1 ⊢
      dsimp only at ht1
      have T1 := Lib.hid ht1
      have B1 := Lib.hid (hB.out.trans (htt.below hB.out.size (fun j hj => by omega)))
      clear ht1 htt hrt
      go_wp2
      go_loopg [4, 5, 9, 10] (ls.flatten.length + 1) (fun g v4 v5 v9 v10 wr => ∃ (Sc : List Int) (mr okb : Bool), v4 = .slice none 0 0 ∧ v5 = .bool false ∧ v9 = .bool mr ∧ v10 = .bool okb ∧ Hid (TruthIs w.heap.size Sc wr) ∧ Hid (Below w.heap.size w wr) ∧ Hid (closeS ls given = closeA ls g (Sc, mr, okb)) ∧ Hid (mr = true → meas ls.flatten Sc + 1 ≤ g) ∧ Hid (Sc.length + meas ls.flatten Sc ≤ k + ls.flatten.length))
      case atStart =>
        refine ⟨S1, m1, k1, rfl, rfl, rfl, rfl, T1.out, B1.out, hcl'.out, fun hm => ?_, ?_⟩
        · have h1 := meas_le ls.flatten S
          rcases hms.out.2.1 hm with h3 | h3
          · cases h3
          · omega
        · have h1 := meas_le ls.flatten S
          have h2 := hms.out.2.2
          have h3 := hlen.out
          show S1.length + meas ls.flatten S1 ≤ k + ls.flatten.length
          omega
      case round =>
        clear T1 B1 hr1' hms hms1 hcl' hgs' hT hB hlen
        obtain ⟨Sc, mr, okb, rfl, rfl, rfl, rfl, hT, hB, hcl, hmm2, hlen⟩ := hrel
        rw [show closeA ls gk (Sc, mr, okb) = _ from closeA_eq ls gk Sc mr okb] at hcl
        cases okb
        case false =>
          have hno' : Hid (closeS ls given = none) := hcl.out
          cases mr <;>
          · go_wp2
            go_ret2
            exact ClosePost.no hB.out hno'.out
        case true =>
        cases mr
        case true =>
          have hgk := hmm2.out rfl
          obtain ⟨g, rfl⟩ : ∃ g, gk = g + 1 := ⟨gk - 1, by omega⟩
          have hcl2 : Hid (closeS ls given = closeA ls g (rdS ls Sc false)) := hcl.out
          have hrt := Lib.hid (round_truth w.heap.size Sc a n c ls wr hT.out (hx'.out.below hB.out (Nat.le_refl _)) hn hr'.out (by have := hlen.out; omega))
          have hms := Lib.hid (rdS_meas ls.flatten ls Sc false mem_flat)
          obtain ⟨S2, m2, k2, hr2⟩ : ∃ S2 m2 k2, rdS ls Sc false = (S2, m2, k2) := ⟨_, _, _, rfl⟩
          have hr2' := Lib.hid hr2
          rw [hr2] at hms hcl2
          clear hcl hr2 hmm2
          go_wp2_with fail
          refine hrt.out.mono ?_
          rintro e w2 ⟨rfl, ht2, htt⟩
          rw [hr2'.out] at ht2 ⊢
          have T2 := Lib.hid ht2
          have B2 := Lib.hid (hB.out.trans (htt.below hB.out.size (fun j hj => by omega)))
          clear ht2 htt hrt
          go_wp2
          go_roundg g
          case measure => omega
          case rel =>
            refine ⟨S2, m2, k2, rfl, rfl, rfl, rfl, T2.out, B2.out, hcl2.out, fun hm => ?_, ?_⟩
            · rcases hms.out.2.1 hm with h3 | h3
              · cases h3
              · have h4 : meas ls.flatten S2 + 1 ≤ meas ls.flatten Sc := h3
                omega
            · have h2 : S2.length + meas ls.flatten S2 ≤ Sc.length + meas ls.flatten Sc := hms.out.2.2
              have h3 := hlen.out
              show S2.length + meas ls.flatten S2 ≤ k + ls.flatten.length
              omega
        case false =>
          have hyes : Hid (closeS ls given = some Sc) := hcl.out
          have hnd := Lib.hid hT.out.nodup
          have hwf := Lib.hid hT.out.wf
          obtain ⟨D, hown, hsz, hF⟩ := hT.out.map
          have hF' := Lib.hid hF
          have hSc : Sc.length ≤ k + ls.flatten.length := by have := hlen.out; omega
          clear hcl hmm2 hlen hF hsz
          obtain ⟨i0, hi, hz0, hz1, hz2⟩ := info_parts info_int
          go_wp2_with (at_range; refine wpList_range_own _ rfl _ 80 rfl 3 4 law_int Try.underlying80 _ w.heap.size Sc.length _ rfl hown ?_; intro w0 hrg0 hg0 hs0)
          have hb0 := Lib.hid (hB.out.grown hg0 hB.out.size (fun j hj => by cases hj))
          have hri : w.heap.size < wr.heap.size := hown.lt
          have hM0 : Met Sc [] (Maps.has D) := by
            refine ⟨List.nodup_nil, fun x => ?_⟩
            rw [(hF'.out x).1]
            have e := hasI_iff (xs := Sc) (x := x)
            cases hh : hasI Sc x
            · simp [← e, hh]
            · simp
          have hM0' := Lib.hid hM0
          have hlh : ∀ x, Maps.has D (keyI x) = true → x ∈ Sc := fun x hx => by
            rw [(hF'.out x).1] at hx
            cases hh : hasI Sc x
            · rw [hh] at hx; cases hx
            · exact hasI_iff.1 hh
          have hlh' := Lib.hid hlh
          have hg0' := Lib.hid hg0
          clear hs0 hM0 hlh hg0
          obtain ⟨r, hr⟩ : ∃ r, wr.heap.size = r := ⟨_, rfl⟩
          rw [hr] at hrg0 hri ⊢
          have hrge : w.heap.size ≤ r := by omega
          clear hr
          have hrg0' := Lib.hid hrg0
          clear hrg0 hown
          obtain ⟨wo, rfl⟩ : ∃ wo : World, wo = wr := ⟨_, rfl⟩
          go_loopw [4] (fun v wx => ∃ (left : Lit → Bool) (cnt : Nat) (L : List Int), wx.ranges Try.prog 3 rawElem w.heap.size r Sc.length D left cnt ∧ Hid (Met Sc L left) ∧ Hid (∀ x, left (keyI x) = true → x ∈ Sc) ∧ wx.ownsRow w.heap.size 3 1 v L.length (L.map (Value.int .i64)) ∧ v.ownBlock ≠ some w.heap.size ∧ v.ownBlock ≠ some r ∧ Below w.heap.size w wx) (fun _ wx => wx.rangeLeft w.heap.size r)
          case atStart => exact ⟨_, _, [], hrg0'.out, hM0'.out, hlh'.out, World.ownsRow_nil _ _ _ _, by simp [Value.ownBlock], by simp [Value.ownBlock], hb0.out⟩
          case round =>
            clear hrg0' hM0' hlh' hb0 hg0'
            obtain ⟨left, cnt, L, hrg, hM, hlf, hown, hnb, hnr, hb⟩ := hrel
            have hLl : L.length ≤ Sc.length := nodup_len hM.out.nodup (fun x hx => ((hM.out.mem x).1 hx).1)
            have hrgl := Lib.hid hrg.left_eq
            have hM' := hM
            have hown' := Lib.hid hown
            have hb' := Lib.hid hb
            have hrz : r < wr.heap.size := hrg.lt
            have hsz := hb.size
            clear hown hb
            go_wp2_with (first
              | (at_next; refine wpList_next_ranges _ rfl _ rfl 3 law_int rawElem (Value.int .i64) id (fun key kl h => by obtain ⟨x, rfl, _⟩ := Maps.keyOf_int_inv Try.underlying3 h; exact ⟨x, rfl⟩) (fun v _ _ => ⟨v, rfl⟩) w.heap.size r Sc.length _ _ _ rfl hrg ?_ ?_))
            · intro hc0 hl0
              have hdone := Lib.hid (hM'.out.done hl0)
              have hlen := len_perm hnd.out hM'.out.nodup (fun x => by rw [hM'.out.mem, hl0]; simp)
              obtain ⟨a3, c3, rfl, _⟩ := hown'.out.slice
              have hso := Lib.hid (sorted_any w.heap.size a3 L.length c3 L wr hown'.out (by omega))
              have hlt3 := Lib.hid (hown'.out.lt)
              have hwL : WfI (sortC L) := fun x hx => hwf.out x ((hM'.out.mem x).1 (by unfold sortC at hx; exact List.mem_mergeSort.1 hx)).1
              have hwL' := Lib.hid hwL
              clear hrg hwL hlen hlf
              go_wp2_with fail
              refine hso.out.mono ?_
              rintro e w5 ⟨rfl, ho5, hg5⟩
              have hR5 := Lib.hid (RdI.own ho5 hwL'.out).2.1
              have hb5 := Lib.hid (hb'.out.grown hg5 hsz (fun j hj => (hlt3.out j hj).1))
              clear ho5 hg5
              go_wp2
              go_ret2
              exact ClosePost.yes hb5.out hyes.out (by rw [← hdone.out]; exact hR5.out)
            · intro x v0 kl yd yp w2 cnt2 hkey hlk hv hat hrg2 hlt hg2 hs2 hen
              obtain ⟨x', ex, rfl, hwx⟩ := Maps.keyOf_int_inv Try.underlying3 hkey
              cases ex
              have hxS : x ∈ Sc := hlf.out x hlk
              have hM2 := Lib.hid (hM'.out.step hxS hlk)
              have hlf2 := Lib.hid (fun z (hz : (left (keyI z) && !(keyI z).sameKey (keyI x)) = true) => hlf.out z (by cases hq : left (keyI z) <;> simp_all))
              have hown2 := Lib.hid (hown'.out.kept hg2 (Or.inr hnr))
              have hb2 := Lib.hid (hb'.out.grown hg2 hsz (fun j hj => by cases hj; exact hrge))
              have hz2' : r < w2.heap.size := by rw [hs2]; exact hrz
              have hcnt := Lib.hid hlt
              clear hs2 hkey hlk hv hat hg2 hlt hxS hM' hown' hb' hlf
              go_wp2_with (at_builtin; refine wpList_append_lies _ rfl _ _ 22 rfl w.heap.size 3 i0 (.int .i64 0) 1 8 Try.underlying22 hi hz0 hz1 hz2 rfl (by decide) _ _ _ rfl (hown2.out.alloc _) ⟨w2.heap.size, 0, none⟩ 1 1 [.int .i64 x] rfl rfl ?c1 ?c2 (by decide) ?c3 ?c4 ?c5 (w2.heap.size + 1) ?c6 ?_)
              case c1 => exact cell_one_new _ _ _
              case c2 => intro u hu; simp at hu; subst hu; rfl
              case c3 => unfold maxLen; omega
              case c4 => omega
              case c5 => simp; omega
              case c6 => simp
              intro g cap w3 hown3 hgrow3 hat3 hlt3
              have hrg3 := (hrg2.alloc (.cells #[.int .i64 x] 3)).kept hgrow3 (Ne.symm hnb) (Ne.symm hnr)
              have hres := Lib.hid (own_snoc (x := x) (L' := L ++ [x]) hown2.out hb2.out (Nat.le_refl _) hb2.out.size hown3 hgrow3 rfl)
              have hg1 : g ≠ w.heap.size := by
                rcases hat3 with h | h
                · rintro rfl; exact hnb h
                · omega
              have hg2 : g ≠ r := by
                rcases hat3 with h | h
                · rintro rfl; exact hnr h
                · omega
              have hrg3' := Lib.hid hrg3
              clear hown3 hgrow3 hat3 hrg3 hrg2
              go_wp2
              go_roundw
              case rel => exact ⟨_, cnt2, L ++ [x], hrg3'.out, hM2.out, hlf2.out, hres.out.1, by simpa [Value.ownBlock] using hg1, by simpa [Value.ownBlock] using hg2, hres.out.2⟩
              case measure => rw [hrg3'.out.left_eq, hrgl.out]; exact hcnt.out
end Go.Proofs.Ytdmnpjlgldlodaa
