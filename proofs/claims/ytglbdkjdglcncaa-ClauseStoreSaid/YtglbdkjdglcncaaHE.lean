/-
  clause.Store.All: the numbers of all clauses, in order. Conditions: a store in memory of fewer than 2^40 clauses whose numbers rise.
-/
import Derived.Test.YtglbdkjdglcncaaHD
import Derived.Maps.RangeWalk
namespace Go.Proofs.Ytglbdkjdglcncaa
open Go.RowKit Go.Sort Go.Lib Go.Maps

def sortN (xs : List Int) : List Int := xs.mergeSort fun x y => decide (x ≤ y)
theorem sortN_any (base : Nat) (a : Option Addr) (n c : Nat) (xs : List Int) (w : World) (ho : w.ownsRow base 3 1 (.slice a n c) n (xs.map (Value.int .i64))) (hn : n < 17592186044416) :
    Calls Try.prog 21 #[.slice a n c] w fun e w' => e = .returned (.tuple #[]) ∧ w'.ownsRow base 3 1 (.slice a n c) n ((sortN xs).map (Value.int .i64)) ∧ w.grownBy w' (Value.ownBlock (.slice a n c)) := by
  have hl : xs.length = n := by simpa using ho.1
  rcases ho.2 with ⟨hv, rfl⟩ | ⟨g, cap, cur, hv, hg, hh, h1, h2, h3, h4⟩
  · cases hv
    have : xs = [] := List.eq_nil_of_length_eq_zero hl
    subst this
    refine (Try.slices_Sort_int_none none 0 w).mono ?_
    rintro e w' ⟨he, rfl⟩
    exact ⟨he, by rw [show sortN [] = [] from by simp [sortN]]; exact World.ownsRow_nil _ _ _ _, ⟨rfl, rfl, rfl, Nat.le_refl _, fun _ _ _ => rfl⟩⟩
  · cases hv
    subst hl
    have hlt := (Array.getElem?_eq_some_iff.1 hh).1
    have hS := Try.slices_Sort_int g 0 c xs w (holdsI_of_block hh (by simpa using h4)) hlt (by omega)
    refine hS.mono ?_
    rintro e w' ⟨he, q, os, rfl⟩
    have hls : (sortN xs).length = xs.length := by simp [sortN]
    refine ⟨he, ?_, ?_⟩
    · exact ownsRowI_sorted (n := q) (os := os) (ss := xs) (ts := sortN xs) hls hg hh h1 h2 h3
    · exact grownByI_sorted (w := w) (g := g) (n := q) (os := os) (sortN xs).toArray
theorem law_int : Keyed Try.prog 3 := int_keyed Try.underlying3
/-- the keys met so far in a range -/
structure Met (S L : List Int) (left : Lit → Bool) : Prop where
  nodup : L.Nodup
  mem : ∀ x, x ∈ L ↔ (x ∈ S ∧ left (keyI x) = false)
theorem Met.step {S L : List Int} {left : Lit → Bool} {x : Int} (h : Met S L left) (hx : x ∈ S) (hl : left (keyI x) = true) : Met S (L ++ [x]) (fun z => left z && !z.sameKey (keyI x)) := by
  have hn : x ∉ L := fun hm => by rw [((h.mem x).1 hm).2] at hl; cases hl
  refine ⟨?_, fun y => ?_⟩
  · rw [List.nodup_append]
    exact ⟨h.nodup, by simp, fun a ha b hb e => by simp at hb; subst hb; subst e; exact hn ha⟩
  · rw [List.mem_append, h.mem]
    by_cases e : y = x
    · subst e
      simp [hx, hl, WideAt.sameKey_self (keyI_lit y)]
    · have : (keyI y).sameKey (keyI x) = false := sameKey_ne (keyI_ne e)
      simp [this, e]
theorem nodup_len : ∀ {L S : List Int}, L.Nodup → (∀ x ∈ L, x ∈ S) → L.length ≤ S.length
  | [], _, _, _ => Nat.zero_le _
  | x :: L, S, h, hs => by
    obtain ⟨h1, h2⟩ := List.nodup_cons.1 h
    have hx := hs x (by simp)
    have := nodup_len (L := L) (S := S.erase x) h2 (fun y hy => (List.mem_erase_of_ne (fun e => h1 (by rw [← e]; exact hy))).2 (hs y (by simp [hy])))
    rw [List.length_erase_of_mem hx] at this
    have := List.length_pos_of_mem hx
    simp only [List.length_cons]
    omega
theorem Met.sorted {S L : List Int} {left : Lit → Bool} (h : Met S L left) (hS : S.Pairwise (· < ·)) (hl : ∀ kl, left kl = false) : sortN L = S ∧ L.length = S.length := by
  have hnS : S.Nodup := hS.imp fun h => by omega
  have hp : L.Perm S := (List.perm_ext_iff_of_nodup h.nodup hnS).2 fun x => by rw [h.mem, hl]; simp
  refine ⟨?_, hp.length_eq⟩
  have h1 : (sortN L).Pairwise (fun a b => a ≤ b) := by
    have := List.pairwise_mergeSort (le := fun x y : Int => decide (x ≤ y)) (fun a b c h1 h2 => by simp only [decide_eq_true_eq] at *; omega) (fun a b => by simp only [Bool.or_eq_true, decide_eq_true_eq]; omega) L
    exact this.imp fun h => by simpa using h
  have h2 : S.Pairwise (fun a b => a ≤ b) := hS.imp fun h => by omega
  exact List.Perm.eq_of_pairwise (le := fun a b : Int => a ≤ b) (fun a b _ _ h3 h4 => by omega) h1 h2 ((List.mergeSort_perm L _).trans hp)
def AllPost (ids : List Int) (w : World) (e : Ending) (w' : World) : Prop :=
  ∃ a c, e = .returned (.slice a ids.length c) ∧ RdI w' a ids.length ids ∧ Below w.heap.size w w'
theorem find_some_iff {l : List Item} {x : Int} : (findIt l x).isSome = true ↔ x ∈ l.map (·.id) := by
  unfold findIt
  rw [List.find?_isSome]
  simp
set_option maxRecDepth 100000 in
set_option maxHeartbeats 4000000 in
theorem all_any (Lo p m : Nat) (S : St) (w : World) (h : StoreIs Lo p m S w) (hm0 : m < w.heap.size) (hs : (S.items.map (·.id)).Pairwise (· < ·)) (hok : WfI (S.items.map (·.id))) (hn : S.items.length < 1099511627776) :
    Calls Try.prog 14 #[.pointer (some ⟨p, 0, none⟩)] w fun e w' => AllPost (S.items.map (·.id)) w e w' := by
  obtain ⟨F, ⟨D, hown, _, hD⟩, hF⟩ := h.map
  have hF' := Lib.hid (show ∀ x, Maps.has D (keyI x) = (findIt S.items x).isSome from fun x => by
    rw [(hD x).1]
    have := hF x
    cases hf : findIt S.items x with
    | none => rw [hf] at this; dsimp only at this; rw [this]; rfl
    | some it => rw [hf] at this; dsimp only at this; obtain ⟨a, n, c, h1, _⟩ := this; rw [h1]; rfl)
  have c2 := h.c2
  have hs' := Lib.hid hs
  have hok' := Lib.hid hok
  obtain ⟨i0, hi, hz0, hz1, hz2⟩ := info_int1
  have hmi : ∀ x, (findIt S.items x).isSome = true ↔ x ∈ S.items.map (·.id) := fun x => find_some_iff
  have hlen : (S.items.map (·.id)).length = S.items.length := List.length_map ..
  obtain ⟨Sc, hSc⟩ : ∃ Sc, Sc = S.items.map (·.id) := ⟨_, rfl⟩
  rw [← hSc] at hs' hok' hmi hlen ⊢
  have hmi' := Lib.hid hmi
  have hown' := Lib.hid hown
  obtain ⟨n, hnn⟩ : ∃ n, n = S.items.length := ⟨_, rfl⟩
  rw [← hnn] at hlen hown hn hown'
  have hM0 : Met Sc [] (Maps.has D) := by
    refine ⟨List.nodup_nil, fun x => ?_⟩
    rw [hF'.out x]
    have e := hmi x
    cases hh : (findIt S.items x).isSome
    · rw [hh] at e; simp [← e]
    · simp
  have hM0' := Lib.hid hM0
  have hlh := Lib.hid (show ∀ x, Maps.has D (keyI x) = true → x ∈ Sc from fun x hx => by rw [hF'.out x] at hx; exact (hmi x).1 hx)
  have hlen' := Lib.hid hlen
  clear h hF hD hs hok hmi hM0 hSc hnn hlen
  go_enter Try.func14, Try.ntmps14
  go_wp2_with (at_range; refine wpList_range_own _ rfl _ 52 rfl 3 56 law_int Try.underlying52 _ m n _ rfl hown ?_; intro w0 hrg0 hg0 hs0)
  have hb0 := Lib.hid ((Below.refl w.heap.size w).grown hg0 (Nat.le_refl _) (fun j hj => by cases hj))
  have hri : m < w.heap.size := hm0
  clear hs0 hg0
  have hrg0' := Lib.hid hrg0
  clear hrg0 hown
  go_frame
  go_loopw [2] (fun v wx => ∃ (left : Lit → Bool) (cnt : Nat) (L : List Int), wx.ranges Try.prog 3 rawElem m w.heap.size n D left cnt ∧ Hid (Met Sc L left) ∧ Hid (∀ x, left (keyI x) = true → x ∈ Sc) ∧ wx.ownsRow w.heap.size 3 1 v L.length (L.map (Value.int .i64)) ∧ v.ownBlock ≠ some m ∧ v.ownBlock ≠ some w.heap.size ∧ Below w.heap.size w wx) (fun _ wx => wx.rangeLeft m w.heap.size)
  case atStart => exact ⟨_, _, [], hrg0'.out, hM0'.out, hlh.out, World.ownsRow_nil _ _ _ _, by simp [Value.ownBlock], by simp [Value.ownBlock], hb0.out⟩
  case round =>
    clear hrg0' hM0' hb0 hlh
    obtain ⟨left, cnt, L, hrg, hM, hlf, hown, hnb, hnr, hb⟩ := hrel
    have hLl : L.length ≤ Sc.length := nodup_len hM.out.nodup (fun x hx => ((hM.out.mem x).1 hx).1)
    have hLb : L.length < 1099511627776 := by have := hlen'.out; omega
    clear hLl
    have hrgl := Lib.hid hrg.left_eq
    have hM' := hM
    have hown' := Lib.hid hown
    have hb' := Lib.hid hb
    have hrz : w.heap.size < wr.heap.size := hrg.lt
    have hsz := hb.size
    clear hown hb
    go_wp2_with (first
      | (at_next; refine wpList_next_ranges _ rfl _ rfl 3 law_int rawElem (Value.int .i64) id (fun key kl h => by obtain ⟨x, rfl, _⟩ := Maps.keyOf_int_inv Try.underlying3 h; exact ⟨x, rfl⟩) (fun v _ _ => ⟨v, rfl⟩) m w.heap.size n _ _ _ rfl hrg ?_ ?_))
    · intro hc0 hl0
      obtain ⟨hdone, hlen2⟩ := hM'.out.sorted hs'.out hl0
      have hdone' := Lib.hid hdone
      have hl2 := Lib.hid hlen2
      obtain ⟨a3, c3, rfl, _⟩ := hown'.out.slice
      have hso := Lib.hid (sortN_any w.heap.size a3 L.length c3 L wr hown'.out (by omega))
      have hlt3 := Lib.hid (hown'.out.lt)
      clear hrg hdone hlf hlen2
      go_wp2_with fail
      refine hso.out.mono ?_
      rintro e w5 ⟨rfl, ho5, hg5⟩
      rw [hdone'.out] at ho5
      have hR5 := Lib.hid (RdI.own ho5 hok'.out).2.1
      have hb5 := Lib.hid (hb'.out.grown hg5 hsz (fun j hj => (hlt3.out j hj).1))
      clear ho5 hg5
      go_wp2
      go_ret
      exact ⟨a3, c3, by rw [hl2.out] <;> rfl, by rw [← hl2.out]; exact hR5.out, hb5.out⟩
    · intro x v0 kl yd yp w2 cnt2 hkey hlk hv hat hrg2 hlt hg2 hs2 hen
      obtain ⟨x', ex, rfl, hwx⟩ := Maps.keyOf_int_inv Try.underlying3 hkey
      cases ex
      have hxS : x ∈ Sc := hlf.out x hlk
      have hM2 := Lib.hid (hM'.out.step hxS hlk)
      have hlf2 := Lib.hid (fun z (hz : (left (keyI z) && !(keyI z).sameKey (keyI x)) = true) => hlf.out z (by cases hq : left (keyI z) <;> simp_all))
      have hown2 := Lib.hid (hown'.out.kept hg2 (Or.inr hnr))
      have hb2 := Lib.hid (hb'.out.grown hg2 hsz (fun j hj => by cases hj; exact Nat.le_refl _))
      have hz2' : w.heap.size < w2.heap.size := by rw [hs2]; exact hrz
      have hcnt := Lib.hid hlt
      clear hs2 hkey hlk hv hat hg2 hlt hxS hM' hown' hb' hlf
      go_wp2_with (at_builtin; refine wpList_append_lies _ rfl _ _ 30 rfl w.heap.size 3 i0 (.int .i64 0) 1 8 Try.underlying30 hi hz0 hz1 hz2 rfl (by decide) _ _ _ rfl (hown2.out.alloc _) ⟨w2.heap.size, 0, none⟩ 1 1 [.int .i64 x] rfl rfl ?c1 ?c2 (by decide) ?c3 ?c4 ?c5 (w2.heap.size + 1) ?c6 ?_)
      case c1 => exact cell_one_new _ _ _
      case c2 => intro u hu; simp at hu; subst hu; rfl
      case c3 => unfold maxLen; omega
      case c4 => omega
      case c5 => simp; omega
      case c6 => simp
      intro g cap w3 hown3 hgrow3 hat3 hlt3
      have hrg3 := (hrg2.alloc (.cells #[.int .i64 x] 3)).kept hgrow3 (Ne.symm hnb) (Ne.symm hnr)
      have hres := Lib.hid (own_snoc (x := x) (L' := L ++ [x]) hown2.out hb2.out (Nat.le_refl _) hb2.out.size hown3 hgrow3 rfl)
      have hg1 : g ≠ m := by
        rcases hat3 with h | h
        · rintro rfl; exact hnb h
        · omega
      have hg2 : g ≠ w.heap.size := by
        rcases hat3 with h | h
        · rintro rfl; exact hnr h
        · omega
      have hrg3' := Lib.hid hrg3
      clear hown3 hgrow3 hat3 hrg3 hrg2
      go_wp2
      go_roundw
      case rel => exact ⟨_, cnt2, L ++ [x], hrg3'.out, hM2.out, hlf2.out, hres.out.1, by simpa [Value.ownBlock] using hg1, by simpa [Value.ownBlock] using hg2, hres.out.2⟩
      case measure => rw [hrg3'.out.left_eq, hrgl.out]; exact hcnt.out
end Go.Proofs.Ytglbdkjdglcncaa
