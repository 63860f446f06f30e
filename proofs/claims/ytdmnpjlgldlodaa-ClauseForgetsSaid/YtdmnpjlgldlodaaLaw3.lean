/-
  The walk of theodolitelaw19.ClauseForgets: it returns true, whatever slice and number come in; it writes nothing old. Condition: the slice can be read.
-/
import Derived.Test.YtdmnpjlgldlodaaK
namespace Go.Proofs.Ytdmnpjlgldlodaa
open Go.RowKit Go.Sort Go.Lib

def fItem (ts : List Bool) (j : Nat) : Item := ⟨j, nrm [(j : Int) + 1, -(j : Int) - 2], nthB ts j⟩
/-- the store behind i additions -/
def fSt (n : Nat) (ts : List Bool) (i : Nat) : St := ⟨n, i, (List.range i).map (fItem ts)⟩

theorem RdB.touch {S : Nat → Prop} {w w' : World} {a : Option Addr} {n : Nat} {xs : List Bool} (h : RdB w a n xs) (ht : Touch S w w') (ho : Off S a) : RdB w' a n xs := by
  refine ⟨h.len, fun hn => ?_⟩
  obtain ⟨b, o, ha, hlt, hc⟩ := h.cells hn
  refine ⟨b, o, ha, Nat.lt_of_lt_of_le hlt ht.size, fun j hj => ?_⟩
  rw [World.cell?_of_block (w := w) (a := ⟨b, o + j, none⟩) (ht.block b hlt (ho _ ha))]
  exact hc j hj

theorem fSt_len (n : Nat) (ts : List Bool) (i : Nat) : (fSt n ts i).items.length = i := by simp [fSt]
theorem fSt_find (n : Nat) (ts : List Bool) (i k : Nat) : findIt (fSt n ts i).items k = if k < i then some (fItem ts k) else none := by
  unfold fSt findIt
  induction i with
  | zero => simp
  | succ i ih =>
    dsimp only at *
    rw [List.range_succ, List.map_append, List.find?_append, ih]
    by_cases h1 : k < i
    · rw [if_pos h1, if_pos (by omega)]; rfl
    · rw [if_neg h1]
      by_cases h2 : k = i
      · subst h2; rw [if_pos (by omega)]; simp [fItem]
      · rw [if_neg (by omega)]
        have : ((i : Int) == (k : Int)) = false := by simp; omega
        simp [fItem, this]
theorem two_ok (j : Nat) (hj : j < 16) : alw [(j : Int) + 1, -(j : Int) - 2] = false := by
  have : ∀ j : Fin 16, alw [((j.val : Nat) : Int) + 1, -((j.val : Nat) : Int) - 2] = false := by decide +kernel
  exact this ⟨j, hj⟩
theorem fSt_add (n : Nat) (ts : List Bool) (i : Nat) (hi : i < n) (hn : n ≤ 15) : eAdd (fSt n ts i) [(i : Int) + 1, -(i : Int) - 2] = 0 := by
  unfold eAdd
  rw [two_ok i (by omega), fSt_len]
  rw [if_neg (by decide), if_neg (by simp [fSt]; omega)]
theorem fSt_id (n : Nat) (ts : List Bool) (i : Nat) (hi : i < n) (hn : n ≤ 15) : idAdd (fSt n ts i) [(i : Int) + 1, -(i : Int) - 2] = i := by
  unfold idAdd; rw [if_pos (fSt_add n ts i hi hn)]; rfl
theorem fSt_succ (n : Nat) (ts : List Bool) (i : Nat) (hi : i < n) (hn : n ≤ 15) : sAdd (fSt n ts i) [(i : Int) + 1, -(i : Int) - 2] (nthB ts i) = fSt n ts (i + 1) := by
  unfold sAdd; rw [if_pos (fSt_add n ts i hi hn)]
  unfold fSt
  rw [List.range_succ, List.map_append]
  rfl
theorem fSt_apart (n : Nat) (ts : List Bool) (i : Nat) : (fSt n ts i).items.Pairwise fun a b => a.id ≠ b.id := by
  unfold fSt
  dsimp only
  rw [List.pairwise_map]
  refine List.Pairwise.imp ?_ List.nodup_range
  intro a b h e
  simp [fItem] at e
  exact h (by omega)

theorem one_ok : alw [99] = false ∧ alw [98] = false := by decide
/-- not learned -/
theorem keep_facts (n : Nat) (ts : List Bool) (k : Nat) (hk : k < n) (h : nthB ts k = false) :
    eForget (fSt n ts n) k = 1 ∧ sForget (fSt n ts n) k = fSt n ts n ∧ (findIt (fSt n ts n).items k).isSome = true ∧ eAdd (fSt n ts n) [99] = 4 ∧ sAdd (fSt n ts n) [99] true = fSt n ts n := by
  have hf := fSt_find n ts n k
  rw [if_pos hk] at hf
  have he : eForget (fSt n ts n) k = 1 := by rw [eForget_some hf]; simp [fItem, h]
  have ha : eAdd (fSt n ts n) [99] = 4 := by
    unfold eAdd
    rw [one_ok.1, fSt_len, if_neg (by decide), if_pos (by simp [fSt])]
  refine ⟨he, by unfold sForget; rw [he]; rfl, by rw [hf]; rfl, ha, by unfold sAdd; rw [ha]; rfl⟩
/-- learned -/
def gSt (n : Nat) (ts : List Bool) (k : Nat) : St := ⟨n, n, (fSt n ts n).items.filter fun it => it.id != (k : Int)⟩
def hSt (n : Nat) (ts : List Bool) (k : Nat) : St := ⟨n, (n : Int) + 1, (gSt n ts k).items ++ [⟨n, [99], true⟩]⟩
theorem go_facts (n : Nat) (ts : List Bool) (k : Nat) (hk : k < n) (h : nthB ts k = true) :
    eForget (fSt n ts n) k = 0 ∧ sForget (fSt n ts n) k = gSt n ts k ∧ (findIt (gSt n ts k).items k).isSome = false ∧
    eAdd (gSt n ts k) [99] = 0 ∧ idAdd (gSt n ts k) [99] = n ∧ sAdd (gSt n ts k) [99] true = hSt n ts k ∧
    (hSt n ts k).items.length = n ∧ eAdd (hSt n ts k) [98] = 4 ∧ sAdd (hSt n ts k) [98] true = hSt n ts k ∧ learnedOf (hSt n ts k) k = false ∧ eForget (hSt n ts k) k = 5 ∧ findIt (gSt n ts k).items n = none := by
  have hf := fSt_find n ts n k
  rw [if_pos hk] at hf
  have he : eForget (fSt n ts n) k = 0 := by rw [eForget_some hf]; simp [fItem, h]
  have hlen : (gSt n ts k).items.length = n - 1 := by
    have := length_filter_find (fSt n ts n).items (fSt_apart n ts n) k
    rw [hf, fSt_len] at this
    exact this
  have hgk : findIt (gSt n ts k).items k = none := by
    have := find_filter_ne (fSt n ts n).items k k
    rw [if_pos rfl] at this
    exact this
  have hgn : findIt (gSt n ts k).items n = none := by
    have := find_filter_ne (fSt n ts n).items k n
    rw [if_neg (by omega), fSt_find, if_neg (by omega)] at this
    exact this
  have ha : eAdd (gSt n ts k) [99] = 0 := by
    unfold eAdd
    rw [one_ok.1, hlen, if_neg (by decide), if_neg (by simp [gSt]; omega)]
  have hhl : (hSt n ts k).items.length = n := by
    unfold hSt; simp only [List.length_append, hlen, List.length_singleton]; omega
  have hh : eAdd (hSt n ts k) [98] = 4 := by
    unfold eAdd
    rw [one_ok.2, hhl, if_neg (by decide), if_pos (by simp [hSt])]
  have hhk : findIt (hSt n ts k).items k = none := by
    have := find_snoc (l := (gSt n ts k).items) (it := ⟨n, [99], true⟩) hgn k
    rw [if_neg (by simp; omega), hgk] at this
    exact this
  refine ⟨he, by unfold sForget; rw [he]; rfl, by rw [hgk]; rfl, ha, by unfold idAdd; rw [if_pos ha]; rfl, by unfold sAdd; rw [if_pos ha]; rfl, hhl, hh, by unfold sAdd; rw [hh]; rfl, by unfold learnedOf; rw [hhk], eForget_none hhk, hgn⟩

set_option maxRecDepth 100000 in
set_option maxHeartbeats 2000000 in
theorem clauseForgets_walk (a : Option Addr) (n c : Nat) (ts : List Bool) (at_ : Int) (w : World) (hx : RdB w a n ts) :
    Calls Try.prog 5 #[.slice a n c, .int .i64 at_] w fun e w' => e = .returned (.bool true) ∧ Below w.heap.size w w' := by
  have hx' := Lib.hid hx
  clear hx
  by_cases g1 : n < 1
  · go_enter Try.func5, Try.ntmps5
    go_wp2_with fail
    refine (awake_any w).mono ?_; rintro e w1 ⟨rfl, hb⟩
    have hb' := Lib.hid hb
    clear hb
    go_wp2
    go_ret
    exact ⟨rfl, hb'.out⟩
  by_cases g2 : 15 < n
  · go_enter Try.func5, Try.ntmps5
    go_wp2_with fail
    refine (awake_any w).mono ?_; rintro e w1 ⟨rfl, hb⟩
    have hb' := Lib.hid hb
    clear hb
    go_wp2
    go_ret
    exact ⟨rfl, hb'.out⟩
  go_enter Try.func5, Try.ntmps5
  go_wp2_with fail
  refine (new_any n w).mono ?_; rintro e w1 ⟨p, m, rfl, s1, hp, hm, b1⟩
  have S1 := Lib.hid (show StoreIs p m (fSt n ts 0) w1 from s1)
  have B1 := Lib.hid b1
  have X1 := Lib.hid (hx'.out.below b1 (Nat.le_refl _))
  have ho : Off (Own2 p m) a := by
    obtain ⟨b, o, ha, hlt, _⟩ := hx'.out.cells (by omega)
    intro x hx hs
    rw [ha] at hx
    cases hx
    rcases hs with hs | hs <;> simp at hs <;> omega
  have HO := Lib.hid ho
  clear s1 b1 hx' ho
  go_wp2
  go_loopw [7] (fun i wr => ∃ j : Nat, j ≤ n ∧ i = .int .i64 j ∧ Hid (StoreIs p m (fSt n ts j) wr) ∧ Hid (Touch (Own2 p m) w1 wr)) (fun i _ => n - (intOf i).toNat)
  case atStart => exact ⟨0, Nat.zero_le _, rfl, S1.out, Touch.refl _ _⟩
  case round =>
    obtain ⟨j, hj, rfl, hS, hT⟩ := hrel
    by_cases hlt : j < n
    · have hxw : RdB wr a n ts := by
        obtain ⟨b, o, ha, hbl, hc⟩ := X1.out.cells (by omega)
        exact ⟨X1.out.len, fun _ => ⟨b, o, ha, Nat.lt_of_lt_of_le hbl hT.out.size, fun i hi => by
          rw [World.cell?_of_block (w := w1) (a := ⟨b, o + i, none⟩) (hT.out.block b hbl (HO.out _ ha))]; exact hc i hi⟩⟩
      obtain ⟨b2, o2, rfl, h2⟩ := hxw.at j hlt
      have hl2 := Lib.hid (RdI.lit [(j : Int) + 1, -(j : Int) - 2] 3 wr (by intro x hx; simp at hx; omega))
      have h3 : (wr.alloc (.cells #[.int .i64 ((j : Int) + 1), .int .i64 (-(j : Int) - 2)] 3)).cell? ⟨b2, o2 + j, none⟩ = some (.bool (nthB ts j)) := by
        rw [Below.cell (lit_below (w := wr)) (World.block_lt_of_cell? wr _ h2)]; exact h2
      have e1 := Lib.hid (fSt_id n ts j hlt (by omega))
      have e2 := Lib.hid (fSt_add n ts j hlt (by omega))
      have e3 := Lib.hid (fSt_succ n ts j hlt (by omega))
      have hfd := Lib.hid (show findIt (fSt n ts j).items (fSt n ts j).next = none by have := fSt_find n ts j j; rw [if_neg (by omega)] at this; exact this)
      have hln := Lib.hid (fSt_len n ts j)
      clear hxw h2
      go_wp2_with fail
      refine (add_any p m (fSt n ts j) _ 2 _ [(j : Int) + 1, -(j : Int) - 2] (nthB ts j) _ (hS.out.touch lit_touch) hl2.out (by omega) (show 0 ≤ (j : Int) ∧ (j : Int) < 4611686018427387904 by omega) hfd.out (by rw [hln.out]; omega)).mono ?_; rintro e w2 ⟨rfl, s2, t2⟩
      rw [e1.out, e2.out]
      rw [e3.out] at s2
      have S2 := Lib.hid s2
      have T2 := Lib.hid (hT.out.trans (touch_lit t2))
      clear s2 t2 h3
      go_wp2
      go_roundw
      case rel => exact ⟨j + 1, by omega, by go_num, S2.out, T2.out⟩
      case measure => simp [intOf]; omega
    · obtain rfl : j = n := by omega
      have hBw := Lib.hid (B1.out.trans (hT.out.below (B := w.heap.size) B1.out.size (fun k hk => by rcases hk with hk | hk <;> omega)))
      have hxw : RdB wr a j ts := by
        obtain ⟨b, o, ha, hbl, hc⟩ := X1.out.cells (by omega)
        exact ⟨X1.out.len, fun _ => ⟨b, o, ha, Nat.lt_of_lt_of_le hbl hT.out.size, fun i hi => by
          rw [World.cell?_of_block (w := w1) (a := ⟨b, o + i, none⟩) (hT.out.block b hbl (HO.out _ ha))]; exact hc i hi⟩⟩
      have X := Lib.hid hxw
      clear hxw B1 X1 S1 hT
      go_wp2_with fail
      refine (round_any at_ j wr (by omega) (by omega)).mono ?_; rintro e w' ⟨rfl, rfl⟩
      have hrb := roundI_bd at_ (j : Int) (by omega)
      obtain ⟨k, hk⟩ : ∃ k : Nat, roundI at_ (j : Int) = k := ⟨(roundI at_ (j : Int)).toNat, by omega⟩
      rw [hk] at hrb ⊢
      clear hk
      have hkn : k < j := by omega
      have hok : okI (k : Int) := by unfold okI; omega
      have hok' := Lib.hid hok
      clear hok
      go_wp2_with fail
      refine (forget_any p m (fSt j ts j) k wr hS.out hok'.out (fSt_apart j ts j)).mono ?_; rintro e w2 ⟨rfl, s2, t2⟩
      cases hlr : nthB ts k
      · have F := Lib.hid (keep_facts j ts k hkn hlr)
        rw [F.out.1]
        rw [F.out.2.1] at s2
        have S2 := Lib.hid s2
        have B2 := Lib.hid (hBw.out.trans (t2.below (B := w.heap.size) hBw.out.size (fun k hk => by rcases hk with hk | hk <;> omega)))
        have X2 := Lib.hid (X.out.touch t2 HO.out)
        clear s2 t2 hS hBw X
        go_wp2_with fail
        refine (get_any p m (fSt j ts j) k w2 S2.out hok'.out).mono ?_; rintro e w3 ⟨al, ml, cl, rfl, _, _, _, b3⟩
        rw [F.out.2.2.1]
        have S3 := Lib.hid (S2.out.touch (.of_below b3))
        have B3 := Lib.hid (B2.out.trans (b3.mono B2.out.size))
        have X3 := Lib.hid (X2.out.below b3 (Nat.le_refl _))
        clear b3 S2 B2 X2
        go_wp2_with fail
        refine (add_any p m (fSt j ts j) _ 1 _ [99] true _ (S3.out.touch lit_touch) (RdI.lit [99] 3 w3 (by decide)) (by omega) (show 0 ≤ (j : Int) ∧ (j : Int) < 4611686018427387904 by omega) (by have := fSt_find j ts j j; rw [if_neg (by omega)] at this; exact this) (by rw [fSt_len]; omega)).mono ?_; rintro e w4 ⟨rfl, s4, t4⟩
        rw [F.out.2.2.2.1]
        rw [F.out.2.2.2.2] at s4
        have T4 := Lib.hid (touch_lit t4)
        have S4 := Lib.hid s4
        have B4 := Lib.hid (B3.out.trans (T4.out.below (B := w.heap.size) B3.out.size (fun k hk => by rcases hk with hk | hk <;> omega)))
        obtain ⟨b2, o2, rfl, h2⟩ := (X3.out.touch T4.out HO.out).at k hkn
        rw [hlr] at h2
        clear s4 t4 S3 B3 X3 T4 hlr F
        go_wp2_with fail
        refine (len_any p m (fSt j ts j) w4 S4.out).mono ?_; rintro e w' ⟨rfl, rfl⟩
        rw [fSt_len]
        go_wp2_with fail
        refine (awake_any w4).mono ?_; rintro e w5 ⟨rfl, b5⟩
        have B5 := Lib.hid (B4.out.trans (b5.mono B4.out.size))
        clear b5
        go_wp2
        go_ret
        exact ⟨rfl, B5.out⟩
      · obtain ⟨f1, f2, f3, f4, f5, f6, f7, f8, f9, f10, f11, f12⟩ := go_facts j ts k hkn hlr
        rw [f1]
        rw [f2] at s2
        have S2 := Lib.hid s2
        have B2 := Lib.hid (hBw.out.trans (t2.below (B := w.heap.size) hBw.out.size (fun k hk => by rcases hk with hk | hk <;> omega)))
        have X2 := Lib.hid (X.out.touch t2 HO.out)
        have F3 := Lib.hid f3
        have F4 := Lib.hid f4
        have F5 := Lib.hid f5
        have F6 := Lib.hid f6
        have F7 := Lib.hid f7
        have F8 := Lib.hid f8
        have F9 := Lib.hid f9
        have F10 := Lib.hid f10
        have F11 := Lib.hid f11
        have F12 := Lib.hid f12
        have G7 : (gSt j ts k).items.length + 1 = j := by have := f7; unfold hSt at this; simpa using this
        have G7' := Lib.hid G7
        clear s2 t2 hS hBw X f1 f2 f3 f4 f5 f6 f7 f8 f9 f10 f11 f12 G7
        go_wp2_with fail
        refine (get_any p m (gSt j ts k) k w2 S2.out hok'.out).mono ?_; rintro e w3 ⟨al, ml, cl, rfl, _, _, _, b3⟩
        rw [F3.out]
        have S3 := Lib.hid (S2.out.touch (.of_below b3))
        have B3 := Lib.hid (B2.out.trans (b3.mono B2.out.size))
        have X3 := Lib.hid (X2.out.below b3 (Nat.le_refl _))
        clear b3 S2 B2 X2
        go_wp2_with fail
        refine (add_any p m (gSt j ts k) _ 1 _ [99] true _ (S3.out.touch lit_touch) (RdI.lit [99] 3 w3 (by decide)) (by omega) (show 0 ≤ (j : Int) ∧ (j : Int) < 4611686018427387904 by omega) F12.out (by rw [G7'.out]; omega)).mono ?_; rintro e w4 ⟨rfl, s4, t4⟩
        rw [F4.out, F5.out]
        rw [F6.out] at s4
        have T4 := Lib.hid (touch_lit t4)
        have S4 := Lib.hid s4
        have B4 := Lib.hid (B3.out.trans (T4.out.below (B := w.heap.size) B3.out.size (fun k hk => by rcases hk with hk | hk <;> omega)))
        obtain ⟨b2, o2, rfl, h2⟩ := (X3.out.touch T4.out HO.out).at k hkn
        rw [hlr] at h2
        clear s4 t4 S3 B3 X3 T4 hlr
        have hfd : findIt (hSt j ts k).items (hSt j ts k).next = none := by
          have := find_snoc (l := (gSt j ts k).items) (it := ⟨j, [99], true⟩) F12.out ((j : Int) + 1)
          rw [if_neg (by simp; omega)] at this
          show findIt ((gSt j ts k).items ++ [⟨j, [99], true⟩]) ((j : Int) + 1) = none
          rw [this]
          have h3 := find_filter_ne (fSt j ts j).items k ((j : Int) + 1)
          rw [if_neg (by omega)] at h3
          have h4 := fSt_find j ts j (j + 1)
          rw [if_neg (by omega)] at h4
          exact h3.trans h4
        have hfd' := Lib.hid hfd
        clear hfd
        go_wp2_with fail
        refine (add_any p m (hSt j ts k) _ 1 _ [98] true _ (S4.out.touch lit_touch) (RdI.lit [98] 3 w4 (by decide)) (by omega) (show 0 ≤ (j : Int) + 1 ∧ (j : Int) + 1 < 4611686018427387904 by omega) hfd'.out (by rw [F7.out]; omega)).mono ?_; rintro e w5 ⟨rfl, s5, t5⟩
        rw [F8.out]
        rw [F9.out] at s5
        have T5 := Lib.hid (touch_lit t5)
        have S5 := Lib.hid s5
        have B5 := Lib.hid (B4.out.trans (T5.out.below (B := w.heap.size) B4.out.size (fun k hk => by rcases hk with hk | hk <;> omega)))
        clear s5 t5 T5 S4 B4
        go_wp2_with fail
        refine (len_any p m (hSt j ts k) w5 S5.out).mono ?_; rintro e w' ⟨rfl, rfl⟩
        rw [F7.out]
        go_wp2_with fail
        refine (learned_any p m (hSt j ts k) k w5 S5.out hok'.out).mono ?_; rintro e w' ⟨rfl, rfl⟩
        rw [F10.out]
        go_wp2_with fail
        refine (forget_any p m (hSt j ts k) k w5 S5.out hok'.out ?_).mono ?_
        · show ((gSt j ts k).items ++ [(⟨j, [99], true⟩ : Item)]).Pairwise fun a b => a.id ≠ b.id
          rw [List.pairwise_append]
          refine ⟨(fSt_apart j ts j).filter _, by simp, fun x hx y hy e => ?_⟩
          simp at hy
          subst hy
          have := List.find?_eq_none.1 F12.out x hx
          simp [e] at this
        rintro e w6 ⟨rfl, _, t6⟩
        rw [F11.out]
        have B6 := Lib.hid (B5.out.trans (t6.below (B := w.heap.size) B5.out.size (fun k hk => by rcases hk with hk | hk <;> omega)))
        clear t6
        go_wp2_with fail
        refine (awake_any w6).mono ?_; rintro e w7 ⟨rfl, b7⟩
        have B7 := Lib.hid (B6.out.trans (b7.mono B6.out.size))
        clear b7
        go_wp2
        go_ret
        exact ⟨rfl, B7.out⟩

theorem clauseForgets_row (a0 : Option Addr) (n0 c0 : Nat) (xs0 : List Bool) (x1 : Int) (W : World) (w0 : RdB W a0 n0 xs0) (_b0 : n0 ≤ c0 ∧ c0 ≤ 9223372036854775807) (_w1 : okI x1) :
    Calls Try.prog 5 #[.slice a0 n0 c0, .int .i64 x1] W fun e w' => e = .returned (.bool true) ∧ Below W.heap.size W w' :=
  clauseForgets_walk a0 n0 c0 xs0 x1 W w0
end Go.Proofs.Ytdmnpjlgldlodaa
