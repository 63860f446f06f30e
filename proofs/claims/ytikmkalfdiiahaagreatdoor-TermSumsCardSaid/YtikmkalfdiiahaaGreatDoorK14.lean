/-
  Parts of this claim's texts, one behind the other: ZK ZL. No condition.
-/
import Derived.Test.YtikmkalfdiiahaaGreatDoorK12
set_option linter.unusedVariables false
set_option linter.unusedSimpArgs false
/-
  theodolitelaw7.TermSums: the law, without the program. No condition.
-/
namespace Go.Proofs.YtikmkalfdiiahaaGreatDoor
open Go.RowKit Go.Sort Go.Lib

def nZero : NodeD := ⟨11, ⟨#[]⟩, rat_0, [], 1⟩
def nMinus : NodeD := ⟨14, ⟨#[]⟩, noRat, [1], 1⟩
def nHalf : NodeD := ⟨16, ⟨#[]⟩, noRat, [1, 3], 1⟩
def nNone : NodeD := ⟨14, ⟨#[]⟩, noRat, [2], 1⟩
def nSum : NodeD := ⟨13, ⟨#[]⟩, noRat, [1, 1], 1⟩
def B3 : TermD := addN A2 nZero
def B4 : TermD := addN B3 nMinus
def B5 : TermD := addN B4 nHalf
def B6 : TermD := addN B5 nNone
def B7 : TermD := addN B6 nSum
theorem mk_zero : makeD A2 11 ⟨#[]⟩ rat_0 [] = ((2, 0), B3) := (make_put (s := 1) (by decide +kernel) (by decide +kernel) rfl rfl).trans (put_addN (by decide +kernel) (by decide +kernel))
theorem mk_minus : makeD B3 14 ⟨#[]⟩ noRat [1] = ((3, 0), B4) := (make_put (s := 1) (by decide +kernel) (by decide +kernel) (by decide +kernel) (by decide +kernel)).trans (put_addN (by decide +kernel) (by decide +kernel))
theorem mk_half : makeD B4 16 ⟨#[]⟩ noRat [1, 3] = ((4, 0), B5) := (make_put (s := 1) (by decide +kernel) (by decide +kernel) (by decide +kernel) (by decide +kernel)).trans (put_addN (by decide +kernel) (by decide +kernel))
theorem mk_none : makeD B5 14 ⟨#[]⟩ noRat [2] = ((5, 0), B6) := (make_put (s := 1) (by decide +kernel) (by decide +kernel) (by decide +kernel) (by decide +kernel)).trans (put_addN (by decide +kernel) (by decide +kernel))
theorem mk_sum : makeD B6 13 ⟨#[]⟩ noRat [1, 1] = ((6, 0), B7) := (make_put (s := 1) (by decide +kernel) (by decide +kernel) (by decide +kernel) (by decide +kernel)).trans (put_addN (by decide +kernel) (by decide +kernel))
theorem ok_A0' : TermOk A0 := TermOk.empty 10
theorem ok_B1 : TermOk A1 := by have := ok_A0'.make (op := 12) (nm := sx) (val := noRat) (args := []) (by decide) (by decide); rw [mk_x] at this; exact this
theorem ok_B2 : TermOk A2 := by have := ok_B1.make (op := 11) (nm := ⟨#[]⟩) (val := rat_2) (args := []) (by decide) (by decide); rw [mk_two] at this; exact this
theorem ok_B3 : TermOk B3 := by have := ok_B2.make (op := 11) (nm := ⟨#[]⟩) (val := rat_0) (args := []) (by decide) (by decide); rw [mk_zero] at this; exact this
theorem ok_B4 : TermOk B4 := by have := ok_B3.make (op := 14) (nm := ⟨#[]⟩) (val := noRat) (args := [1]) (by decide) (by decide); rw [mk_minus] at this; exact this
theorem ok_B5 : TermOk B5 := by have := ok_B4.make (op := 16) (nm := ⟨#[]⟩) (val := noRat) (args := [1, 3]) (by decide) (by decide); rw [mk_half] at this; exact this
theorem ok_B6 : TermOk B6 := by have := ok_B5.make (op := 14) (nm := ⟨#[]⟩) (val := noRat) (args := [2]) (by decide) (by decide); rw [mk_none] at this; exact this
theorem ok_B7 : TermOk B7 := by have := ok_B6.make (op := 13) (nm := ⟨#[]⟩) (val := noRat) (args := [1, 1]) (by decide) (by decide); rw [mk_sum] at this; exact this

def isFree (x : Int) : Bool := x == 0 || x == 6
def isBad (x : Int) : Bool := x == 0 || x == 6 || x == 2 || x == 5
def freeK (ks : List Int) : Nat := (ks.filter isFree).length
def badK (ks : List Int) : Bool := (ks.drop 1).any isBad
def opM (div : Bool) : Int := if div then 16 else 15
def goodM (div : Bool) (ks : List Int) : Bool := if div then !badK ks else decide ((freeK ks : Int) ≤ 1)
theorem freeK_snoc (ks : List Int) (r : Int) : freeK (ks ++ [r]) = if isFree r then freeK ks + 1 else freeK ks := by
  unfold freeK
  rw [List.filter_append, List.length_append]
  cases h : isFree r <;> simp [h]
theorem badK_one (r : Int) : badK [r] = false := rfl
theorem badK_snoc {ks : List Int} (h : 0 < ks.length) (r : Int) : badK (ks ++ [r]) = (badK ks || isBad r) := by
  unfold badK
  rw [List.drop_append_of_le_length (by omega), List.any_append]
  simp
theorem b7_all : ∀ k : Fin 7, hasT B7 (k.val : Int) = true ∧ ((nodeAt B7 (k.val : Int)).sort == 1) = true ∧ (!(numAt B7 (k.val : Int)).1) = isFree (k.val : Int) ∧ badQuot B7 (k.val : Int) = isBad (k.val : Int) := by decide +kernel
theorem b7_at {x : Int} (h : 0 ≤ x ∧ x < 7) : hasT B7 x = true ∧ ((nodeAt B7 x).sort == 1) = true ∧ (!(numAt B7 x).1) = isFree x ∧ badQuot B7 x = isBad x := by
  obtain ⟨k, rfl⟩ := Int.eq_ofNat_of_zero_le h.1
  exact b7_all ⟨k, by omega⟩
theorem numericD_7 {ks : List Int} (hk : ∀ x ∈ ks, 0 ≤ x ∧ x < 7) (div : Bool) : numericD B7 (opM div) ks = (decide (2 ≤ ks.length) && goodM div ks) := by
  have h1 : allD B7 ks 1 = true := by
    unfold allD
    rw [Bool.not_eq_true', List.any_eq_false]
    intro x hx
    rw [(b7_at (hk x hx)).2.1]
    simp
  have h2 : others B7 ks = freeK ks := by
    unfold others freeK
    congr 1
    exact List.filter_congr fun x hx => (b7_at (hk x hx)).2.2.1
  have h3 : quotientD B7 ks = !badK ks := by
    unfold quotientD badK
    congr 1
    have : ∀ l : List Int, (∀ x ∈ l, 0 ≤ x ∧ x < 7) → l.any (badQuot B7) = l.any isBad := fun l hl => by
      induction l with
      | nil => rfl
      | cons a l ih => rw [List.any_cons, List.any_cons, ih fun x hx => hl x (by simp [hx]), (b7_at (hl a (by simp))).2.2.2]
    exact this _ fun x hx => hk x (List.mem_of_mem_drop hx)
  unfold numericD goodM
  have hle : leastD (opM div) = 2 := by cases div <;> rfl
  rw [hle, h1, h3]
  unfold productD
  rw [h2]
  by_cases h : (ks.length : Int) < 2
  · rw [if_pos h, decide_eq_false (by omega)]; rfl
  · rw [if_neg h, decide_eq_true (show 2 ≤ ks.length by omega)]
    have hd : decide ((freeK ks : Int) ≤ 1) = decide (freeK ks ≤ 1) := by congr 1; rw [eq_iff_iff]; omega
    rw [hd]
    cases div <;> simp [opM]
theorem sums_law {ks : List Int} (hk : ∀ x ∈ ks, 0 ≤ x ∧ x < 7) (hl : ks.length ≤ 10) (div : Bool) :
    (makeD B7 (opM div) ⟨#[]⟩ noRat ks).1.2 = if (goodM div ks && decide (1 < (ks.length : Int))) = true then 0 else 3 := by
  have e : decide (1 < (ks.length : Int)) = decide (2 ≤ ks.length) := by congr 1; rw [eq_iff_iff]; omega
  rw [e, Bool.and_comm, ← numericD_7 hk div]
  have h1 : badHead (opM div) ks = false := by cases div <;> simp [badHead, opM] <;> omega
  have h2 : badVal (opM div) ⟨#[]⟩ noRat = false := by cases div <;> decide +kernel
  have h3 : ks.any (fun i => !hasT B7 i) = false := by
    rw [List.any_eq_false]
    intro x hx
    rw [(b7_at (hk x hx)).1]
    simp
  have h4 : sortedD B7 (opM div) ⟨#[]⟩ ks = (1, numericD B7 (opM div) ks) := by cases div <;> rfl
  cases hn : numericD B7 (opM div) ks
  · rw [make_no h1 h2 h3 (by rw [h4]; exact hn)]
    rfl
  · rw [make_put h1 h2 h3 (by rw [h4, hn])]
    generalize (⟨opM div, ⟨#[]⟩, noRat, ks, 1⟩ : NodeD) = n
    cases hi : B7.ids (keyB n) with
    | some i => rw [put_some hi]; rfl
    | none => rw [put_addN hi (by decide +kernel)]; rfl
end Go.Proofs.YtikmkalfdiiahaaGreatDoor

/-
  theodolitelaw7.TermSums: the walk: it returns true and writes nothing old. Condition: the library's tables as its text lays them.
-/
namespace Go.Proofs.YtikmkalfdiiahaaGreatDoor
open Go.RowKit Go.Sort Go.Lib

theorem own_dat {w : World} {base n c : Nat} {a : Option Addr} {xs : List Int} (h : w.ownsRow base 3 1 (.slice a n c) n (xs.map (Value.int .i64))) (hx : ∀ x ∈ xs, okI x) : SlR Rep.int (DatB w) w a n xs :=
  SlR.ofI (RdI.own h hx).2.1 fun x hn e => by
    obtain ⟨g, cap, hv, _⟩ := (OwnC.of h).form hn
    injection hv with h1 h2 h3
    rw [h1] at e
    injection e with e
    subst e
    obtain ⟨cs, f, hc⟩ := (OwnC.of h).ty g (by rw [h1]; rfl)
    exact ⟨cs, f, .inl hc⟩
theorem own_args {w : World} {base n c : Nat} {a : Option Addr} {xs : List Int} (h : w.ownsRow base 3 1 (.slice a n c) n (xs.map (Value.int .i64))) (hx : ∀ x ∈ xs, okI x) {op : Int} (ho : okI op) (h11 : op ≠ 11) : MArgs w ⟨#[]⟩ noRat xs op none none a 0 0 c := by
  obtain ⟨a', c', hv, h1, h2⟩ := (OwnC.of h).slice
  injection hv with e1 e2 e3
  subst e3
  have hl := (OwnC.of h).1
  have hl2 : xs.length = n := by simpa using hl
  subst hl2
  exact ⟨SlR.nil _ _ _ _, SlR.nil _ _ _ _, own_dat h hx, ⟨Nat.le_refl _, Nat.zero_le _⟩, ⟨Nat.le_refl _, Nat.zero_le _⟩, ⟨h1, h2⟩, by decide, by decide, ho, fun e => absurd e h11⟩
theorem rounds_in (xs : List Int) (n : Int) (h : 0 < n) : ∀ x ∈ xs.map (roundI · n), 0 ≤ x ∧ x < n := fun x hx => by
  obtain ⟨y, _, rfl⟩ := List.mem_map.1 hx
  exact roundI_bd y n h
theorem rounds_snoc {xs : List Int} {k : Nat} (h : k < xs.length) (n : Int) : (xs.take (k + 1)).map (roundI · n) = (xs.take k).map (roundI · n) ++ [roundI (nth xs k) n] := by
  rw [List.take_succ_eq_append_getElem h, List.map_append, nth_eq h]; rfl
set_option maxRecDepth 100000 in
set_option maxHeartbeats 16000000 in
theorem termSums_walk (a : Option Addr) (n c : Nat) (xs : List Int) (div : Bool) (w : World) (hE : EnvT w) (hx : RdI w a n xs) (_hn : n ≤ c ∧ c ≤ 9223372036854775807) :
    Calls Tryz.prog 6 #[.slice a n c, .bool div] w fun e w' => e = .returned (.bool true) ∧ Below w.heap.size w w' := by
  have hE' := Lib.hid hE
  have haw := Lib.hid (awake7_any w hE)
  have hx' := Lib.hid hx
  have hxl := Lib.hid hx.len
  clear hE hx
  by_cases g1 : n < 1
  · obtain rfl : n = 0 := by omega
    go_enter Tryz.func6, Tryz.ntmps6
    go_wp2_with fail
    refine haw.out.mono ?_; rintro e w' ⟨rfl, b⟩
    go_wp2
    go_ret
    exact ⟨rfl, b⟩
  by_cases g2 : 10 < n
  · have g3 : ¬ ((n : Int) < 1) := by omega
    have g4 : (10 : Int) < n := by omega
    go_enter Tryz.func6, Tryz.ntmps6
    go_wp2_with fail
    refine haw.out.mono ?_; rintro e w' ⟨rfl, b⟩
    go_wp2
    go_ret
    exact ⟨rfl, b⟩
  have g3 : ¬ ((n : Int) < 1) := by omega
  have g4 : ¬ ((10 : Int) < n) := by omega
  clear haw
  have htb := Lib.hid (tables_any w hE'.out.env)
  go_enter Tryz.func6, Tryz.ntmps6
  go_wp2_with fail
  refine htb.out.mono ?_; rintro e w1 ⟨p, r, rfl, t1, b1⟩
  have I1 := Lib.hid (show St w p A0 w1 from ⟨t1, b1⟩)
  have h1 := Lib.hid (app_any w.heap.size p A0 sx w1 t1 ok_A0.sm (I1.out.env hE'.out) (by decide))
  rw [mk_x] at h1
  clear t1 b1 htb
  go_wp2_with fail
  refine h1.out.mono ?_; rintro e w2 ⟨rfl, t2, s2⟩
  have I2 := Lib.hid (I1.out.step t2 s2)
  have h2 := Lib.hid (num_2 w.heap.size p A1 w2 t2 ok_A1.sm (I2.out.env hE'.out))
  rw [mk_two] at h2
  clear t2 s2 I1 h1
  go_wp2_with fail
  refine h2.out.mono ?_; rintro e w3 ⟨rfl, t3, s3⟩
  have I3 := Lib.hid (I2.out.step t3 s3)
  have h3 := Lib.hid (num_0 w.heap.size p A2 w3 t3 ok_A2.sm (I3.out.env hE'.out))
  rw [mk_zero] at h3
  clear t3 s3 I2 h2
  go_wp2_with fail
  refine h3.out.mono ?_; rintro e w4 ⟨rfl, t4, s4⟩
  have I4 := Lib.hid (I3.out.step t4 s4)
  clear t4 s4 I3 h3
  have I4a := Lib.hid (I4.out.lit (.cells #[.int .i64 1] 3))
  have h4 := Lib.hid (make_any w.heap.size p B3 14 ⟨#[]⟩ noRat [1] none none (some ⟨w4.heap.size, 0, none⟩) 0 0 1 _ I4a.out.t ok_B3.sm (I4a.out.env hE'.out) (lit_args w4 14 [1] ⟨by decide, by decide⟩ (by intro x hx; simp at hx; subst hx; exact ⟨by decide, by decide⟩) (by decide) (by decide)))
  unfold MakePost at h4
  rw [mk_minus] at h4
  go_wp2_with fail
  refine h4.out.mono ?_; rintro e w5 ⟨rfl, t5, s5⟩
  have I5 := Lib.hid (I4a.out.step t5 s5)
  clear t5 s5 I4 I4a h4
  have I5a := Lib.hid (I5.out.lit (.cells #[.int .i64 1, .int .i64 3] 3))
  have h5 := Lib.hid (make_any w.heap.size p B4 16 ⟨#[]⟩ noRat [1, 3] none none (some ⟨w5.heap.size, 0, none⟩) 0 0 2 _ I5a.out.t ok_B4.sm (I5a.out.env hE'.out) (lit_args w5 16 [1, 3] ⟨by decide, by decide⟩ (by intro x hx; simp at hx; rcases hx with rfl | rfl <;> exact ⟨by decide, by decide⟩) (by decide) (by decide)))
  unfold MakePost at h5
  rw [mk_half] at h5
  go_wp2_with fail
  refine h5.out.mono ?_; rintro e w6 ⟨rfl, t6, s6⟩
  have I6 := Lib.hid (I5a.out.step t6 s6)
  clear t6 s6 I5 I5a h5
  have I6a := Lib.hid (I6.out.lit (.cells #[.int .i64 2] 3))
  have h6 := Lib.hid (make_any w.heap.size p B5 14 ⟨#[]⟩ noRat [2] none none (some ⟨w6.heap.size, 0, none⟩) 0 0 1 _ I6a.out.t ok_B5.sm (I6a.out.env hE'.out) (lit_args w6 14 [2] ⟨by decide, by decide⟩ (by intro x hx; simp at hx; subst hx; exact ⟨by decide, by decide⟩) (by decide) (by decide)))
  unfold MakePost at h6
  rw [mk_none] at h6
  go_wp2_with fail
  refine h6.out.mono ?_; rintro e w7 ⟨rfl, t7, s7⟩
  have I7 := Lib.hid (I6a.out.step t7 s7)
  clear t7 s7 I6 I6a h6
  have I7a := Lib.hid (I7.out.lit (.cells #[.int .i64 1, .int .i64 1] 3))
  have h7 := Lib.hid (make_any w.heap.size p B6 13 ⟨#[]⟩ noRat [1, 1] none none (some ⟨w7.heap.size, 0, none⟩) 0 0 2 _ I7a.out.t ok_B6.sm (I7a.out.env hE'.out) (lit_args w7 13 [1, 1] ⟨by decide, by decide⟩ (by intro x hx; simp at hx; subst hx; exact ⟨by decide, by decide⟩) (by decide) (by decide)))
  unfold MakePost at h7
  rw [mk_sum] at h7
  go_wp2_with fail
  refine h7.out.mono ?_; rintro e w8 ⟨rfl, t8, s8⟩
  have I8 := Lib.hid (I7a.out.step t8 s8)
  clear t8 s8 I7 I7a h7
  have I9 := Lib.hid (I8.out.lit (.cells #[.int .i64 0, .int .i64 1, .int .i64 2, .int .i64 3, .int .i64 4, .int .i64 5, .int .i64 6] 3))
  have R9 : RdI (w8.alloc (.cells #[.int .i64 0, .int .i64 1, .int .i64 2, .int .i64 3, .int .i64 4, .int .i64 5, .int .i64 6] 3)) (some ⟨w8.heap.size, 0, none⟩) 7 [0, 1, 2, 3, 4, 5, 6] := RdI.lit [0, 1, 2, 3, 4, 5, 6] 3 w8 (by decide)
  have R9' := Lib.hid R9
  have X9 := Lib.hid (hx'.out.below (I9.out.b) (Nat.le_refl _))
  have hn1 : n ≤ 10 := by omega
  obtain ⟨i0, hi0, hz0, hz1, hz2⟩ := info_parts info_int
  clear R9
  go_wp2
  generalize hW9 : w8.alloc (.cells #[.int .i64 0, .int .i64 1, .int .i64 2, .int .i64 3, .int .i64 4, .int .i64 5, .int .i64 6] 3) = w9 at *
  go_loopw [19, 20, 21, 22, 23] (fun v19 v20 v21 v22 _ wr => ∃ (k : Nat) (ks : List Int), k ≤ n ∧ v22 = .int .i64 k ∧ v20 = .int .i64 (freeK ks) ∧ v21 = .bool (badK ks) ∧ Hid (ks = (xs.take k).map (roundI · 7)) ∧ Hid (ks.length = k) ∧ freeK ks ≤ k ∧ Hid (Below w9.heap.size w9 wr) ∧ Hid (wr.ownsRow w9.heap.size 3 1 v19 ks.length (ks.map (Value.int .i64)))) (fun _ _ _ v22 _ _ => n - (intOf v22).toNat)
  case atStart => exact ⟨0, [], Nat.zero_le _, rfl, rfl, rfl, rfl, rfl, Nat.le_refl _, Below.refl _ _, World.ownsRow_nil _ _ _ _⟩
  case round =>
    obtain ⟨k, ks, hk, rfl, rfl, rfl, hks, hkl, hfr, hB, hO⟩ := hrel
    by_cases hlt : k < n
    · obtain ⟨b1, o1, rfl, k0⟩ := (X9.out.below hB.out (Nat.le_refl _)).at k hlt
      have hrd := Lib.hid (round_any (nth xs k) 7 wr (by decide) (by decide))
      obtain ⟨g5, g6⟩ := roundI_bd (nth xs k) 7 (by decide)
      have hsn := Lib.hid (rounds_snoc (xs := xs) (k := k) (by have := hxl.out; omega) 7)
      obtain ⟨r, hr⟩ := Int.eq_ofNat_of_zero_le g5
      rw [hr] at hrd hsn g6
      generalize nth xs k = x at *
      clear g5 hr
      have hr7 : r < 7 := by omega
      have kr : wr.cell? ⟨w8.heap.size, r, none⟩ = some (.int .i64 (r : Int)) := by
        obtain ⟨b2, o2, h2, h3⟩ := (R9'.out.below hB.out (Nat.le_refl _)).at r hr7
        injection h2 with h2
        injection h2 with h4 h5 h6
        subst h4 h5
        rw [Nat.zero_add] at h3
        rw [h3]
        have : r = 0 ∨ r = 1 ∨ r = 2 ∨ r = 3 ∨ r = 4 ∨ r = 5 ∨ r = 6 := by omega
        rcases this with rfl | rfl | rfl | rfl | rfl | rfl | rfl <;> rfl
      go_wp2_with fail
      refine hrd.out.mono ?_; rintro e w' ⟨rfl, rfl⟩
      clear hrd
      have hsz := hB.out.size
      have hkl' := hkl.out
      go_wp2_with (at_builtin; refine wpList_append_own _ rfl _ _ 33 rfl w9.heap.size 3 i0 (.int .i64 0) 1 8 Tryz.underlying33 hi0 hz0 hz1 hz2 rfl (by decide) _ _ _ rfl (hO.out.alloc _) ⟨wr.heap.size, 0, none⟩ 1 1 [.int .i64 (r : Int)] rfl rfl ?m1 ?m2 ?m3 ?m4 ?m5 ?_)
      case m1 => intro j u hu; rw [Addr.add_lit, World.cell?_alloc_new]; simpa using hu
      case m2 => first | rfl | (intro u hu; simp at hu; subst hu; rfl)
      case m3 => unfold maxLen; omega
      case m4 => omega
      case m5 => first | omega | (simp; omega)
      intro v' w10 ho4 hg4 _
      have B4 := Lib.hid ((hB.out.alloc hB.out.size (.cells #[.int .i64 (r : Int)] 3)).grown hg4 (by simp; omega) (fun k hk => ((OwnC.of hO.out).lt k hk).1))
      have hks4 := Lib.hid (show ks ++ [(r : Int)] = (xs.take (k + 1)).map (roundI · 7) from by rw [hsn.out, hks.out])
      have hkl4 := Lib.hid (show (ks ++ [(r : Int)]).length = k + 1 from by rw [List.length_append, hkl.out]; rfl)
      have O4 := Lib.hid (show w10.ownsRow w9.heap.size 3 1 v' (ks ++ [(r : Int)]).length ((ks ++ [(r : Int)]).map (Value.int .i64)) from by rw [hkl4.out, List.map_append]; exact ho4)
      have hfs := Lib.hid (freeK_snoc ks r)
      have hfk1 : (freeK ks : Int) ≤ 10 := by omega
      clear ho4 hg4 hsn hO hB kr k0 hks hsz g6
      have hr0 : r = 0 ∨ r = 1 ∨ r = 2 ∨ r = 3 ∨ r = 4 ∨ r = 5 ∨ r = 6 := by omega
      by_cases hk0 : k = 0
      · subst hk0
        obtain rfl : ks = [] := List.eq_nil_of_length_eq_zero hkl'
        rw [show freeK [] = 0 from rfl] at *
        rw [show badK [] = false from rfl] at *
        rcases hr0 with rfl | rfl | rfl | rfl | rfl | rfl | rfl
        all_goals
          go_wp2
          go_roundw
          case rel => exact ⟨1, _, by omega, by go_num, by rfl, by rfl, hks4.out, hkl4.out, by decide, B4.out, O4.out⟩
          case measure => simp [intOf]; omega
      · have hk1 : (0 : Int) < k := by omega
        have hbs := Lib.hid (badK_snoc (ks := ks) (by omega) r)
        cases hb : badK ks
        all_goals
          rw [hb] at hbs
          rcases hr0 with rfl | rfl | rfl | rfl | rfl | rfl | rfl
        all_goals
          go_wp2
          go_roundw
          case rel => exact ⟨k + 1, _, by omega, by go_num, by rw [hfs.out]; rfl, by rw [hbs.out]; rfl, hks4.out, hkl4.out, by rw [hfs.out]; simp [isFree]; omega, B4.out, O4.out⟩
          case measure => simp [intOf]; omega
    · have hkn : k = n := by omega
      have hall : xs.take k = xs := List.take_of_length_le (by have := hxl.out; omega)
      have hks' := hks.out
      rw [hall] at hks'
      have hkr := Lib.hid (show ∀ x ∈ ks, 0 ≤ x ∧ x < 7 from by rw [hks']; exact rounds_in xs 7 (by decide))
      have hkl' := hkl.out
      have hlaw := sums_law hkr.out (by omega) div
      obtain ⟨av, cv, hv, hc1, hc2⟩ := (OwnC.of hO.out).slice
      subst hv
      have I10 := Lib.hid (I9.out.all hB.out)
      have hmk := Lib.hid (make_any w.heap.size p B7 (opM div) ⟨#[]⟩ noRat ks none none av 0 0 cv wr I10.out.t ok_B7.sm (I10.out.env hE'.out) (own_args hO.out (fun x hx => by have := hkr.out x hx; unfold okI; omega) (by cases div <;> exact ⟨by decide, by decide⟩) (by cases div <;> decide)))
      unfold MakePost at hmk
      generalize makeD B7 (opM div) ⟨#[]⟩ noRat ks = R at *
      obtain ⟨⟨i1, e1⟩, T1⟩ := R
      dsimp only at hlaw hmk
      rw [hkl', hkn] at hlaw
      rw [hkl'] at hmk ⊢
      subst hkn
      clear hks hks' hall hkr X9 R9' hO hB I9 I8 hxl hx'
      by_cases hn2 : (1 : Int) < k
      all_goals
        first
          | rw [decide_eq_true hn2, Bool.and_true] at hlaw
          | rw [decide_eq_false hn2, Bool.and_false] at hlaw
        cases div
      case pos.false =>
        rw [show opM false = 15 from rfl] at hmk
        rw [show goodM false ks = decide ((freeK ks : Int) ≤ 1) from rfl] at hlaw
        by_cases hle : (freeK ks : Int) ≤ 1
        all_goals
          first
            | rw [decide_eq_true hle] at hlaw
            | rw [decide_eq_false hle] at hlaw
          simp at hlaw
          subst hlaw
          go_wp2_with fail
          refine hmk.out.mono ?_; rintro e w11 ⟨rfl, t11, s11⟩
          have I11 := Lib.hid (I10.out.step t11 s11)
          have haw := Lib.hid (awake7_any w11 (I11.out.env hE'.out))
          clear t11 s11 hmk I10
          go_wp2_with fail
          refine haw.out.mono ?_; rintro e w12 ⟨rfl, b12⟩
          go_wp2
          go_ret
          exact ⟨rfl, I11.out.b.trans (b12.mono I11.out.b.size)⟩
      case pos.true =>
        rw [show opM true = 16 from rfl] at hmk
        rw [show goodM true ks = !badK ks from rfl] at hlaw
        cases hb : badK ks
        all_goals
          rw [hb] at hlaw
          simp at hlaw
          subst hlaw
          go_wp2_with fail
          refine hmk.out.mono ?_; rintro e w11 ⟨rfl, t11, s11⟩
          have I11 := Lib.hid (I10.out.step t11 s11)
          have haw := Lib.hid (awake7_any w11 (I11.out.env hE'.out))
          clear t11 s11 hmk I10
          go_wp2_with fail
          refine haw.out.mono ?_; rintro e w12 ⟨rfl, b12⟩
          go_wp2
          go_ret
          exact ⟨rfl, I11.out.b.trans (b12.mono I11.out.b.size)⟩
      case neg.false =>
        obtain rfl : k = 1 := by omega
        rw [show opM false = 15 from rfl] at hmk
        simp at hlaw
        subst hlaw
        by_cases hle : (freeK ks : Int) ≤ 1
        all_goals
          skip
          go_wp2_with fail
          refine hmk.out.mono ?_; rintro e w11 ⟨rfl, t11, s11⟩
          have I11 := Lib.hid (I10.out.step t11 s11)
          have haw := Lib.hid (awake7_any w11 (I11.out.env hE'.out))
          clear t11 s11 hmk I10
          go_wp2_with fail
          refine haw.out.mono ?_; rintro e w12 ⟨rfl, b12⟩
          go_wp2
          go_ret
          exact ⟨rfl, I11.out.b.trans (b12.mono I11.out.b.size)⟩
      case neg.true =>
        obtain rfl : k = 1 := by omega
        rw [show opM true = 16 from rfl] at hmk
        simp at hlaw
        subst hlaw
        cases hb : badK ks
        all_goals
          skip
          go_wp2_with fail
          refine hmk.out.mono ?_; rintro e w11 ⟨rfl, t11, s11⟩
          have I11 := Lib.hid (I10.out.step t11 s11)
          have haw := Lib.hid (awake7_any w11 (I11.out.env hE'.out))
          clear t11 s11 hmk I10
          go_wp2_with fail
          refine haw.out.mono ?_; rintro e w12 ⟨rfl, b12⟩
          go_wp2
          go_ret
          exact ⟨rfl, I11.out.b.trans (b12.mono I11.out.b.size)⟩
end Go.Proofs.YtikmkalfdiiahaaGreatDoor
