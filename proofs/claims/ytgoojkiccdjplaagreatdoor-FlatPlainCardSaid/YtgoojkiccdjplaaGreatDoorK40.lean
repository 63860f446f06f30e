/-
  Parts of this claim's texts, one behind the other: VK CW ZS ZT. No condition.
-/
import Derived.Test.YtgoojkiccdjplaaGreatDoorK36
import Derived.Test.YtgoojkiccdjplaaGreatDoorK39
import Derived.Test.YtgoojkiccdjplaaGreatDoorK31
import Derived.Test.YtgoojkiccdjplaaGreatDoorK32
import Derived.Test.YtgoojkiccdjplaaGreatDoorK4
import Derived.Test.YtgoojkiccdjplaaGreatDoorK0
import Derived.Test.YtgoojkiccdjplaaGreatDoorRows
import Derived.Lib.LaidU8
import Derived.Lib.LaidPrint
import Derived.PinnedBridge
import Derived.LaidOnce
import Derived.Lay
set_option linter.unusedVariables false
set_option linter.unusedSimpArgs false
set_option maxRecDepth 100000
set_option maxHeartbeats 16000000
namespace Go.Proofs.YtgoojkiccdjplaaGreatDoor
open Go.RowKit Go.Sort Go.Lib
set_option linter.unusedSimpArgs false
theorem fn_call {w0 w : World} {p : Nat} {T : TermD} {X : Nat → Prop} (hE : EnvT w0) (h : St w0 p { T with X := X } w) (hG : TermG T) (a : Int) (ha : okI a) :
    Calls Tryz.prog 33 #[.pointer (some ⟨p, 0, none⟩), .int .i64 12, .string sf, .agg #[.bool false, .slice none 0 0, .slice none 0 0], .slice (some ⟨w.heap.size, 0, none⟩) 1 1] (w.alloc (.cells #[.int .i64 a] 3)) fun e w' =>
      e = .returned (.tuple #[.int .i64 (makeD T 12 sf noRat [a]).1.1, .int .i64 (makeD T 12 sf noRat [a]).1.2]) ∧ St w0 p { (makeD T 12 sf noRat [a]).2 with X := X } w' ∧ TStep p w w' := by
  have hl := h.lit (.cells #[.int .i64 a] 3)
  have ha := lit_args w 12 [a] ⟨by decide, by decide⟩ (by intro x hx; simp at hx; subst hx; exact ha) (by show 1 ≤ maxLen; decide) (by decide)
  have hm := make_any w0.heap.size p { T with X := X } 12 sf noRat [a] none none (some ⟨w.heap.size, 0, none⟩) 0 0 1 _ hl.t (hG.ok.sm.X X) (hl.env hE) ⟨ha.rnum, ha.rden, ha.rargs, ha.nc, ha.dc, ha.ac, ha.nl, by decide, ha.opk, ha.one⟩
  unfold MakePost at hm
  rw [makeD_X] at hm
  refine hm.mono ?_
  rintro e w' ⟨rfl, t, s⟩
  exact ⟨rfl, hl.step t s, (TStep.of_below h.t.plt ((Below.refl _ _).alloc (Nat.le_refl _) _)).trans s⟩
theorem plainT_X (T : TermD) (X : Nat → Prop) (id : Int) : plainT { T with X := X } id = plainT T id := by
  unfold plainT
  rw [anyT_X]
  rfl
theorem v1_e : makeD A1 12 sf noRat [0] = ((1, 0), (fnN 1).2) := (fn_e (k := 0) (by omega)).trans (Prod.ext (Prod.ext (by decide +kernel) rfl) rfl)
theorem v2_e : makeD (fnN 1).2 12 sf noRat [1] = ((2, 0), (fnN 2).2) := by
  have h := fn_e (k := 1) (by omega)
  rw [show (fnN 1).1 = 1 from by decide +kernel] at h
  exact h.trans (Prod.ext (Prod.ext (by decide +kernel) rfl) rfl)
def Q3 : TermD := (mk2 (fnN 2).2 8 2 0).2
def Q4 : TermD := (allFlat Q3 [3]).2
theorem v3_e : mk2 (fnN 2).2 8 2 0 = ((3, 0), Q3) := Prod.ext (by decide +kernel) rfl
def keyM (m : MadeD) : Int × ByteArray × List Int := (m.var, m.fn, m.args)
theorem keyM_inj {l m : List MadeD} (h : l.map keyM = m.map keyM) : l = m := by
  induction l generalizing m with
  | nil => cases m with
    | nil => rfl
    | cons b m => cases h
  | cons a l ih => cases m with
    | nil => cases h
    | cons b m =>
      obtain ⟨a1, a2, a3⟩ := a
      obtain ⟨b1, b2, b3⟩ := b
      simp only [List.map_cons, List.cons.injEq] at h
      obtain ⟨h1, h2⟩ := h
      unfold keyM at h1
      injection h1 with e1 e2
      injection e2 with e2 e3
      dsimp only at e1 e2 e3
      rw [ih h2, e1, e2, e3]
theorem v4_o : (allFlat Q3 [3]).1.1 = [6] := by decide +kernel
theorem v4_m : (allFlat Q3 [3]).1.2.1 = [⟨4, sf, [0]⟩, ⟨5, sf, [4]⟩] := keyM_inj (by decide +kernel)
theorem v4_r : (allFlat Q3 [3]).1.2.2.1 = [] ∧ (allFlat Q3 [3]).1.2.2.2 = 0 := by decide +kernel
theorem v5_b : boolsT Q4 [0] = false := by decide +kernel
theorem v5_e : allFlat Q4 [0] = (([], [], [], 1), Q4) := by unfold allFlat; rw [v5_b]; rfl
theorem v6_p : plainT Q4 6 = true ∧ plainT Q4 3 = false := by decide +kernel
theorem q_fr : Q3.fresh ≤ 1000000000 ∧ Q4.fresh ≤ 1000000000 := by decide +kernel
theorem g_Q3 : TermG Q3 := mk2_grow (fn_g (k := 2) (by omega)).1 _ _ _
theorem okSI {x : Int} (h : 0 ≤ x ∧ x ≤ 100) : ∀ y ∈ [x], okI y := fun y hy => by simp at hy; subst hy; exact okI_n h
theorem awake17_any (w : World) (hE : EnvT w) : Calls Tryz.prog 23 #[] w fun e w' => e = .returned (.bool true) ∧ Below w.heap.size w w' := by
  have hE' := hid hE
  have htb := hid (tables17_any w hE.env)
  clear hE
  go_enter Tryz.func23, Tryz.ntmps23
  go_wp2_with fail
  refine htb.out.mono ?_; rintro e w1 ⟨p, r, rfl, t1, b1⟩
  have I1 := hid (show St w p { A0 with X := NoX } w1 from ⟨t1, b1⟩)
  have h1 := app_call hE'.out I1.out g_A0 sx (by decide)
  rw [mk_x] at h1
  have h1' := hid h1
  clear t1 b1 htb h1
  go_wp2_with fail
  refine h1'.out.mono ?_; rintro e w2 ⟨rfl, i2, _⟩
  have I2 := hid i2
  have h2 := fn_call hE'.out I2.out g_A1 0 okI_0
  rw [v1_e] at h2
  have h2' := hid h2
  clear i2 h1' h2 I1
  go_wp2_with fail
  refine h2'.out.mono ?_; rintro e w3 ⟨rfl, i3, _⟩
  have I3 := hid i3
  have h3 := fn_call hE'.out I3.out (fn_g (k := 1) (by omega)).1 1 (okI_n (by decide))
  rw [v2_e] at h3
  have h3' := hid h3
  clear i3 h2' h3 I2
  go_wp2_with fail
  refine h3'.out.mono ?_; rintro e w4 ⟨rfl, i4, _⟩
  have I4 := hid i4
  have h4 := mk2_call hE'.out I4.out (fn_g (k := 2) (by omega)).1 8 2 0 (okI_n (by decide)) (by decide) (okI_n (by decide)) okI_0
  rw [v3_e] at h4
  have h4' := hid h4
  clear i4 h3' h4 I3
  go_wp2_with fail
  refine h4'.out.mono ?_; rintro e w7 ⟨rfl, i7, _⟩
  have I7 := hid i7
  have I7a := I7.out.lit (.cells #[.int .i64 3] 3)
  have h7 := flatAll_any hE'.out p NoX Q3 (some ⟨w7.heap.size, 0, none⟩) 1 1 [3] (w7.alloc (.cells #[.int .i64 3] 3)) I7a g_Q3 q_fr.1 (RdI.lit [3] 3 w7 (okSI (by decide))) (lit_free I7.out _) (by decide)
  unfold AllFPost at h7
  rw [v4_r.1, v4_r.2, v4_m, v4_o] at h7
  have h7' := hid h7
  clear i7 h4' h7 I4 I7a
  go_wp2_with fail
  refine h7'.out.mono ?_; rintro e w8 ⟨a1, c1, a2, c2, a3, c3, rfl, o8, m8, _, _, i8, _, g8⟩
  have I8 := hid (show St w p { Q4 with X := NoX } w8 from i8)
  have G8 := hid (show TermG Q4 from g8.g)
  have I8a := I8.out.lit (.cells #[.int .i64 0] 3)
  have h9 := flatAll_any hE'.out p NoX Q4 (some ⟨w8.heap.size, 0, none⟩) 1 1 [0] (w8.alloc (.cells #[.int .i64 0] 3)) I8a G8.out q_fr.2 (RdI.lit [0] 3 w8 (okSI (by decide))) (lit_free I8.out _) (by decide)
  unfold AllFPost at h9
  rw [v5_e] at h9
  have h9' := hid h9
  have hbl : Below w8.heap.size w8 (w8.alloc (.cells #[.int .i64 0] 3)) := (Below.refl _ _).alloc (Nat.le_refl _) _
  have O8 := hid o8
  have M8 := hid m8
  have BL := hid hbl
  have J8 := hid I8a
  clear i8 g8 h7' h9 I7 I8a o8 m8 hbl
  go_wp2_with fail
  refine h9'.out.mono ?_; rintro e w9 ⟨a4, c4, a5, c5, a6, c6, rfl, _, _, _, _, i9, s9, _⟩
  have I9 := hid (show St w p { Q4 with X := NoX } w9 from i9)
  have hs9 : TStep p w8 w9 := (TStep.of_below I8.out.t.plt BL.out).trans s9
  obtain ⟨g1, d1, hv1, _, hg1⟩ := O8.out.form (by decide)
  injection hv1 with hv1 hv2 hv3
  subst hv1 hv3
  have x1 := (World.cell?_of_block (w := w8) (a := ⟨g1, 0, none⟩) (I8.out.t.dat hs9 (O8.out.dat g1 rfl))).trans (O8.out.cells rfl 0 _ rfl)
  have M9 : SlR repMd (fun _ => True) w9 a2 2 [⟨4, sf, [0]⟩, ⟨5, sf, [4]⟩] := (M8.out.keep (fun b hb hS => (hs9.block b hb hS).1) hs9.size).mono fun _ _ _ => trivial
  obtain ⟨bm, om, cs0, rfl, _, hr0, hc0⟩ := M9.at (j := 0) rfl
  obtain ⟨bm', om', cs1, hbo, _, hr1, hc1⟩ := M9.at (j := 1) rfl
  injection hbo with hbo
  injection hbo with h1 h2 _
  subst h1 h2
  obtain ⟨aa, ca, rfl, _, _, _, hA⟩ := repMd_rd.1 hr0
  obtain ⟨ab, cb, rfl, _, _, _, hB⟩ := repMd_rd.1 hr1
  have y1 : w9.cell? ⟨bm, om, none⟩ = some (.int .i64 4) := hc0 0 _ rfl
  have y2 : w9.cell? ⟨bm, om + 1, none⟩ = some (.string ⟨#[102]⟩) := hc0 1 _ rfl
  have y3 : w9.cell? ⟨bm, om + 2, none⟩ = some (.slice aa 1 ca) := hc0 2 _ rfl
  have y4 : w9.cell? ⟨bm, om + 3 + 2, none⟩ = some (.slice ab 1 cb) := hc1 2 _ rfl
  have KC := hid (show ∀ W, Below w9.heap.size w9 W → W.cell? ⟨bm, om, none⟩ = some (.int .i64 4) ∧ W.cell? ⟨bm, om + 1, none⟩ = some (.string ⟨#[102]⟩) ∧ W.cell? ⟨bm, om + 2, none⟩ = some (.slice aa 1 ca) ∧ W.cell? ⟨bm, om + 3 + 2, none⟩ = some (.slice ab 1 cb) ∧ W.cell? ⟨g1, 0, none⟩ = some (.int .i64 6) from fun W hW => ⟨keep_cell hW y1, keep_cell hW y2, keep_cell hW y3, keep_cell hW y4, keep_cell hW x1⟩)
  have RA := hid (show RdI w9 aa 1 [0] from hA.toI)
  have RB := hid (show RdI w9 ab 1 [4] from hB.toI)
  have L9 : Below w9.heap.size w9 (w9.alloc (.cells #[.int .i64 0] 3)).drew := keep_alloc (keep_drew w9) _
  have R9 : RdI (w9.alloc (.cells #[.int .i64 0] 3)).drew (some ⟨w9.heap.size, 0, none⟩) 1 [0] := by
    have h := RdI.lit [(0 : Int)] 3 w9 (okSI (by decide))
    exact ⟨h.len, h.wf, h.cells⟩
  have hi1 := hid (ints_any aa (some ⟨w9.heap.size, 0, none⟩) 1 1 ca 1 [(0 : Int)] [(0 : Int)] _ (RA.out.below L9 (Nat.le_refl _)) R9 (by decide))
  rw [show sameI [(0 : Int)] [(0 : Int)] = true from by decide] at hi1
  have B9 := hid L9
  have hK9 := KC.out w9 (Below.refl _ _)
  clear i9 s9 hs9 h9' hr0 hr1 hc0 hc1 hA hB M9 O8 M8 L9 hg1 R9 y1 y2 y3 y4 x1
  go_wp2
  refine wp_region_tt (S := fun W => W.cell? ⟨bm, om, none⟩ = some (.int .i64 4) ∧ W.cell? ⟨bm, om + 1, none⟩ = some (.string ⟨#[102]⟩) ∧ W.cell? ⟨bm, om + 2, none⟩ = some (.slice aa 1 ca) ∧ W.cell? ⟨bm, om + 3 + 2, none⟩ = some (.slice ab 1 cb) ∧ W.cell? ⟨g1, 0, none⟩ = some (.int .i64 6)) 72 (by kernel_rfl) (by kernel_rfl) hK9 (fun hHeld => ?_)
  refine tt_take (i := 0) (v := _) (by rfl) (by decide +kernel) (by exact fun _ _ _ h => h) (Or.inl ⟨by rfl, by (intro W hSw; (try dsimp only at hSw); go_simp <;> with_reducible rfl)⟩) (by assumption) ?_
  (try simp only [Act.put, sA, sB, sC])
  refine tt_take (i := 1) (v := _) (by rfl) (by decide +kernel) (by exact fun _ _ _ h => h) (Or.inl ⟨by rfl, by (intro W hSw; (try dsimp only at hSw); go_simp <;> with_reducible rfl)⟩) (by assumption) ?_
  (try simp only [Act.put, sA, sB, sC])
  refine tt_take (i := 2) (v := _) (by rfl) (by decide +kernel) (by exact fun _ _ _ h => h) (Or.inl ⟨by rfl, by (intro W hSw; (try dsimp only at hSw); go_simp <;> with_reducible rfl)⟩) (by assumption) ?_
  (try simp only [Act.put, sA, sB, sC])
  refine tt_take (i := 3) (v := _) (by rfl) (by decide +kernel) (by exact fun _ _ _ h => h) (by first | exact Or.inl ⟨by rfl, by (intro W hSw; (try dsimp only at hSw); go_simp <;> with_reducible rfl)⟩ | exact Or.inr ⟨by rfl, rfl⟩) (by assumption) ?_
  (try simp only [Act.put, sA, sB, sC])
  refine tt_take (i := 4) (v := _) (by rfl) (by decide +kernel) (by exact fun _ _ _ h => h) (by first | exact Or.inl ⟨by rfl, by (intro W hSw; (try dsimp only at hSw); go_simp <;> with_reducible rfl)⟩ | exact Or.inr ⟨by rfl, rfl⟩) (by assumption) ?_
  (try simp only [Act.put, sA, sB, sC])
  refine tt_take (i := 5) (v := _) (by rfl) (by decide +kernel) (by exact fun _ _ _ h => h) (Or.inl ⟨by rfl, by (intro W hSw; (try dsimp only at hSw); go_simp <;> with_reducible rfl)⟩) (by assumption) ?_
  (try simp only [Act.put, sA, sB, sC])
  refine tt_take (i := 6) (v := _) (by rfl) (by decide +kernel) (by exact fun _ _ _ h => h) (Or.inl ⟨by rfl, by (intro W hSw; (try dsimp only at hSw); go_simp <;> with_reducible rfl)⟩) (by assumption) ?_
  (try simp only [Act.put, sA, sB, sC])
  refine tt_take (i := 7) (v := _) (by rfl) (by decide +kernel) (by exact fun _ _ _ h => h) (by first | exact Or.inl ⟨by rfl, by (intro W hSw; (try dsimp only at hSw); go_simp <;> with_reducible rfl)⟩ | exact Or.inr ⟨by rfl, rfl⟩) (by assumption) ?_
  (try simp only [Act.put, sA, sB, sC])
  refine tt_take (i := 8) (v := _) (by rfl) (by decide +kernel) (by exact fun _ _ _ h => h) (by first | exact Or.inl ⟨by rfl, by (intro W hSw; (try dsimp only at hSw); go_simp <;> with_reducible rfl)⟩ | exact Or.inr ⟨by rfl, rfl⟩) (by assumption) ?_
  (try simp only [Act.put, sA, sB, sC])
  refine tt_take (i := 9) (v := _) (by rfl) (by decide +kernel) (by exact fun _ _ _ h => h) (Or.inl ⟨by rfl, by (intro W hSw; (try dsimp only at hSw); go_simp <;> with_reducible rfl)⟩) (by assumption) ?_
  (try simp only [Act.put, sA, sB, sC])
  refine tt_take (i := 10) (v := _) (by rfl) (by decide +kernel) (by exact fun _ _ _ h => h) (Or.inl ⟨by rfl, by (intro W hSw; (try dsimp only at hSw); go_simp <;> with_reducible rfl)⟩) (by assumption) ?_
  (try simp only [Act.put, sA, sB, sC])
  refine tt_take (i := 11) (v := _) (by rfl) (by decide +kernel) (by exact fun _ _ _ h => h) (by first | exact Or.inl ⟨by rfl, by (intro W hSw; (try dsimp only at hSw); go_simp <;> with_reducible rfl)⟩ | exact Or.inr ⟨by rfl, rfl⟩) (by assumption) ?_
  (try simp only [Act.put, sA, sB, sC])
  refine tt_take (i := 12) (v := _) (by rfl) (by decide +kernel) (by exact fun _ _ _ h => h) (by first | exact Or.inl ⟨by rfl, by (intro W hSw; (try dsimp only at hSw); go_simp <;> with_reducible rfl)⟩ | exact Or.inr ⟨by rfl, rfl⟩) (by assumption) ?_
  (try simp only [Act.put, sA, sB, sC])
  refine tt_take (i := 13) (v := _) (by rfl) (by decide +kernel) (by exact fun _ _ _ h => h) (Or.inl ⟨by rfl, by (intro W hSw; (try dsimp only at hSw); go_simp <;> with_reducible rfl)⟩) (by assumption) ?_
  (try simp only [Act.put, sA, sB, sC])
  refine tt_take (i := 14) (v := _) (by rfl) (by decide +kernel) (by exact fun _ _ _ h => h) (Or.inl ⟨by rfl, by (intro W hSw; (try dsimp only at hSw); go_simp <;> with_reducible rfl)⟩) (by assumption) ?_
  (try simp only [Act.put, sA, sB, sC])
  refine tt_take (i := 15) (v := _) (by rfl) (by decide +kernel) (by exact fun _ _ _ h => h) (by first | exact Or.inl ⟨by rfl, by (intro W hSw; (try dsimp only at hSw); go_simp <;> with_reducible rfl)⟩ | exact Or.inr ⟨by rfl, rfl⟩) (by assumption) ?_
  (try simp only [Act.put, sA, sB, sC])
  refine tt_take (i := 16) (v := _) (by rfl) (by decide +kernel) (by exact fun _ _ _ h => h) (by first | exact Or.inl ⟨by rfl, by (intro W hSw; (try dsimp only at hSw); go_simp <;> with_reducible rfl)⟩ | exact Or.inr ⟨by rfl, rfl⟩) (by assumption) ?_
  (try simp only [Act.put, sA, sB, sC])
  refine tt_take (i := 17) (v := _) (by rfl) (by decide +kernel) (by exact fun _ _ _ h => h) (Or.inl ⟨by rfl, by (intro W hSw; (try dsimp only at hSw); go_simp <;> with_reducible rfl)⟩) (by assumption) ?_
  (try simp only [Act.put, sA, sB, sC])
  refine tt_take (i := 18) (v := _) (by rfl) (by decide +kernel) (by exact fun _ _ _ h => h) (Or.inl ⟨by rfl, by (intro W hSw; (try dsimp only at hSw); go_simp <;> with_reducible rfl)⟩) (by assumption) ?_
  (try simp only [Act.put, sA, sB, sC])
  refine tt_take (i := 19) (v := _) (by rfl) (by decide +kernel) (by exact fun _ _ _ h => h) (by first | exact Or.inl ⟨by rfl, by (intro W hSw; (try dsimp only at hSw); go_simp <;> with_reducible rfl)⟩ | exact Or.inr ⟨by rfl, rfl⟩) (by assumption) ?_
  (try simp only [Act.put, sA, sB, sC])
  refine tt_take (i := 20) (v := _) (by rfl) (by decide +kernel) (by exact fun _ _ _ h => h) (by first | exact Or.inl ⟨by rfl, by (intro W hSw; (try dsimp only at hSw); go_simp <;> with_reducible rfl)⟩ | exact Or.inr ⟨by rfl, rfl⟩) (by assumption) ?_
  (try simp only [Act.put, sA, sB, sC])
  refine tt_take (i := 21) (v := _) (by rfl) (by decide +kernel) (by exact fun _ _ _ h => h) (by first | exact Or.inl ⟨by rfl, by (intro W hSw; (try dsimp only at hSw); go_simp <;> with_reducible rfl)⟩ | exact Or.inr ⟨by rfl, rfl⟩) (by assumption) ?_
  (try simp only [Act.put, sA, sB, sC])
  refine tt_take (i := 22) (v := _) (by rfl) (by decide +kernel) (by exact fun _ _ _ h => h) (Or.inl ⟨by rfl, by (intro W hSw; (try dsimp only at hSw); go_simp <;> with_reducible rfl)⟩) (by assumption) ?_
  (try simp only [Act.put, sA, sB, sC])
  refine tt_take (i := 23) (v := _) (by rfl) (by decide +kernel) (by exact fun _ _ _ h => h) (Or.inl ⟨by rfl, by (intro W hSw; (try dsimp only at hSw); go_simp <;> with_reducible rfl)⟩) (by assumption) ?_
  (try simp only [Act.put, sA, sB, sC])
  refine tt_take (i := 24) (v := _) (by rfl) (by decide +kernel) (by exact fun _ _ _ h => h) (by first | exact Or.inl ⟨by rfl, by (intro W hSw; (try dsimp only at hSw); go_simp <;> with_reducible rfl)⟩ | exact Or.inr ⟨by rfl, rfl⟩) (by assumption) ?_
  (try simp only [Act.put, sA, sB, sC])
  refine tt_take (i := 25) (v := _) (by rfl) (by decide +kernel) (by exact fun _ _ _ h => h) (by first | exact Or.inl ⟨by rfl, by (intro W hSw; (try dsimp only at hSw); go_simp <;> with_reducible rfl)⟩ | exact Or.inr ⟨by rfl, rfl⟩) (by assumption) ?_
  (try simp only [Act.put, sA, sB, sC])
  refine tt_take (i := 26) (v := _) (by rfl) (by decide +kernel) (by exact fun _ _ _ h => h) (by first | exact Or.inl ⟨by rfl, by (intro W hSw; (try dsimp only at hSw); go_simp <;> with_reducible rfl)⟩ | exact Or.inr ⟨by rfl, rfl⟩) (by assumption) ?_
  (try simp only [Act.put, sA, sB, sC])
  refine tt_take (i := 27) (v := _) (by rfl) (by decide +kernel) (by exact fun _ _ _ h => h) (Or.inl ⟨by rfl, by (intro W hSw; (try dsimp only at hSw); go_simp <;> with_reducible rfl)⟩) (by assumption) ?_
  (try simp only [Act.put, sA, sB, sC])
  refine tt_take (i := 28) (v := _) (by rfl) (by decide +kernel) (by exact fun _ _ _ h => h) (Or.inl ⟨by rfl, by (intro W hSw; (try dsimp only at hSw); go_simp <;> with_reducible rfl)⟩) (by assumption) ?_
  (try simp only [Act.put, sA, sB, sC])
  refine tt_take (i := 29) (v := _) (by rfl) (by decide +kernel) (by exact fun _ _ _ h => h) (by first | exact Or.inl ⟨by rfl, by (intro W hSw; (try dsimp only at hSw); go_simp <;> with_reducible rfl)⟩ | exact Or.inr ⟨by rfl, rfl⟩) (by assumption) ?_
  (try simp only [Act.put, sA, sB, sC])
  refine tt_take (i := 30) (v := _) (by rfl) (by decide +kernel) (by exact fun _ _ _ h => h) (by first | exact Or.inl ⟨by rfl, by (intro W hSw; (try dsimp only at hSw); go_simp <;> with_reducible rfl)⟩ | exact Or.inr ⟨by rfl, rfl⟩) (by assumption) ?_
  (try simp only [Act.put, sA, sB, sC])
  refine tt_take (i := 31) (v := _) (by rfl) (by decide +kernel) (by exact fun _ _ _ h => h) (by first | exact Or.inl ⟨by rfl, by (intro W hSw; (try dsimp only at hSw); go_simp <;> with_reducible rfl)⟩ | exact Or.inr ⟨by rfl, rfl⟩) (by assumption) ?_
  (try simp only [Act.put, sA, sB, sC])
  refine tt_take (i := 32) (v := _) (by rfl) (by decide +kernel) (by exact fun _ _ _ h => h) (Or.inl ⟨by rfl, by (intro W hSw; (try dsimp only at hSw); go_simp <;> with_reducible rfl)⟩) (by assumption) ?_
  (try simp only [Act.put, sA, sB, sC])
  refine tt_take (i := 33) (v := _) (by rfl) (by decide +kernel) (by exact fun _ _ _ h => h) (Or.inl ⟨by rfl, by (intro W hSw; (try dsimp only at hSw); go_simp <;> with_reducible rfl)⟩) (by assumption) ?_
  (try simp only [Act.put, sA, sB, sC])
  refine tt_take (i := 34) (v := _) (by rfl) (by decide +kernel) (by exact fun _ _ _ h => h) (by first | exact Or.inl ⟨by rfl, by (intro W hSw; (try dsimp only at hSw); go_simp <;> with_reducible rfl)⟩ | exact Or.inr ⟨by rfl, rfl⟩) (by assumption) ?_
  (try simp only [Act.put, sA, sB, sC])
  refine tt_take (i := 35) (v := _) (by rfl) (by decide +kernel) (by exact fun _ _ _ h => h) (by first | exact Or.inl ⟨by rfl, by (intro W hSw; (try dsimp only at hSw); go_simp <;> with_reducible rfl)⟩ | exact Or.inr ⟨by rfl, rfl⟩) (by assumption) ?_
  (try simp only [Act.put, sA, sB, sC])
  refine tt_take (i := 36) (v := _) (by rfl) (by decide +kernel) (by exact fun _ _ _ h => h) (by first | exact Or.inl ⟨by rfl, by (intro W hSw; (try dsimp only at hSw); go_simp <;> with_reducible rfl)⟩ | exact Or.inr ⟨by rfl, rfl⟩) (by assumption) ?_
  (try simp only [Act.put, sA, sB, sC])
  refine tt_take (i := 37) (v := _) (by rfl) (by decide +kernel) (by exact fun _ _ _ h => h) (by first | exact Or.inl ⟨by rfl, by (intro W hSw; have hq1 := hSw.2.1; go_simp <;> with_reducible rfl)⟩ | exact Or.inr ⟨by rfl, rfl⟩) (by assumption) ?_
  (try simp only [Act.put, sA, sB, sC])
  refine tt_take (i := 38) (v := _) (by rfl) (by decide +kernel) (by exact fun _ _ _ h => h) (by first | exact Or.inl ⟨by rfl, by (intro W hSw; have hq1 : ((⟨#[102]⟩ : ByteArray).toList == (⟨#[102]⟩ : ByteArray).toList) = true := beq_self_eq_true _; go_simp <;> with_reducible rfl)⟩ | exact Or.inr ⟨by rfl, rfl⟩) (by assumption) ?_
  (try simp only [Act.put, sA, sB, sC])
  refine tt_take (i := 39) (v := _) (by rfl) (by decide +kernel) (by exact fun _ _ _ h => h) (Or.inl ⟨by rfl, by (intro W hSw; (try dsimp only at hSw); go_simp <;> with_reducible rfl)⟩) (by assumption) ?_
  (try simp only [Act.put, sA, sB, sC])
  refine tt_take (i := 40) (v := _) (by rfl) (by decide +kernel) (by exact fun _ _ _ h => h) (Or.inl ⟨by rfl, by (intro W hSw; (try dsimp only at hSw); go_simp <;> with_reducible rfl)⟩) (by assumption) ?_
  (try simp only [Act.put, sA, sB, sC])
  refine tt_take (i := 41) (v := _) (by rfl) (by decide +kernel) (by exact fun _ _ _ h => h) (by first | exact Or.inl ⟨by rfl, by (intro W hSw; (try dsimp only at hSw); go_simp <;> with_reducible rfl)⟩ | exact Or.inr ⟨by rfl, rfl⟩) (by assumption) ?_
  (try simp only [Act.put, sA, sB, sC])
  refine tt_take (i := 42) (v := _) (by rfl) (by decide +kernel) (by exact fun _ _ _ h => h) (by first | exact Or.inl ⟨by rfl, by (intro W hSw; (try dsimp only at hSw); go_simp <;> with_reducible rfl)⟩ | exact Or.inr ⟨by rfl, rfl⟩) (by assumption) ?_
  (try simp only [Act.put, sA, sB, sC])
  refine tt_take (i := 43) (v := _) (by rfl) (by decide +kernel) (by exact fun _ _ _ h => h) (by first | exact Or.inl ⟨by rfl, by (intro W hSw; (try dsimp only at hSw); go_simp <;> with_reducible rfl)⟩ | exact Or.inr ⟨by rfl, rfl⟩) (by assumption) ?_
  (try simp only [Act.put, sA, sB, sC])
  refine tt_take (i := 44) (v := _) (by rfl) (by decide +kernel) (by exact fun _ _ _ h => h) (by first | exact Or.inl ⟨by rfl, by (intro W hSw; have hq1 := hSw.2.2.1; go_simp <;> with_reducible rfl)⟩ | exact Or.inr ⟨by rfl, rfl⟩) (by assumption) ?_
  (try simp only [Act.put, sA, sB, sC])
  refine tt_take (i := 45) (v := _) (by rfl) (by decide +kernel) (by exact fun _ _ _ h => h) (by first | exact Or.inl ⟨by rfl, by (intro W hSw; (try dsimp only at hSw); go_simp <;> with_reducible rfl)⟩ | exact Or.inr ⟨by rfl, rfl⟩) (by assumption) ?_
  (try simp only [Act.put, sA, sB, sC])
  refine tt_ready (rs := [46]) (by decide +kernel) (allT_cons (by rfl) (fun K hK => ?_) allT_nil)
  go_simp
  refine hK.out _ _ (by (exact KC.out _ (keep_alloc (keep_drew w9) _))) (fun hHeld2 => ?_)
  clear hK K
  (try simp only [Act.put, sA, sB, sC])
  refine tt_ready (rs := [47]) (by decide +kernel) (allT_cons (by rfl) (fun K hK => ?_) allT_nil)
  go_simp
  go_at_call 30
  refine hi1.out.mono ?_; rintro e wA ⟨rfl, q, hwA⟩
  have BA := hid (show Below w9.heap.size w9 wA from by rw [hwA]; exact B9.out.drewN q)
  have KA := KC.out wA BA.out
  have LA : Below wA.heap.size wA (wA.alloc (.cells #[.int .i64 4] 3)) := (Below.refl _ _).alloc (Nat.le_refl _) _
  have hi2 := hid (ints_any ab (some ⟨wA.heap.size, 0, none⟩) 1 1 cb 1 [(4 : Int)] [(4 : Int)] _ ((RB.out.below BA.out (Nat.le_refl _)).below LA (Nat.le_refl _)) (RdI.lit [(4 : Int)] 3 wA (okSI (by decide))) (by decide))
  rw [show sameI [(4 : Int)] [(4 : Int)] = true from by decide] at hi2
  have BB := hid (BA.out.alloc BA.out.size (.cells #[.int .i64 4] 3))
  clear hwA hi1 LA
  dsimp only
  refine hK.out _ _ (by (exact KA)) (fun hHeld3 => ?_)
  clear hK K
  (try simp only [Act.put, sA, sB, sC])
  refine tt_take (i := 48) (v := _) (by rfl) (by decide +kernel) (by exact fun _ _ _ h => h) (Or.inl ⟨by rfl, by (intro W hSw; (try dsimp only at hSw); go_simp <;> with_reducible rfl)⟩) (by assumption) ?_
  (try simp only [Act.put, sA, sB, sC])
  refine tt_take (i := 49) (v := _) (by rfl) (by decide +kernel) (by exact fun _ _ _ h => h) (Or.inl ⟨by rfl, by (intro W hSw; (try dsimp only at hSw); go_simp <;> with_reducible rfl)⟩) (by assumption) ?_
  (try simp only [Act.put, sA, sB, sC])
  refine tt_take (i := 50) (v := _) (by rfl) (by decide +kernel) (by exact fun _ _ _ h => h) (by first | exact Or.inl ⟨by rfl, by (intro W hSw; (try dsimp only at hSw); go_simp <;> with_reducible rfl)⟩ | exact Or.inr ⟨by rfl, rfl⟩) (by assumption) ?_
  (try simp only [Act.put, sA, sB, sC])
  refine tt_take (i := 51) (v := _) (by rfl) (by decide +kernel) (by exact fun _ _ _ h => h) (by first | exact Or.inl ⟨by rfl, by (intro W hSw; (try dsimp only at hSw); go_simp <;> with_reducible rfl)⟩ | exact Or.inr ⟨by rfl, rfl⟩) (by assumption) ?_
  (try simp only [Act.put, sA, sB, sC])
  refine tt_take (i := 52) (v := _) (by rfl) (by decide +kernel) (by exact fun _ _ _ h => h) (by first | exact Or.inl ⟨by rfl, by (intro W hSw; (try dsimp only at hSw); go_simp <;> with_reducible rfl)⟩ | exact Or.inr ⟨by rfl, rfl⟩) (by assumption) ?_
  (try simp only [Act.put, sA, sB, sC])
  refine tt_take (i := 53) (v := _) (by rfl) (by decide +kernel) (by exact fun _ _ _ h => h) (by first | exact Or.inl ⟨by rfl, by (intro W hSw; have hq1 := hSw.2.2.2.1; go_simp <;> with_reducible rfl)⟩ | exact Or.inr ⟨by rfl, rfl⟩) (by assumption) ?_
  (try simp only [Act.put, sA, sB, sC])
  refine tt_take (i := 54) (v := _) (by rfl) (by decide +kernel) (by exact fun _ _ _ h => h) (by first | exact Or.inl ⟨by rfl, by (intro W hSw; (try dsimp only at hSw); go_simp <;> with_reducible rfl)⟩ | exact Or.inr ⟨by rfl, rfl⟩) (by assumption) ?_
  (try simp only [Act.put, sA, sB, sC])
  refine tt_take (i := 55) (v := _) (by rfl) (by decide +kernel) (by exact fun _ _ _ h => h) (by first | exact Or.inl ⟨by rfl, by (intro W hSw; (try dsimp only at hSw); go_simp <;> with_reducible rfl)⟩ | exact Or.inr ⟨by rfl, rfl⟩) (by assumption) ?_
  (try simp only [Act.put, sA, sB, sC])
  refine tt_take (i := 56) (v := _) (by rfl) (by decide +kernel) (by exact fun _ _ _ h => h) (by first | exact Or.inl ⟨by rfl, by (intro W hSw; (try dsimp only at hSw); go_simp <;> with_reducible rfl)⟩ | exact Or.inr ⟨by rfl, rfl⟩) (by assumption) ?_
  (try simp only [Act.put, sA, sB, sC])
  refine tt_take (i := 57) (v := _) (by rfl) (by decide +kernel) (by exact fun _ _ _ h => h) (by first | exact Or.inl ⟨by rfl, by (intro W hSw; have hq1 := hSw.1; go_simp <;> with_reducible rfl)⟩ | exact Or.inr ⟨by rfl, rfl⟩) (by assumption) ?_
  (try simp only [Act.put, sA, sB, sC])
  refine tt_ready (rs := [58]) (by decide +kernel) (allT_cons (by rfl) (fun K hK => ?_) allT_nil)
  go_simp
  refine hK.out _ _ (by (exact KC.out _ BB.out)) (fun hHeld4 => ?_)
  clear hK K
  (try simp only [Act.put, sA, sB, sC])
  refine tt_ready (rs := [59]) (by decide +kernel) (allT_cons (by rfl) (fun K hK => ?_) allT_nil)
  go_simp
  go_at_call 30
  refine hi2.out.mono ?_; rintro e wB ⟨rfl, q2, hwB⟩
  have BC := hid (show Below w9.heap.size w9 wB from by rw [hwB]; exact BB.out.drewN q2)
  have KB := KC.out wB BC.out
  have hp1 := plain_any w.heap.size p { Q4 with X := NoX } 6 wB (I9.out.all BC.out).t (G8.out.ok.X _) (okI_n (by decide))
  rw [plainT_X, v6_p.1] at hp1
  have hp1' := hid hp1
  clear hwB hi2 hp1
  dsimp only
  refine hK.out _ _ (by (exact KB)) (fun hHeld5 => ?_)
  clear hK K
  (try simp only [Act.put, sA, sB, sC])
  refine tt_take (i := 60) (v := _) (by rfl) (by decide +kernel) (by exact fun _ _ _ h => h) (Or.inl ⟨by rfl, by (intro W hSw; (try dsimp only at hSw); go_simp <;> with_reducible rfl)⟩) (by assumption) ?_
  (try simp only [Act.put, sA, sB, sC])
  refine tt_take (i := 61) (v := _) (by rfl) (by decide +kernel) (by exact fun _ _ _ h => h) (Or.inl ⟨by rfl, by (intro W hSw; (try dsimp only at hSw); go_simp <;> with_reducible rfl)⟩) (by assumption) ?_
  (try simp only [Act.put, sA, sB, sC])
  refine tt_take (i := 62) (v := _) (by rfl) (by decide +kernel) (by exact fun _ _ _ h => h) (by first | exact Or.inl ⟨by rfl, by (intro W hSw; (try dsimp only at hSw); go_simp <;> with_reducible rfl)⟩ | exact Or.inr ⟨by rfl, rfl⟩) (by assumption) ?_
  (try simp only [Act.put, sA, sB, sC])
  refine tt_take (i := 63) (v := _) (by rfl) (by decide +kernel) (by exact fun _ _ _ h => h) (by first | exact Or.inl ⟨by rfl, by (intro W hSw; (try dsimp only at hSw); go_simp <;> with_reducible rfl)⟩ | exact Or.inr ⟨by rfl, rfl⟩) (by assumption) ?_
  (try simp only [Act.put, sA, sB, sC])
  refine tt_take (i := 64) (v := _) (by rfl) (by decide +kernel) (by exact fun _ _ _ h => h) (by first | exact Or.inl ⟨by rfl, by (intro W hSw; (try dsimp only at hSw); go_simp <;> with_reducible rfl)⟩ | exact Or.inr ⟨by rfl, rfl⟩) (by assumption) ?_
  (try simp only [Act.put, sA, sB, sC])
  refine tt_take (i := 65) (v := _) (by rfl) (by decide +kernel) (by exact fun _ _ _ h => h) (by first | exact Or.inl ⟨by rfl, by (intro W hSw; have hq1 := hSw.2.2.2.2; go_simp <;> with_reducible rfl)⟩ | exact Or.inr ⟨by rfl, rfl⟩) (by assumption) ?_
  (try simp only [Act.put, sA, sB, sC])
  refine tt_ready (rs := [66]) (by decide +kernel) (allT_cons (by rfl) (fun K hK => ?_) allT_nil)
  go_simp
  go_at_call 27
  refine hp1'.out.mono ?_; rintro e wC ⟨rfl, bC⟩
  have BD := hid (BC.out.trans (bC.mono BC.out.size))
  have KD := KC.out wC BD.out
  have hp2 := plain_any w.heap.size p { Q4 with X := NoX } 3 wC (I9.out.all BD.out).t (G8.out.ok.X _) (okI_n (by decide))
  rw [plainT_X, v6_p.2] at hp2
  have hp2' := hid hp2
  clear bC hp1' hp2
  dsimp only
  refine hK.out _ _ (by (exact KD)) (fun hHeld6 => ?_)
  clear hK K
  (try simp only [Act.put, sA, sB, sC])
  refine tt_take (i := 67) (v := _) (by rfl) (by decide +kernel) (by exact fun _ _ _ h => h) (Or.inl ⟨by rfl, by (intro W hSw; (try dsimp only at hSw); go_simp <;> with_reducible rfl)⟩) (by assumption) ?_
  (try simp only [Act.put, sA, sB, sC])
  refine tt_take (i := 68) (v := _) (by rfl) (by decide +kernel) (by exact fun _ _ _ h => h) (Or.inl ⟨by rfl, by (intro W hSw; (try dsimp only at hSw); go_simp <;> with_reducible rfl)⟩) (by assumption) ?_
  (try simp only [Act.put, sA, sB, sC])
  refine tt_take (i := 69) (v := _) (by rfl) (by decide +kernel) (by exact fun _ _ _ h => h) (by first | exact Or.inl ⟨by rfl, by (intro W hSw; (try dsimp only at hSw); go_simp <;> with_reducible rfl)⟩ | exact Or.inr ⟨by rfl, rfl⟩) (by assumption) ?_
  (try simp only [Act.put, sA, sB, sC])
  refine tt_take (i := 70) (v := _) (by rfl) (by decide +kernel) (by exact fun _ _ _ h => h) (by first | exact Or.inl ⟨by rfl, by (intro W hSw; (try dsimp only at hSw); go_simp <;> with_reducible rfl)⟩ | exact Or.inr ⟨by rfl, rfl⟩) (by assumption) ?_
  (try simp only [Act.put, sA, sB, sC])
  refine tt_ready (rs := [71]) (by decide +kernel) (allT_cons (by rfl) (fun K hK => ?_) allT_nil)
  go_simp
  go_at_call 27
  refine hp2'.out.mono ?_; rintro e wD ⟨rfl, bD⟩
  have BE := hid (BD.out.trans (bD.mono BD.out.size))
  have KE := KC.out wD BE.out
  clear bD hp2'
  dsimp only
  refine hK.out _ _ (by (exact KE)) (fun hHeld7 => ?_)
  clear hK K
  (try simp only [Act.put, sA, sB, sC])
  refine tt_tail (by decide +kernel) ?_
  simp only [List.drop_succ_cons, List.drop_zero]
  go_wp2
  go_ret
  exact ⟨rfl, I9.out.b.trans (BE.out.mono I9.out.b.size)⟩
theorem nameQ_decl : ∀ f ∈ (T7 10).funs, NameQ f.name := by
  intro f hf
  have : f ∈ declL := hf
  simp only [declL, List.mem_cons, List.not_mem_nil, or_false] at this
  rcases this with rfl | rfl | rfl | rfl | rfl | rfl | rfl | rfl | rfl | rfl <;> exact ⟨by decide +kernel, by decide +kernel⟩
theorem decl_fr : ∀ f ∈ (T7 10).funs, ∀ k : Int, f.name ≠ freshName k := fun f hf k e => by
  have h1 := (by decide +kernel : ∀ f ∈ (T7 10).funs, f.name.data.toList.head? ≠ some 124) f hf
  rw [e] at h1
  exact h1 (by unfold freshName; simp)
theorem MdI.start : MdI (T7 10) (emptyT (T7 10)) 0 :=
  ⟨⟨TermOk.empty 10, ⟨fun k i h => (by cases h), fun j n h => (by simp [emptyT] at h), fun n h => (by simp [emptyT] at h)⟩, ⟨fun k x h => (by simp [emptyT] at h), fun x h => (by simp [emptyT] at h), fun x h => (by simp [emptyT] at h)⟩, nameQ_decl⟩, ⟨TermOk.empty 10, fun x h => (by simp [emptyT] at h)⟩, Nat.le_refl _, rfl, rfl, ⟨fun x h => (by simp [emptyT] at h), fun x h => (by simp [emptyT] at h), by decide +kernel, fun x h => (by simp [emptyT] at h)⟩, ⟨fun x h => (by simp [emptyT] at h), decl_fr⟩⟩
theorem plainT_within {T : TermD} (ho : OrdT T) {i : Int} (hi : hasT T i = true) {L : List Int} (h : WithinD T [i] L) : plainT T i = L.all fun x => !appliedN (nodeAt T x) := by
  unfold plainT anyT
  rw [hi, Bool.true_and, Bool.eq_iff_iff, Bool.not_eq_true', List.any_eq_false, List.all_eq_true]
  have hm : ∀ x, x ∈ (walkT T [i]).2 ↔ x ∈ L := fun x => (walkT_reach ho [i] x).trans (h.r x).symm
  have hx : ∀ x ∈ L, nodeX T x = nodeAt T x := fun x hx => by unfold nodeX; rw [if_pos (h.rg x hx)]
  constructor
  · intro h1 x hL
    have := h1 x ((hm x).2 hL)
    rw [hx x hL] at this
    simpa using this
  · intro h1 x hL
    have hL := (hm x).1 hL
    rw [hx x hL]
    have := h1 x hL
    simpa using this
theorem RRd.opArgs {r : Nat} {T : TermD} {w : World} (h : RRd r T.nodes w) {k : Nat} (hk : k < T.nodes.length) : ∃ b o cL g e, w.cell? ⟨r, 1, none⟩ = some (.slice (some ⟨b, o, none⟩) T.nodes.length cL) ∧ w.cell? ⟨b, o + k * 7, none⟩ = some (.int .i64 (nodeAt T k).op) ∧ w.cell? ⟨b, o + k * 7 + 5, none⟩ = some (.slice g (nodeAt T k).args.length e) := by
  obtain ⟨aL, cL, h1, h2⟩ := h.len
  obtain ⟨b, o, _, _, _, _, g, e, rfl, _, hc⟩ := h2.nodeAt (nodeAt_nat hk)
  exact ⟨b, o, cL, g, e, h1, hc 0 _ rfl, hc 5 _ rfl⟩
theorem flatPlain_walk (a : Option Addr) (n c : Nat) (xs : List StepD) (w : World) (hE : EnvT w) (hx : SlR repStep (fun _ => True) w a n xs) (hn : n ≤ c ∧ c ≤ 9223372036854775807) :
    Calls Tryz.prog 4 #[.slice a n c] w fun e w' => e = .returned (.bool true) ∧ Below w.heap.size w w' := by
  have hfew := hid (few17_any a n c xs w hx (by omega))
  have hE' := hid hE
  have hx' := hid hx
  clear hE hx
  go_enter Tryz.func4, Tryz.ntmps4
  go_wp2_with fail
  refine hfew.out.mono ?_; rintro e w1 ⟨t, rfl, hsm, b1⟩
  have B1 := hid b1
  have E1 := hid (hE'.out.all b1)
  have X1 := hid (hx'.out.below b1 (Nat.le_refl _))
  have hsm' := hid hsm
  clear b1 hsm hfew hE' hx'
  have haw := hid (fun (W : World) (hb : Below w1.heap.size w1 W) => awake17_any W (E1.out.all hb))
  cases t
  case false =>
    have haw1 := hid (haw.out w1 (Below.refl _ _))
    go_wp2_with fail
    refine haw1.out.mono ?_; rintro e w2 ⟨rfl, b2⟩
    have B2 := hid (B1.out.trans (b2.mono B1.out.size))
    clear b2
    go_wp2
    go_ret
    exact ⟨rfl, B2.out⟩
  case true =>
    have hs60 := (hsm'.out rfl).1
    have hss := hid (hsm'.out rfl).2
    have hnl : n ≤ 60 := by have := X1.out.1; omega
    have htb := hid (tables17b_any w1 E1.out.env)
    clear hsm' hs60
    go_wp2_with fail
    refine htb.out.mono ?_; rintro e w2 ⟨p, r, q, rfl, h2⟩
    have hmd := hid (made17_any E1.out p r q (T7 10) (emptyT (T7 10)) xs a n c w2 h2 MdI.start (X1.out.mono fun b hb _ => hb) hss.out hnl)
    clear h2 htb
    go_wp2_with fail
    refine hmd.out.mono ?_; rintro e w3 ⟨T, ids, v, rfl, hT, hM, hil, hok, hO⟩
    have T3 := hid hT
    have M3 := hid hM
    have G3 := hid (show TermG { T with X := rowB v } from ⟨M3.out.g.ok.X _, M3.out.g.ng⟩)
    have hN : ({ T with X := rowB v } : TermD).nodes.length ≤ 60 := Nat.le_trans M3.out.len hnl
    clear hT hM hil hok hO hmd hss X1 M3
    generalize ({ T with X := rowB v } : TermD) = T' at *
    clear T
    obtain ⟨T, rfl⟩ : ∃ T, T = T' := ⟨_, rfl⟩
    go_wp2
    go_loopw [7, 8, 9, 10] (fun v7 _ _ _ wr => ∃ i : Nat, i ≤ T.nodes.length ∧ v7 = .int .i64 i ∧ Hid (Below w3.heap.size w3 wr)) (fun v7 _ _ _ _ => T.nodes.length - (intOf v7).toNat)
    case atStart => exact ⟨0, Nat.zero_le _, rfl, Below.refl _ _⟩
    case round =>
      obtain ⟨i, hi, rfl, hB⟩ := hrel
      obtain ⟨aL, cL, hc1, _⟩ := (T3.out.all hB.out).m.rd.len
      by_cases hiN : i < T.nodes.length
      case neg =>
        obtain rfl : i = T.nodes.length := by omega
        have haw1 := hid (haw.out wr (T3.out.st.b.trans (hB.out.mono T3.out.st.b.size)))
        go_wp2_with fail
        refine haw1.out.mono ?_; rintro e w4 ⟨rfl, b4⟩
        have B4 := hid (B1.out.trans ((T3.out.st.b.trans ((hB.out.trans (b4.mono hB.out.size)).mono T3.out.st.b.size)).mono B1.out.size))
        clear b4
        go_wp2
        go_ret
        exact ⟨rfl, B4.out⟩
      case pos =>
        have hiNi : (i : Int) < T.nodes.length := by omega
        have hBa : Below wr.heap.size wr (wr.alloc (.cells #[.int .i64 i] 3)) := (Below.refl _ _).alloc (Nat.le_refl _) _
        have hrd := (lit_dat wr [(i : Int)] (by intro x hx; simp at hx; subst hx; unfold okI; omega)).toI
        have hwt := hid (within17_any w1.heap.size p T (some ⟨wr.heap.size, 0, none⟩) 1 1 [(i : Int)] (wr.alloc (.cells #[.int .i64 i] 3)) ((T3.out.all (hB.out.trans (hBa.mono hB.out.size))).st.t) G3.out hrd (by decide))
        have hBa' := hid (hB.out.trans (hBa.mono hB.out.size))
        clear hBa hrd
        go_wp2_with fail
        refine hwt.out.mono ?_; rintro e w4 ⟨L, al, cl, rfl, hO, b4, hW⟩
        have B4 := hid (hBa'.out.trans (b4.mono hBa'.out.size))
        have hhi : hasT T (i : Int) = true := hasT_iff.2 ⟨by omega, by omega⟩
        have hpl := hid (plainT_within G3.out.ok.ord hhi hW)
        have W4 := hid hW
        have RL := hid (OwnC.rdX hO (fun x hx => by have := hasT_iff.1 (hW.rg x hx); unfold okI; omega))
        have hLn := hid (pigeon _ _ hW.nd fun x hx => hasT_iff.1 (hW.rg x hx))
        clear hO b4 hW hBa' hhi hwt
        go_wp2
        go_loopw [8, 10] (fun v8 v10 wi => ∃ k : Nat, k ≤ L.length ∧ v10 = .int .i64 k ∧ v8 = .bool ((L.take k).all fun x => !appliedN (nodeAt T x)) ∧ Hid (Below w4.heap.size w4 wi)) (fun _ v10 _ => L.length - (intOf v10).toNat)
        case atStart => exact ⟨0, Nat.zero_le _, rfl, rfl, Below.refl _ _⟩
        case round =>
          obtain ⟨k, hk, rfl, rfl, hB5⟩ := hrel
          by_cases hkL : k < L.length
          case neg =>
            obtain rfl : k = L.length := by omega
            have hBi := hid (B4.out.trans (hB5.out.mono B4.out.size))
            have hp := hid (plain_any w1.heap.size p T i wr (T3.out.all hBi.out).st.t G3.out.ok (by unfold okI; omega))
            rw [List.take_length, ← hpl.out]
            generalize plainT T (i : Int) = b at *
            go_wp2_with fail
            refine hp.out.mono ?_; rintro e w5 ⟨rfl, b5⟩
            have B5 := hid (hBi.out.trans (b5.mono hBi.out.size))
            clear b5
            cases b <;> (
              go_wp2
              go_roundw
              case rel => exact ⟨i + 1, by omega, by go_num, B5.out⟩
              case measure => first | (simp [intOf]; done) | (simp [intOf]; omega))
          case pos =>
            have hL60 : L.length ≤ 60 := Nat.le_trans hLn.out hN
            have hkLi : (k : Int) < L.length := by omega
            have hBi := hid (B4.out.trans (hB5.out.mono B4.out.size))
            have hin := W4.out.rg _ (nth_mem hkL)
            obtain ⟨g0, g1⟩ := hasT_iff.1 hin
            obtain ⟨b9, o9, rfl, k9⟩ := (RL.out.below hB5.out (Nat.le_refl _)).at k hkL
            have hsucc := @hid (((L.take (k + 1)).all fun x => !appliedN (nodeAt T x)) = (((L.take k).all fun x => !appliedN (nodeAt T x)) && !appliedN (nodeAt T (nth L k)))) (by rw [List.take_succ_eq_append_getElem hkL, List.all_append, nth_eq hkL]; simp)
            obtain ⟨j, hj⟩ := Int.eq_ofNat_of_zero_le g0
            rw [hj] at k9 g1 hsucc
            have hjN : j < T.nodes.length := by omega
            obtain ⟨b8, o8, cL8, g8, e8, y0, y1, y2⟩ := (T3.out.all hBi.out).m.rd.opArgs hjN
            have hjn := @hid (appliedN (nodeAt T (j : Int)) = (decide ((nodeAt T (j : Int)).op = 12) && decide (0 < (nodeAt T (j : Int)).args.length))) rfl
            clear hin g0 hj hc1
            generalize nodeAt T (j : Int) = nd at *
            obtain ⟨op, nm, val, args, so⟩ := nd
            dsimp only at y1 y2 hjn
            generalize ((L.take k).all fun x => !appliedN (nodeAt T x)) = b at *
            cases b
            case false =>
              have hv := hid (show Value.bool false = .bool ((L.take (k + 1)).all fun x => !appliedN (nodeAt T x)) from by rw [hsucc.out]; rfl)
              clear hsucc hjn
              go_wp2
              go_quiet (fail)
              have B6 := hid (hB5.out.trans ((Below.refl _ _).drewN nq))
              go_wp2
              go_roundw
              case rel => exact ⟨k + 1, by omega, by go_num, hv.out, B6.out⟩
              case measure => first | (simp [intOf]; done) | (simp [intOf]; omega)
            case true =>
              by_cases hop : op = 12
              case neg =>
                have hopb : (op != 12) = true := by simpa using hop
                have hopd : decide (op = 12) = false := decide_eq_false hop
                have hv := hid (show Value.bool true = .bool ((L.take (k + 1)).all fun x => !appliedN (nodeAt T x)) from by rw [hsucc.out, hjn.out, hopd]; rfl)
                clear hsucc hjn
                go_wp2
                go_quiet (fail)
                have B6 := hid (hB5.out.trans ((Below.refl _ _).drewN nq))
                go_wp2
                go_roundw
                case rel => exact ⟨k + 1, by omega, by go_num, hv.out, B6.out⟩
                case measure => first | (simp [intOf]; done) | (simp [intOf]; omega)
              case pos =>
                subst hop
                by_cases hal : args.length = 0
                case pos =>
                  have hv := hid (show Value.bool true = .bool ((L.take (k + 1)).all fun x => !appliedN (nodeAt T x)) from by rw [hsucc.out, hjn.out, hal]; rfl)
                  obtain rfl : args = [] := List.eq_nil_of_length_eq_zero hal
                  clear hsucc hjn hal
                  go_wp2
                  go_quiet (fail)
                  have B6 := hid (hB5.out.trans ((Below.refl _ _).drewN nq))
                  go_wp2
                  go_roundw
                  case rel => exact ⟨k + 1, by omega, by go_num, hv.out, B6.out⟩
                  case measure => first | (simp [intOf]; done) | (simp [intOf]; omega)
                case neg =>
                  have hv := hid (show Value.bool false = .bool ((L.take (k + 1)).all fun x => !appliedN (nodeAt T x)) from by rw [hsucc.out, hjn.out, decide_eq_true (show 0 < args.length by omega)]; rfl)
                  have hali : ¬ (args.length : Int) = 0 := by omega
                  have halb : ((args.length : Int) == 0) = false := by simpa using hali
                  have hald : decide ((args.length : Int) = 0) = false := decide_eq_false hali
                  clear hsucc hjn hal
                  go_wp2
                  go_quiet (fail)
                  have B6 := hid (hB5.out.trans ((Below.refl _ _).drewN nq))
                  go_wp2
                  go_roundw
                  case rel => exact ⟨k + 1, by omega, by go_num, hv.out, B6.out⟩
                  case measure => first | (simp [intOf]; done) | (simp [intOf]; omega)
end Go.Proofs.YtgoojkiccdjplaaGreatDoor
namespace Go.Proofs.YtgoojkiccdjplaaGreatDoor
open Go.RowKit Go.Lib
abbrev seatLaid : List (String × DataW Unit) := [("math/bits.deBruijn32tab", Rows.laid_math_bits_deBruijn32tab), ("math/bits.deBruijn64tab", Rows.laid_math_bits_deBruijn64tab), ("internal/strconv.uint64pow10", Rows.laid_internal_strconv_uint64pow10), ("unicode/utf8.acceptRanges", Rows.laid_unicode_utf8_acceptRanges), ("unicode.White_Space", Rows.laid_unicode_White_Space), ("strings.asciiSpace", Rows.laid_strings_asciiSpace), ("strconv.isGraphic", Rows.laid_strconv_isGraphic), ("strconv.isNotPrint16", Rows.laid_strconv_isNotPrint16), ("strconv.isNotPrint32", Rows.laid_strconv_isNotPrint32), ("strconv.isPrint16", Rows.laid_strconv_isPrint16), ("strconv.isPrint32", Rows.laid_strconv_isPrint32), ("unicode/utf8.first", Rows.laid_unicode_utf8_first)]
theorem laid_tab : (Rows.laid_strings_asciiSpace : DataW Unit) = tabData .u8 asciiSpaceTab := by kernel_rfl
theorem laid_pow : (Rows.laid_internal_strconv_uint64pow10 : DataW Unit) = tabData .u64 Lib.pow10Tab := by kernel_rfl
theorem laid_acc : (Rows.laid_unicode_utf8_acceptRanges : DataW Unit) = acceptData := by kernel_rfl
theorem g_ascii : Tryz.prog.globalNamed "strings.asciiSpace" = some 0 := by kernel_rfl
theorem t_ascii : ∃ t e, (Tryz.prog.globals[0]?).map (·.type) = some t ∧ Tryz.prog.underlying t = some (.array 256 e) ∧ Tryz.prog.underlying e = some (.int .u8) ∧ Tryz.prog.cellsOf e = 1 ∧ Tryz.prog.cellsOf t = 256 :=
  ⟨250, 5, by kernel_rfl, by kernel_rfl, by kernel_rfl, by kernel_rfl, by kernel_rfl⟩
theorem t_pow : ∃ t e, (Tryz.prog.globals[2]?).map (·.type) = some t ∧ Tryz.prog.underlying t = some (.array 20 e) ∧ Tryz.prog.underlying e = some (.int .u64) ∧ Tryz.prog.cellsOf e = 1 ∧ Tryz.prog.cellsOf t = 20 :=
  ⟨285, 177, by kernel_rfl, by kernel_rfl, by kernel_rfl, by kernel_rfl, by kernel_rfl⟩
theorem env_of_laid {W : World} (h : laidMetH Tryz.prog seatLaid W) : EnvT W := by
  rw [MakeChecks.laidMetH_plain _ _ _ (by kernel_rfl)] at h
  refine ⟨?_, ?_, ?_, ?_⟩
  · obtain ⟨g', t', cs, fuel, p, hg', ht', hvar, hd⟩ := laidMet.reads h (n := "strings.asciiSpace") (d := Rows.laid_strings_asciiSpace) (by simp)
    obtain ⟨t, e, h1, h2, h3, h4, h5⟩ := t_ascii
    obtain rfl := Option.some.inj (g_ascii.symm.trans hg')
    obtain rfl := Option.some.inj (h1.symm.trans ht')
    rw [laid_tab] at hd
    unfold Env Lib.TabIs
    rw [hvar, ← cells_of_tab h2 h3 h4 h5 hd]
  · obtain ⟨g', t', cs, fuel, p, hg', ht', hvar, hd⟩ := laidMet.reads h (n := "internal/strconv.uint64pow10") (d := Rows.laid_internal_strconv_uint64pow10) (by simp)
    obtain ⟨t, e, h1, h2, h3, h4, h5⟩ := t_pow
    obtain rfl := Option.some.inj (pow_glob.symm.trans hg')
    obtain rfl := Option.some.inj (h1.symm.trans ht')
    rw [laid_pow] at hd
    unfold Lib.TabIs
    rw [hvar, ← cells_of_tab h2 h3 h4 h5 hd]
  · exact printTabs_of_reads (ρ := Tryz.lays339_ren) { Tryz.lays339 with } ⟨by kernel_rfl, by kernel_rfl, by kernel_rfl, by kernel_rfl, by kernel_rfl, by kernel_rfl, by kernel_rfl, by kernel_rfl, by kernel_rfl, by kernel_rfl⟩
      (Pinned.isPrint16_eq ▸ laidMet.reads h (n := "strconv.isPrint16") (d := Pinned.isPrint16) (by simp [Rows.laid_strconv_isPrint16]))
      (Pinned.isNotPrint16_eq ▸ laidMet.reads h (n := "strconv.isNotPrint16") (d := Pinned.isNotPrint16) (by simp [Rows.laid_strconv_isNotPrint16]))
      (Pinned.isPrint32_eq ▸ laidMet.reads h (n := "strconv.isPrint32") (d := Pinned.isPrint32) (by simp [Rows.laid_strconv_isPrint32]))
      (Pinned.isNotPrint32_eq ▸ laidMet.reads h (n := "strconv.isNotPrint32") (d := Pinned.isNotPrint32) (by simp [Rows.laid_strconv_isNotPrint32]))
  · exact utf8Tabs_of_reads (ρ := Tryz.lays260_ren) { Tryz.lays260 with } ⟨by kernel_rfl, by kernel_rfl, by kernel_rfl, by kernel_rfl, by kernel_rfl, by kernel_rfl, by kernel_rfl⟩
      (Pinned.utf8First_eq ▸ laidMet.reads h (n := "unicode/utf8.first") (d := Pinned.utf8First) (by simp [Rows.laid_unicode_utf8_first]))
      (laid_acc ▸ laidMet.reads h (n := "unicode/utf8.acceptRanges") (d := Rows.laid_unicode_utf8_acceptRanges) (by simp))
end Go.Proofs.YtgoojkiccdjplaaGreatDoor
namespace Go.Proofs.YtgoojkiccdjplaaGreatDoor
open Go.RowKit Go.Lib
theorem laid_shaped (os : Os) (args : Array Value) : ((World.laidAll Tryz.prog os seatLaid).forCall (fun _ _ => 0) ⟨#[], args, []⟩).Shaped Tryz.checked.prog := World.shaped_of_ZipB (by kernel_rfl) (by kernel_rfl)
theorem laid_met (os : Os) (args : Array Value) : laidMetH Tryz.prog seatLaid ((World.laidAll Tryz.prog os seatLaid).forCall (fun _ _ => 0) ⟨#[], args, []⟩).memory := by
  rw [MakeChecks.laidMetH_plain _ _ _ (by kernel_rfl)]; exact laidMet_laidAll _ (by kernel_rfl) (by kernel_rfl)
end Go.Proofs.YtgoojkiccdjplaaGreatDoor
