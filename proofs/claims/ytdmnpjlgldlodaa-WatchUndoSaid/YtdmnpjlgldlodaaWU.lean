/-
  theodolitelaw21.WatchUndo: the walk. Condition: the slices can be read.
-/
import Derived.Test.YtdmnpjlgldlodaaWT
namespace Go.Proofs.Ytdmnpjlgldlodaa
open Go.RowKit Go.Sort Go.Lib Go.Maps

theorem info_rows : (Try.prog.info? 22).map (fun i => (i.zero, i.size, i.bytes)) = some (some (.slice none 0 0), 1, 24) := by kernel_rfl
def addE (n : Nat) : Int := if n = 0 then 1 else 0
theorem addE_pos {n : Nat} (h : n ≠ 0) : addE n = 0 := if_neg h
theorem AddW.nat {B p m1 m2 i m : Nat} {ls : List (List Int)} {S : List Int} {w w' : World} {e : Ending} (hw : wIn (nthR ls i) m = true) (h : AddW B p m1 m2 (clOf ls i) S i (nthR ls i) w e w') :
    e = .returned (.int .i64 (addE (nthR ls i).length)) ∧ WatchIs B p m1 m2 (clOf ls (i + 1)) S w' ∧ WStep p m1 m2 w w' := by
  obtain ⟨h1, h2, h3⟩ := h
  rw [clOf_step hw] at h2
  rw [clOf_bad hw] at h1
  exact ⟨by rw [h1]; unfold addE; simp, h2, h3⟩
/-- what the second loop holds -/
structure Loop2 (B p m1 m2 : Nat) (C : List (Int × List Int)) (wL : World) (D : List Int) (v10 v11 v12 : Value) (w : World) : Prop where
  q : WatchQ B p m1 m2 C wL D w
  r : ∃ cs, Rows3 wL.heap.size p m1 m2 (unitsOf C D) (badsOf C D) D cs v10 v11 v12 w
  ok : ∀ j, j < D.length → valW (D.take j) (nth D j) = 0 ∧ okI (nth D j) ∧ nth D j ≠ 0
theorem Loop2.push {B p m1 m2 : Nat} {C : List (Int × List Int)} {wL w0 w : World} {D : List Int} {x : Int} {cs : List Value} {v10 v11 v12 w10 w11 w12 : Value} (h : Loop2 B p m1 m2 C wL D v10 v11 v12 w0) (hx : valW D x = 0 ∧ okI x ∧ x ≠ 0)
    (hq : WatchQ B p m1 m2 C wL (D ++ [x]) w) (hr : Rows3 wL.heap.size p m1 m2 (unitsOf C D ++ [setU C (D ++ [x])]) (badsOf C D ++ [setC C (D ++ [x])]) (D ++ [x]) cs w10 w11 w12 w) : Loop2 B p m1 m2 C wL (D ++ [x]) w10 w11 w12 w := by
  refine ⟨hq, ⟨cs, by rw [unitsOf_snoc, badsOf_snoc]; exact hr⟩, fun j hj => ?_⟩
  by_cases hjl : j < D.length
  · have := h.ok j hjl
    rw [List.take_append_of_le_length (by omega), show nth (D ++ [x]) j = nth D j by simp [nth, List.getD, List.getElem?_append_left hjl]]
    exact this
  · obtain rfl : j = D.length := by simp at hj; omega
    rw [List.take_left, show nth (D ++ [x]) D.length = x by simp [nth, List.getD]]
    exact hx
theorem WatchQ.drew {B p m1 m2 : Nat} {C : List (Int × List Int)} {wL w : World} {S : List Int} (h : WatchQ B p m1 m2 C wL S w) : WatchQ B p m1 m2 C wL S w.drew :=
  ⟨h.was, h.is.below ((Below.refl _ _).drew), h.size, h.map⟩
theorem drew_step {p m1 m2 : Nat} {w : World} (hp : p < w.heap.size) : WStep p m1 m2 w w.drew := WStep.of_below hp ((Below.refl _ _).drew)
/-- block s holds the one cell u -/
def CellF (w : World) (s : Nat) (u : Value) : Prop := w.cell? ⟨s, 0, none⟩ = some u
theorem CellF.lit (w : World) (u : Value) (e : TypeId) : CellF (w.alloc (.cells #[u] e)) w.heap.size u := cell_lit w u e
theorem CellF.more {w : World} {s : Nat} {u : Value} (h : CellF w s u) (o : Obj) : CellF (w.alloc o) s u := cell_more h o
theorem CellF.push {A' B' : World} {row : Option Nat} {s M : Nat} {u : Value} (hg : A'.grownBy B' row) (h : CellF A' s u) (hrow : ∀ k, row = some k → k < M) (hs : M ≤ s) : CellF B' s u :=
  hg.cell h (fun e => by have := hrow s e.symm; omega)
theorem CellF.at_ {w : World} {s b : Nat} {u : Value} (h : CellF w s u) (hb : b = s) : w.cell? ⟨b, 0, none⟩ = some u := by subst hb; exact h
theorem below_a0 {w : World} : Below w.heap.size w w := Below.refl _ _
theorem below_a1 {w : World} {a : Obj} : Below w.heap.size w (w.alloc a) := (Below.refl _ _).alloc (Nat.le_refl _) _
theorem below_a2 {w : World} {a b : Obj} : Below w.heap.size w ((w.alloc a).alloc b) := below_a1.alloc (by simp) _
theorem below_a3 {w : World} {a b c : Obj} : Below w.heap.size w (((w.alloc a).alloc b).alloc c) := below_a2.alloc (by simp; omega) _
theorem lt_mono {row : Option Nat} {M M' : Nat} (h : ∀ k, row = some k → k < M) (hM : M ≤ M') : ∀ k, row = some k → k < M' := fun k hk => Nat.lt_of_lt_of_le (h k hk) hM
theorem valW_go {S : List Int} {x : Int} (h : valW S x = 0) (h0 : x ≠ 0) : (x == 0 || valS S x != 0) = false := by
  unfold valW at h
  have e : (x == 0) = false := by simpa using h0
  rw [e] at h ⊢
  simp only [Bool.false_eq_true, if_false] at h
  rw [h]; rfl
theorem valW_one {S : List Int} {x : Int} (h0 : x ≠ 0) : valW (S ++ [x]) x = 1 := by
  unfold valW valS
  have e : (x == 0) = false := by simpa using h0
  have e2 : hasI (S ++ [x]) x = true := hasI_iff.2 (by simp)
  rw [e, e2]; rfl

set_option maxRecDepth 100000 in
set_option maxHeartbeats 8000000 in
theorem watchUndo_walk (a b : Option Addr) (n k0 c d : Nat) (ls : List (List Int)) (set : List Int) (back : Int) (w : World) (hx : RdR w a n ls) (hg : RdI w b k0 set) (hn : n ≤ 9223372036854775807) (hk : k0 ≤ 9223372036854775807) :
    Calls Try.prog 7 #[.slice a n c, .slice b k0 d, .int .i64 back] w fun e w' => e = .returned (.bool true) ∧ Below w.heap.size w w' := by
  have hx' := Lib.hid hx
  have hg' := Lib.hid hg
  have lx := Lib.hid hx.len
  have lg := Lib.hid hg.len
  clear hx hg
  by_cases g1 : 12 < n
  · go_enter Try.func7, Try.ntmps7
    go_wp2_with fail
    refine (awake21_any w).mono ?_; rintro e w1 ⟨rfl, hb⟩
    have hb' := Lib.hid hb
    clear hb
    go_wp2
    go_ret
    exact ⟨rfl, hb'.out⟩
  by_cases g2 : 12 < k0
  · go_enter Try.func7, Try.ntmps7
    go_wp2_with fail
    refine (awake21_any w).mono ?_; rintro e w1 ⟨rfl, hb⟩
    have hb' := Lib.hid hb
    clear hb
    go_wp2
    go_ret
    exact ⟨rfl, hb'.out⟩
  obtain ⟨i0, hi, hz0, hz1, hz2⟩ := info_parts info_int
  obtain ⟨i9, hi9, hy0, hy1, hy2⟩ := info_parts info_rows
  go_enter Try.func7, Try.ntmps7
  go_wp2_with fail
  refine (wnew_any w).mono ?_
  rintro e w1 ⟨p, m1, m2, rfl, h1, b1⟩
  have W1 := Lib.hid h1
  have B1 := Lib.hid b1
  clear h1 b1
  go_wp2
  go_loopw [6, 8, 9] (fun _ i _ wr => ∃ k : Nat, k ≤ n ∧ i = .int .i64 k ∧ Hid (WatchIs w.heap.size p m1 m2 (clOf ls k) [] wr) ∧ Hid (Below w.heap.size w wr)) (fun _ i _ _ => n - (intOf i).toNat)
  case atStart => exact ⟨0, Nat.zero_le _, rfl, W1.out, B1.out⟩
  case round =>
    obtain ⟨k, hk, rfl, hW, hB⟩ := hrel
    clear W1 B1
    by_cases hlt : k < n
    · obtain ⟨b1, o1, a', c', rfl, h1, hr⟩ := (hx'.out.below hB.out (Nat.le_refl _)).at k hlt
      have hr' := Lib.hid hr
      clear hr
      by_cases hlen : 6 < (nthR ls k).length
      · generalize nthR ls k = r at *
        go_wp2_with fail
        refine (awake21_any _).mono ?_; rintro e w1 ⟨rfl, hb⟩
        have hb' := Lib.hid (hB.out.trans (hb.mono hB.out.size))
        clear hb
        go_wp2
        go_ret
        exact ⟨rfl, hb'.out⟩
      have hwi := Lib.hid (within21_any a' (nthR ls k).length c' (nthR ls k) ((50 : Nat) : Int) wr hr'.out (by omega) (by omega))
      cases hin : wIn (nthR ls k) ((50 : Nat) : Int)
      · rw [hin] at hwi
        clear hin
        generalize nthR ls k = r at *
        go_wp2_with fail
        refine hwi.out.mono ?_; rintro e w' ⟨rfl, rfl⟩
        go_wp2_with fail
        refine (awake21_any _).mono ?_; rintro e w1 ⟨rfl, hb⟩
        have hb' := Lib.hid (hB.out.trans (hb.mono hB.out.size))
        clear hb
        go_wp2
        go_ret
        exact ⟨rfl, hb'.out⟩
      · rw [hin] at hwi
        have hin' := Lib.hid hin
        clear hin
        have hadd := Lib.hid ((wadd_any w.heap.size p m1 m2 (clOf ls k) [] k a' (nthR ls k).length c' (nthR ls k) wr hW.out hr'.out (by omega) (by unfold okI; omega) (by have := clOf_len ls k; omega)).mono fun _ _ h => h.nat hin'.out)
        have hxl := Lib.hid (fun w2 (hb2 : Below w.heap.size w w2) => (hx'.out.below hb2 (Nat.le_refl _)).at k hlt)
        generalize hgl : (nthR ls k).length = rl at *
        have hgl' := Lib.hid hgl
        clear hgl
        by_cases hl0 : rl = 0
        · subst hl0
          go_wp2_with fail
          refine hwi.out.mono ?_; rintro e w' ⟨rfl, rfl⟩
          go_wp2_with fail
          refine hadd.out.mono ?_
          rintro e w2 ⟨rfl, h2, s2⟩
          rw [show addE 0 = 1 from rfl]
          have B2 := Lib.hid (hB.out.trans ((hW.out.stepBelow s2)))
          have W2 := Lib.hid h2
          obtain ⟨b3, o3, a3, c3, e3, h3, _⟩ := hxl.out w2 B2.out
          cases e3
          clear h1 s2 h2 hadd hwi
          go_wp2
          go_roundw
          case rel => exact ⟨k + 1, by omega, by go_num, W2.out, B2.out⟩
          case measure => simp [intOf]; omega
        · go_wp2_with fail
          refine hwi.out.mono ?_; rintro e w' ⟨rfl, rfl⟩
          go_wp2_with fail
          refine hadd.out.mono ?_
          rintro e w2 ⟨rfl, h2, s2⟩
          rw [addE_pos hl0]
          have B2 := Lib.hid (hB.out.trans ((hW.out.stepBelow s2)))
          have W2 := Lib.hid h2
          obtain ⟨b3, o3, a3, c3, e3, h3, _⟩ := hxl.out w2 B2.out
          cases e3
          have hpos : 0 < rl := by omega
          clear h1 s2 h2 hadd hwi
          go_wp2
          go_roundw
          case rel => exact ⟨k + 1, by omega, by go_num, W2.out, B2.out⟩
          case measure => simp [intOf]; omega
    · obtain rfl : k = n := by omega
      have hCok := Lib.hid (show ∀ e ∈ clOf ls k, okI e.1 from fun e he => by have := clOf_id ls k e he; unfold okI; omega)
      have hCl := clOf_len ls k
      generalize clOf ls k = C at *
      have hwi := Lib.hid (within21_any b k0 d set ((50 : Nat) : Int) wr (hg'.out.below hB.out (Nat.le_refl _)) (by omega) (by omega))
      cases hin : wIn set ((50 : Nat) : Int)
      · rw [hin] at hwi
        clear hin
        go_wp2_with fail
        refine hwi.out.mono ?_; rintro e w' ⟨rfl, rfl⟩
        go_wp2_with fail
        refine (awake21_any _).mono ?_; rintro e w1 ⟨rfl, hb⟩
        have hb' := Lib.hid (hB.out.trans (hb.mono hB.out.size))
        clear hb
        go_wp2
        go_ret
        exact ⟨rfl, hb'.out⟩
      rw [hin] at hwi
      have hin' := Lib.hid hin
      clear hin
      go_wp2_with fail
      refine hwi.out.mono ?_; rintro e w' ⟨rfl, rfl⟩
      have L0 := Lib.hid (show Loop2 w.heap.size p m1 m2 C wr [] (.slice none 0 0) (.slice none 0 0) (.slice none 0 0) wr from ⟨WatchQ.start hW.out, ⟨[], Rows3.start _ _ _ _ _⟩, fun j hj => absurd hj (Nat.not_lt_zero _)⟩)
      obtain ⟨wL, hwL⟩ : ∃ wL : World, wL = wr := ⟨_, rfl⟩
      have hLW : WatchIs w.heap.size p m1 m2 C [] wL := by rw [hwL]; exact hW.out
      have hLW' := Lib.hid hLW
      have hBL : Below w.heap.size w wL := by rw [hwL]; exact hB.out
      have hBL' := Lib.hid hBL
      clear hwi hW hB hLW hBL
      go_wp2
      subst hwL
      go_loopw [10, 11, 12, 13, 14, 15] (fun v10 v11 v12 i _ _ wr => ∃ (j : Nat) (D : List Int), j ≤ k0 ∧ i = .int .i64 j ∧ D.length ≤ j ∧ Hid (Loop2 w.heap.size p m1 m2 C wL D v10 v11 v12 wr) ∧ Hid (Below w.heap.size w wr)) (fun _ _ _ i _ _ _ => k0 - (intOf i).toNat)
      case atStart => exact ⟨0, [], Nat.zero_le _, rfl, Nat.le_refl _, L0.out, hBL'.out⟩
      case round =>
        clear L0
        obtain ⟨j, D, hj, rfl, hDl, hL, hB⟩ := hrel
        by_cases hlt2 : j < k0
        · obtain ⟨b1, o1, rfl, h1w⟩ := hg'.out.at j hlt2
          have hb1 : b1 < w.heap.size := World.block_lt_of_cell? w _ h1w
          have h1 : wr.cell? ⟨b1, o1 + j, none⟩ = some (.int .i64 (nth set j)) := by rw [hB.out.cell (p := ⟨b1, o1 + j, none⟩) hb1]; exact h1w
          have hjx : j < set.length := by rw [lg.out]; exact hlt2
          have hbd := inB_bd (wIn_at hin'.out hjx)
          have h1w' := Lib.hid h1w
          clear hjx h1w
          generalize nth set j = x at *
          have hok : okI x := by unfold okI; omega
          have hok' := Lib.hid hok
          have hval := Lib.hid (wvalue_any w.heap.size p m1 m2 C D x wr hL.out.q.is hok)
          by_cases hv : valW D x = 0
          · rw [hv] at hval
            have hgo := Lib.hid (valW_go hv hbd.1)
            have hset := Lib.hid (wset_any w.heap.size p m1 m2 C D x wr hL.out.q.is hok (by omega) (by omega))
            have hv' := Lib.hid (show valW D x = 0 ∧ okI x ∧ x ≠ 0 from ⟨hv, hok, hbd.1⟩)
            clear hv hok
            go_wp2_with fail
            refine hval.out.mono ?_; rintro e w' ⟨rfl, rfl⟩
            go_wp2_with fail
            refine hset.out.mono ?_; rintro e w2 h2
            obtain ⟨h2a, h2b, au, nu, cu, rfl, r2, f2⟩ := h2.fresh hgo.out
            obtain ⟨cs, hR⟩ := hL.out.r
            have hB2 := hB.out.trans (hL.out.q.is.stepBelow h2b.weaken)
            have hp2 : p < w2.heap.size := h2a.plt
            have Q3 := Lib.hid (hL.out.q.set h2a h2b).drew
            have R3 := Lib.hid ((hR.wstep h2b.weaken).wstep (drew_step hp2))
            have U3 := Lib.hid (r2.wstep (drew_step hp2))
            have F3 := Lib.hid (show Free nu au _ ∧ Free nu au _ ∧ Free nu au _ from ⟨fun _ y hy e => by have := f2 y hy; have := (hR.o10.lt _ e).2; omega, fun _ y hy e => by have := f2 y hy; have := (hR.o11.lt _ e).2; omega, fun _ y hy e => by have := f2 y hy; have := (hR.o12.lt _ e).2; omega⟩)
            have B3 := Lib.hid (show Below w.heap.size w w2.drew from hB2.drew)
            have lt10 := Lib.hid (show ∀ k, _ = some k → k < w2.heap.size from fun k hk => (R3.out.o10.lt k hk).2)
            have lt11 := Lib.hid (show ∀ k, _ = some k → k < w2.heap.size from fun k hk => (R3.out.o11.lt k hk).2)
            have lt12 := Lib.hid (show ∀ k, _ = some k → k < w2.heap.size from fun k hk => (R3.out.o12.lt k hk).2)
            have ge10 := Lib.hid (fun k hk => (R3.out.o10.lt k hk).1)
            have ge11 := Lib.hid (fun k hk => (R3.out.o11.lt k hk).1)
            have ge12 := Lib.hid (fun k hk => (R3.out.o12.lt k hk).1)
            have hwL := hBL'.out.size
            have n10 := Lib.hid (show some b1 ≠ _ from fun e => by have := ge10.out b1 e.symm; omega)
            have n11 := Lib.hid (show some b1 ≠ _ from fun e => by have := ge11.out b1 e.symm; omega)
            have n12 := Lib.hid (show some b1 ≠ _ from fun e => by have := ge12.out b1 e.symm; omega)
            have h2c : w2.cell? ⟨b1, o1 + j, none⟩ = some (.int .i64 x) := by rw [hB2.cell (p := ⟨b1, o1 + j, none⟩) hb1]; exact h1w'.out
            have hun := unitsOf_len C D
            have hbn := badsOf_len C D
            generalize hUU : unitsOf C D = UU at *
            generalize hZZ : badsOf C D = ZZ at *
            generalize hzz : setC C (D ++ [x]) = z at *
            generalize huu : setU C (D ++ [x]) = u at *
            have HUU := Lib.hid hUU
            have HZZ := Lib.hid hZZ
            have Hzz := Lib.hid hzz
            have Huu := Lib.hid huu
            have hUl : UU.length < 100 := by omega
            have hZl : ZZ.length < 100 := by omega
            clear hUU hZZ hzz huu hun hbn h2 h2a h2b r2 f2 hR hB2 h1 hval hset hgo
            go_wp2
            go_region_held3 (fun W => W.cell? ⟨b1, o1 + j, none⟩ = some (.int .i64 x)) ((first | assumption | exact cell_more (by assumption) _))
              ((first
                | (refine step_append_lies _ (by rfl) (.tmp 95) (.tmp 97) 44 (by rfl) wL.heap.size 22 i9 (.slice none 0 0) 1 24 Try.underlying44 hi9 hy0 hy1 hy2 rfl (by decide) _ UU.length cs rfl (by first | exact R3.out.o10.alloc _ | exact (R3.out.o10.alloc _).alloc _ | exact ((R3.out.o10.alloc _).alloc _).alloc _) _ 1 1 [.slice au nu cu] rfl rfl (news_one (by first | exact (CellF.lit _ _ _).at_ (by simp) | exact ((CellF.lit _ _ _).more _).at_ (by simp) | exact (((CellF.lit _ _ _).more _).more _).at_ (by simp))) one_slice (by omega) (by unfold maxLen; omega) (by omega) (by have := hwL; have := Q3.out.size; simp at *; omega) _ rfl ?_
                   intro g cap w4 ho4 hg4 hat4 hlt4
                   have P4 := Push.mk (A := w2.drew) (v' := .slice (some ⟨g, 0, none⟩) (UU.length + 1) cap) (by first | exact below_a1 | exact below_a2 | exact below_a3) hg4 (hat4.imp (fun e => e.symm) (fun e => by rw [← e]; rfl))
                   have R4 := Lib.hid (Rows3.push10 Q3.out.is R3.out P4 ho4 U3.out F3.out.1 F3.out.2.1 F3.out.2.2)
                   have Q4 := Lib.hid (Q3.out.push hCok.out P4 R3.out.f10 ge10.out)
                   have B4 := Lib.hid (B3.out.trans (P4.below B3.out.size (fun k hk => Nat.le_trans hwL (ge10.out k hk))))
                   have hs4 : w2.heap.size ≤ w4.heap.size := P4.size
                   have hS4 : w4.cell? ⟨b1, o1 + j, none⟩ = some (.int .i64 x) := hg4.cell (by assumption) n10.out
                   clear P4 ho4 hat4 hlt4; skip
                   (first
                     | have C11 := Lib.hid (CellF.push hg4 (CellF.lit _ (.int .i64 z) _) lt10.out (by first | omega | (simp; done) | (simp; omega)))
                     | have C11 := Lib.hid (CellF.push hg4 ((CellF.lit _ (.int .i64 z) _).more _) lt10.out (by first | omega | (simp; done) | (simp; omega)))
                     | have C11 := Lib.hid (CellF.push hg4 (((CellF.lit _ (.int .i64 z) _).more _).more _) lt10.out (by first | omega | (simp; done) | (simp; omega)))
                     | have C11 := Lib.hid True.intro)
                   (first
                     | have C12 := Lib.hid (CellF.push hg4 (CellF.lit _ (.int .i64 x) _) lt10.out (by first | omega | (simp; done) | (simp; omega)))
                     | have C12 := Lib.hid (CellF.push hg4 ((CellF.lit _ (.int .i64 x) _).more _) lt10.out (by first | omega | (simp; done) | (simp; omega)))
                     | have C12 := Lib.hid (CellF.push hg4 (((CellF.lit _ (.int .i64 x) _).more _).more _) lt10.out (by first | omega | (simp; done) | (simp; omega)))
                     | have C12 := Lib.hid True.intro)
                   clear hg4)
                | (refine step_append_lies _ (by rfl) (.tmp 99) (.tmp 101) 22 (by rfl) wL.heap.size 3 i0 (.int .i64 0) 1 8 Try.underlying22 hi hz0 hz1 hz2 rfl (by decide) _ ZZ.length (ZZ.map (Value.int .i64)) rfl (by first | exact R4.out.o11 | exact R4.out.o11.alloc _ | exact (R4.out.o11.alloc _).alloc _) _ 1 1 [.int .i64 z] rfl rfl (news_one (by first | exact (CellF.lit _ _ _).at_ (by simp) | exact ((CellF.lit _ _ _).more _).at_ (by simp) | exact C11.out.at_ (by simp) | exact (C11.out.more _).at_ (by simp) | exact ((C11.out.more _).more _).at_ (by simp))) one_int (by omega) (by unfold maxLen; omega) (by omega) (by have := hwL; have := Q4.out.size; simp at *; omega) _ rfl ?_
                   intro g cap w5 ho5 hg5 hat5 hlt5
                   have P5 := Push.mk (A := w4) (v' := .slice (some ⟨g, 0, none⟩) (ZZ.length + 1) cap) (by first | exact below_a0 | exact below_a1 | exact below_a2) hg5 (hat5.imp (fun e => e.symm) (fun e => by rw [← e]; rfl))
                   have R5 := Lib.hid (Rows3.push11 Q4.out.is R4.out P5 ho5)
                   have Q5 := Lib.hid (Q4.out.push hCok.out P5 R4.out.f11 ge11.out)
                   have B5 := Lib.hid (B4.out.trans (P5.below B4.out.size (fun k hk => Nat.le_trans hwL (ge11.out k hk))))
                   have hs5 : w4.heap.size ≤ w5.heap.size := P5.size
                   have hS5 : w5.cell? ⟨b1, o1 + j, none⟩ = some (.int .i64 x) := hg5.cell (by assumption) n11.out
                   clear P5 ho5 hat5 hlt5; skip
                   (first
                     | have C13 := Lib.hid (CellF.push hg5 C12.out lt11.out (by first | omega | (simp; done) | (simp; omega)))
                     | have C13 := Lib.hid (CellF.push hg5 (C12.out.more _) lt11.out (by first | omega | (simp; done) | (simp; omega)))
                     | have C13 := Lib.hid (CellF.push hg5 ((C12.out.more _).more _) lt11.out (by first | omega | (simp; done) | (simp; omega)))
                     | have C13 := Lib.hid (CellF.push hg5 (CellF.lit _ (.int .i64 x) _) lt11.out (by first | omega | (simp; done) | (simp; omega)))
                     | have C13 := Lib.hid (CellF.push hg5 ((CellF.lit _ (.int .i64 x) _).more _) lt11.out (by first | omega | (simp; done) | (simp; omega)))
                     | have C13 := Lib.hid True.intro)
                   clear hg5)
                | (refine step_append_lies _ (by rfl) (.tmp 103) (.tmp 108) 22 (by rfl) wL.heap.size 3 i0 (.int .i64 0) 1 8 Try.underlying22 hi hz0 hz1 hz2 rfl (by decide) _ D.length (D.map (Value.int .i64)) rfl (by first | exact R5.out.o12 | exact R5.out.o12.alloc _) _ 1 1 [.int .i64 x] rfl rfl (news_one (by first | exact (CellF.lit _ _ _).at_ (by simp) | exact C13.out.at_ (by simp) | exact (C13.out.more _).at_ (by simp))) one_int (by omega) (by unfold maxLen; omega) (by omega) (by have := hwL; have := Q5.out.size; simp at *; omega) _ rfl ?_
                   intro g cap w6 ho6 hg6 hat6 hlt6
                   have P6 := Push.mk (A := w5) (v' := .slice (some ⟨g, 0, none⟩) (D.length + 1) cap) (by first | exact below_a0 | exact below_a1) hg6 (hat6.imp (fun e => e.symm) (fun e => by rw [← e]; rfl))
                   have R6 := Rows3.push12 Q5.out.is R5.out P6 ho6
                   have Q6 := Q5.out.push hCok.out P6 R5.out.f12 ge12.out
                   have B6 := Lib.hid (B5.out.trans (P6.below B5.out.size (fun k hk => Nat.le_trans hwL (ge12.out k hk))))
                   have hS6 : w6.cell? ⟨b1, o1 + j, none⟩ = some (.int .i64 x) := hg6.cell (by assumption) n12.out
                   have L6 := Lib.hid (hL.out.push hv'.out Q6 (by rw [HUU.out, HZZ.out, Hzz.out, Huu.out]; exact R6))
                   clear P6 ho6 hg6 hat6 hlt6 R6 Q6)))
            all_goals
              clear Q3 R3 U3 F3 B3 lt10 lt11 lt12 ge10 ge11 ge12 n10 n11 n12 R4 Q4 B4 R5 Q5 B5 HUU HZZ Hzz Huu hv' C11 C12 C13
              go_wp2
              go_roundw
              case rel => exact ⟨j + 1, D ++ [x], by omega, by go_num, by simp; omega, L6.out, B6.out⟩
              case measure => simp [intOf]; omega
          · go_wp2_with fail
            refine hval.out.mono ?_; rintro e w' ⟨rfl, rfl⟩
            have hvb : (valW D x != 0) = true := by simpa using hv
            clear hv
            go_wp2
            go_roundw
            case rel => exact ⟨j + 1, D, by omega, by go_num, by omega, hL.out, hB.out⟩
            case measure => simp [intOf]; omega
        · obtain rfl : j = k0 := by omega
          obtain ⟨cs, hR⟩ := hL.out.r
          have hDw : WfI D := fun y hy => by
            obtain ⟨t, ht, rfl⟩ := List.getElem_of_mem hy
            rw [← nth_eq ht]; exact (hL.out.ok t ht).2.1
          obtain ⟨a10, c10, a11, c11, a12, c12, e10, e11, e12, r12, r11, r10⟩ := hR.reads hCok.out hDw (by omega)
          subst e10 e11 e12
          have A12 := Lib.hid r12
          have A11 := Lib.hid r11
          have A10 := Lib.hid r10
          have W3 := Lib.hid hL.out.q.is
          have OK := Lib.hid hL.out.ok
          clear hR r12 r11 r10 hL hDw
          go_wp2_with fail
          refine (round_any back ((D.length : Int) + 1) wr (by omega) (by omega)).mono ?_; rintro e w' ⟨rfl, rfl⟩
          have hrb := roundI_bd back ((D.length : Int) + 1) (by omega)
          obtain ⟨t, ht⟩ : ∃ t : Nat, roundI back ((D.length : Int) + 1) = t := ⟨(roundI back ((D.length : Int) + 1)).toNat, by omega⟩
          rw [ht] at hrb ⊢
          clear ht
          have htD : t ≤ D.length := by omega
          clear hrb
          go_wp2_with fail
          refine (wundo_any w.heap.size p m1 m2 C D t wr W3.out (by omega)).mono ?_
          rintro e w4 ⟨rfl, h4, s4⟩
          rw [undoN_nat htD] at h4
          have W4 := Lib.hid h4
          have A12' := Lib.hid (A12.out.wstep s4)
          have A11' := Lib.hid (A11.out.wstep s4)
          have A10' := Lib.hid (A10.out.wstep s4)
          have B4 := Lib.hid (hB.out.trans (W3.out.stepBelow s4))
          clear h4 s4 A12 A11 A10 W3 hB
          have hlen := Lib.hid (show ((D.take (D.length - t)).length : Int) = (D.length : Int) - t by rw [List.length_take]; omega)
          go_wp2_with fail
          refine (wlen_any w.heap.size p m1 m2 C (D.take (D.length - t)) w4 W4.out).mono ?_; rintro e w' ⟨rfl, rfl⟩
          rw [hlen.out]
          have hst := Lib.hid (show Value.int .i64 ((D.length : Int) - t) = .int .i64 ((D.length - t : Nat) : Int) from congrArg (Value.int .i64) (by omega))
          go_wp2
          go_loopw [6, 17, 18, 19] (fun _ i _ _ wr => ∃ s : Nat, D.length - t ≤ s ∧ s ≤ D.length ∧ i = .int .i64 s ∧ Hid (WatchIs w.heap.size p m1 m2 C (D.take s) wr) ∧ Hid (AtR p m1 m2 wr a12 D.length D) ∧ Hid (AtR p m1 m2 wr a11 D.length (badsOf C D)) ∧ Hid (AtRR p m1 m2 wr a10 (unitsOf C D)) ∧ Hid (Below w.heap.size w wr)) (fun _ i _ _ _ => D.length - (intOf i).toNat)
          case atStart => exact ⟨D.length - t, Nat.le_refl _, Nat.sub_le _ _, hst.out, W4.out, A12'.out, A11'.out, A10'.out, B4.out⟩
          case round =>
            clear A12' A11' A10' W4 B4 hst hlen
            obtain ⟨s, hs0, hs1, rfl, hW, h12, h11, h10, hB⟩ := hrel
            by_cases hlt4 : s < D.length
            · obtain ⟨b12, o12, e12, k12⟩ := h12.out.1.at s hlt4
              have hu : s < (unitsOf C D).length := by rw [unitsOf_len]; exact hlt4
              obtain ⟨b10, e10, _⟩ := h10.out (by omega)
              obtain ⟨b11, o11, e11, _⟩ := h11.out.1.at s hlt4
              subst e12 e11 e10
              obtain ⟨hv, hok, hx0⟩ := OK.out s hlt4
              have hts := Lib.hid (take_succ_nth hlt4)
              have hb := Lib.hid (badsOf_at C D hlt4)
              have huu := Lib.hid (unitsOf_at C D hlt4)
              have hset := Lib.hid (wset_any w.heap.size p m1 m2 C (D.take s) (nth D s) wr hW.out hok (by omega) (by rw [List.length_take]; omega))
              have hgo := Lib.hid (valW_go hv hx0)
              have hval := Lib.hid (wvalue_any w.heap.size p m1 m2 C (D.take s) (nth D s) wr hW.out hok)
              rw [hv] at hval
              have hone := Lib.hid (valW_one (S := D.take s) hx0)
              have hok' := Lib.hid hok
              clear hv hok hx0
              generalize hgx : nth D s = x at *
              have hgx' := Lib.hid hgx
              clear hgx
              go_wp2_with fail
              refine hval.out.mono ?_; rintro e w' ⟨rfl, rfl⟩
              go_wp2_with fail
              refine hset.out.mono ?_; rintro e w5 h5
              obtain ⟨h5a, h5b, au, nu, cu, rfl, r5⟩ := h5.go hgo.out
              rw [← hts.out] at h5a r5 ⊢
              have W5 := Lib.hid h5a
              have B5 := Lib.hid (hB.out.trans (hW.out.stepBelow h5b))
              have G12 := Lib.hid (h12.out.wstep h5b)
              have G11 := Lib.hid (h11.out.wstep h5b)
              have G10 := Lib.hid (h10.out.wstep h5b)
              have hnu := r5.2.1
              have U5 := Lib.hid r5
              obtain ⟨b10', e10', _, _, _, _, _, hcells⟩ := G10.out (by omega)
              cases e10'
              obtain ⟨a', n', c', q1, q2⟩ := hcells s hu
              rw [huu.out] at q2
              have V5 := Lib.hid q2
              obtain ⟨_, _, e11', q11⟩ := G11.out.1.at s hlt4
              cases e11'
              rw [hb.out] at q11
              obtain ⟨_, _, e12', q12⟩ := G12.out.1.at s hlt4
              cases e12'
              rw [hgx'.out] at q12
              have hone' : valW (D.take (s + 1)) x = 1 := by rw [hts.out]; exact hone.out
              have hval2 := Lib.hid (fun q => wvalue_any w.heap.size p m1 m2 C (D.take (s + 1)) x (w5.drewN q) (W5.out.below ((Below.refl _ _).drewN q)) hok'.out)
              rw [hone'] at hval2
              generalize setC C (D.take (s + 1)) = z at *
              generalize setU C (D.take (s + 1)) = uu at *
              clear h5 h5a h5b r5 q2 hcells k12 hset hval hone hone' hgo hts hb huu h12 h11 h10 hW hB
              go_wp2_with fail
              refine (ints_any au a' nu n' cu c' uu uu w5 U5.out.1 V5.out.1 (by omega)).mono ?_; rintro e w6 ⟨rfl, q, rfl⟩
              rw [show sameI uu uu = true by simp [sameI]]
              go_wp2_with fail
              refine (hval2.out q).mono ?_; rintro e w' ⟨rfl, rfl⟩
              have D5 : WStep p m1 m2 w5 (w5.drewN q) := WStep.of_below W5.out.plt ((Below.refl _ _).drewN q)
              have D5' := Lib.hid D5
              clear D5
              go_wp2
              go_roundw
              case rel => exact ⟨s + 1, by omega, by omega, by go_num, W5.out.below ((Below.refl _ _).drewN q), G12.out.wstep D5'.out, G11.out.wstep D5'.out, G10.out.wstep D5'.out, B5.out.drewN q⟩
              case measure => simp [intOf]; omega
            · obtain rfl : s = D.length := by omega
              rw [List.take_length] at hW
              go_wp2_with fail
              refine (wlen_any w.heap.size p m1 m2 C D wr hW.out).mono ?_; rintro e w' ⟨rfl, rfl⟩
              go_wp2_with fail
              refine (awake21_any wr).mono ?_; rintro e w7 ⟨rfl, b7⟩
              have B7 := Lib.hid (hB.out.trans (b7.mono hB.out.size))
              clear b7
              go_wp2
              go_ret
              exact ⟨rfl, B7.out⟩

theorem watchUndo_row (a0 : Option Addr) (n0 c0 : Nat) (xs0 : List (List Int)) (a1 : Option Addr) (n1 c1 : Nat) (xs1 : List Int) (x2 : Int) (W : World)
    (w0 : RdR W a0 n0 xs0) (b0 : n0 ≤ c0 ∧ c0 ≤ 9223372036854775807) (w1 : RdI W a1 n1 xs1) (b1 : n1 ≤ c1 ∧ c1 ≤ 9223372036854775807) (_w2 : okI x2) :
    Calls Try.prog 7 #[.slice a0 n0 c0, .slice a1 n1 c1, .int .i64 x2] W fun e w' => e = .returned (.bool true) ∧ Below W.heap.size W w' :=
  watchUndo_walk a0 a1 n0 n1 c0 c1 xs0 xs1 x2 W w0 w1 (by omega) (by omega)
end Go.Proofs.Ytdmnpjlgldlodaa
