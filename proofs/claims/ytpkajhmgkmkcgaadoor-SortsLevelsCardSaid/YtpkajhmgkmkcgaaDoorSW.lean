/-
  theodolitelaw6.SortsLevels: the walk: it returns true and writes nothing old. Condition: the library's table of spaces is as its text lays it.
-/
import Derived.Test.YtpkajhmgkmkcgaaDoorSV
import Derived.Test.YtpkajhmgkmkcgaaDoorSJ
import Derived.Test.YtpkajhmgkmkcgaaDoorSL
import Derived.Test.YtpkajhmgkmkcgaaDoorTU
import Derived.Deep.DeepCutAuto
namespace Go.Proofs.YtpkajhmgkmkcgaaDoor
open Go.RowKit Go.Sort Go.Lib

theorem TabX.ownNot {X : Nat → Prop} {B p : Nat} {T : TabD} {w : World} (h : TabX X B p T w) {b : Nat} {t : TypeId} (hb : ∃ cs f, w.heap[b]? = some (.cells cs t f)) (h1 : 67 ≠ t) (h2 : 9 ≠ t) (h3 : 32 ≠ t) (h4 : 77 ≠ t) : ¬ ownOf w p b := fun hk => by
  obtain ⟨v1, v2, v3, hblk, o1, o2, o3⟩ := h.blk
  rcases (own3 hblk).1 hk with rfl | hk | hk | hk
  · exact ty_ne h1 ⟨_, _, hblk⟩ hb
  · exact ty_ne h2 (o1.ty b hk) hb
  · exact ty_ne h3 (o2.ty b hk) hb
  · exact ty_ne h4 (o3.ty b hk) hb
theorem TabX.sub {X X' : Nat → Prop} {B p : Nat} {T : TabD} {w : World} (h : TabX X B p T w) (hs : ∀ k, X' k → X k) : TabX X' B p T w := by
  obtain ⟨v1, v2, v3, hb, o1, o2, o3⟩ := h.blk
  exact ⟨h.bp, fun k hk => h.xlt k (hs k hk), v1, v2, v3, hb, o1, o2.mono fun b _ hb => ⟨fun hx => hb.1 (hs b hx), hb.2⟩, o3⟩
/-- the block of a row -/
def RowOf (v : Value) (k : Nat) : Prop := v.ownBlock = some k
/-- a table that was made behind w0, whose functions' sorts do not lie in the row v -/
structure AtX (v : Value) (w0 : World) (p : Nat) (T : TabD) (w : World) : Prop where
  t : TabX (RowOf v) w0.heap.size p T w
  b : Below w0.heap.size w0 w
  e : Env w
  pos : 0 < w0.heap.size
section
variable {v v' : Value} {w0 w w' : World} {p n : Nat} {T T' : TabD} {xs : List Value}
theorem AtX.step (h : AtX v w0 p T w) (t : TabX (RowOf v) w0.heap.size p T' w') (s : PStep p w w') : AtX v w0 p T' w' :=
  have hb := h.t.stepBelow s
  ⟨t, h.b.trans hb, h.e.below hb h.pos, h.pos⟩
theorem AtX.all (h : AtX v w0 p T w) (b : Below w.heap.size w w') : AtX v w0 p T w' := h.step (h.t.all b) (.of_below h.t.plt b)
theorem AtX.lit (h : AtX v w0 p T w) (o : Obj) : AtX v w0 p T (w.alloc o) := h.all ((Below.refl _ _).alloc (Nat.le_refl _) _)
theorem AtX.at (h : AtX v w0 p T w) : At w0 p T w := ⟨h.t.sub (fun _ h => h.elim), h.b, h.e, h.pos⟩
theorem At.nilX (h : At w0 p T w) : AtX (.slice none 0 0) w0 p T w := ⟨h.t.sub (fun k hk => by simp [RowOf, Value.ownBlock] at hk), h.b, h.e, h.pos⟩
theorem row_step (ho : OwnC w w0.heap.size 3 1 v n xs) (h : AtX v w0 p T w) (s : PStep p w w') : OwnC w' w0.heap.size 3 1 v n xs :=
  ho.same fun k hk => (s.block k (ho.lt k hk).2 (h.t.ownNot (ho.ty k hk) (by decide) (by decide) (by decide) (by decide))).1
theorem AtX.row (h : AtX v w0 p T w) (ho : OwnC w w0.heap.size 3 1 v n xs) (hg : w.grownBy w' v.ownBlock) (hloc : v'.ownBlock = v.ownBlock ∨ ∀ k, v'.ownBlock = some k → w.heap.size ≤ k) (hlt : ∀ k, v'.ownBlock = some k → k < w'.heap.size) : AtX v' w0 p T w' := by
  have hne : ∀ k, ownOf w p k → v.ownBlock ≠ some k := fun k hk e => h.t.ownNot (ho.ty k e) (by decide) (by decide) (by decide) (by decide) hk
  obtain ⟨v1, v2, v3, hb, o1, o2, o3⟩ := h.t.blk
  have hk : ∀ k, ownOf w p k → w'.heap[k]? = w.heap[k]? := fun k hk => hg.block k (h.t.ownB hk).2 (Ne.symm (hne k hk))
  refine ⟨⟨h.t.bp, hlt, v1, v2, v3, (hk p (.inl rfl)).trans hb, o1.keep (fun _ _ h => h.elim) (fun k e => hk k ((own3 hb).2 (.inr (.inl e)))) hg.size, ?_, o3.keep (fun _ _ h => h.elim) (fun k e => hk k ((own3 hb).2 (.inr (.inr (.inr e))))) hg.size⟩, h.b.grown hg h.b.size (fun k hk => (ho.lt k hk).1), h.e.same (hg.block 0 h.e.pos fun e => ?_), h.pos⟩
  · refine (o2.keep (fun b _ hb => hg.block b hb.lt fun e => hb.1 e.symm) (fun k e => hk k ((own3 hb).2 (.inr (.inr (.inl e))))) hg.size).mono fun b _ hb => ⟨fun hx => ?_, ?_⟩
    · rcases hloc with e | e
      · exact hb.1 (by show v.ownBlock = some b; rw [← e]; exact hx)
      · have := e b hx; have := hb.lt; omega
    · obtain ⟨cs, f, hc⟩ := hb.2
      exact ⟨cs, f, (hg.block b hb.lt fun e => hb.1 e.symm).trans hc⟩
  · have := (ho.lt 0 e.symm).1
    have := h.pos
    omega
end
theorem conv_let (w : World) (r : Nat) (h : r < 33) : (convert 38 9 (.slice (some ⟨w.heap.size, 0, none⟩) 1 1)).run Tryd.prog (w.alloc (.cells #[.int .u8 (97 + (r : Int))] 5)) = .ok (.string (letter r)) (w.alloc (.cells #[.int .u8 (97 + (r : Int))] 5)) := by
  have := run_convert_bytes_back (P := Tryd.prog) (w.alloc (.cells #[.int .u8 (97 + (r : Int))] 5)) 38 9 5 ⟨w.heap.size, 0, none⟩ 1 [UInt8.ofNat (97 + r)] Tryd.underlying38 Tryd.underlying5 Tryd.underlying9 (fun j hj => by
    have hj0 : j = 0 := by simpa using hj
    subst hj0
    rw [Addr.add_lit, World.cell?_alloc_new]
    simp
    omega)
  exact this
theorem info_parts1 : ∃ i : TypeInfo, Tryd.prog.info? 3 = some i ∧ i.zero = some (.int .i64 0) ∧ i.size = 1 ∧ i.bytes = 8 := by
  cases h : Tryd.prog.info? 3 with
  | none => exact absurd h (by decide +kernel)
  | some i =>
    have := info_int
    rw [h] at this
    simp at this
    exact ⟨i, rfl, this.1, this.2.1, this.2.2⟩
def nInt (a : Nat) : Value := .int .i64 (a : Int)
set_option maxRecDepth 100000 in
set_option maxHeartbeats 4000000 in
theorem sortsLevels_walk (a : Option Addr) (n c : Nat) (xs : List Int) (pp : Int) (w : World) (hE : Env w) (hx : RdI w a n xs) (_hn : n ≤ c ∧ c ≤ 9223372036854775807) :
    Calls Tryd.prog 6 #[.slice a n c, .int .i64 pp] w fun e w' => e = .returned (.bool true) ∧ Below w.heap.size w w' := by
  have hE' := Lib.hid hE
  have haw := Lib.hid (awake6_any w hE)
  have hx' := Lib.hid hx
  clear hE hx
  by_cases g1 : 8 < n
  · go_enter Tryd.func6, Tryd.ntmps6
    go_wp2_with fail
    refine haw.out.mono ?_; rintro e w' ⟨rfl, b⟩
    go_wp2
    go_ret
    exact ⟨rfl, b⟩
  clear haw
  obtain ⟨i0, hi, hz0, hz1, hz2⟩ := info_parts1
  go_enter Tryd.func6, Tryd.ntmps6
  go_wp2_with fail
  refine (tnew_any w).mono ?_
  rintro e w1 ⟨p, rfl, t1, b1⟩
  have A1 := Lib.hid (At.nilX (show At w p (lT 0 0 (mk2 [])) w1 from ⟨t1, b1, hE'.out.all b1, hE'.out.pos⟩))
  clear t1 b1
  go_wp2
  go_loopw [6, 7, 8] (fun v6 v7 v8 wr => ∃ (i m : Nat) (ats : List Nat), v8 = .int .i64 i ∧ v7 = .int .i64 m ∧ i ≤ n ∧ m ≤ 4 * i ∧ Hid (ats.length = i) ∧ Hid (Ats m ats) ∧ Hid (OwnC wr w.heap.size 3 1 v6 i (ats.map nInt)) ∧ Hid (AtX v6 w p (lT m m (mk2 ats)) wr)) (fun _ _ v8 _ => n - (intOf v8).toNat)
  case atStart => exact ⟨0, 0, [], rfl, rfl, Nat.zero_le _, Nat.zero_le _, rfl, ⟨List.Pairwise.nil, by simp⟩, OwnC.nil _ _ _ _, A1.out⟩
  case round =>
    clear A1
    obtain ⟨i, m, ats, rfl, rfl, hin, hm4, hal, hat, hO, hA⟩ := hrel
    obtain ⟨a6, c6, hv6, hc61, hc62⟩ := hO.out.slice
    subst hv6
    by_cases hlt : i < n
    · go_wp2_with (at_builtin; refine wpList_append_C rfl (.tmp 35) (.tmp 37) rfl Tryd.underlying30 hi hz0 hz1 hz2 rfl (by decide) rfl rfl (hO.out.alloc _) (Src.one (b := wr.heap.size) (news := [.int .i64 m]) rfl ?c1) ?c2 ?c3 ?c4 ?c5 ?_)
      case c1 => intro j u hu; rw [World.cell?_alloc_new]; simpa using hu
      case c2 => intro u hu; simp at hu; subst hu; rfl
      case c3 => unfold maxLen; omega
      case c4 => omega
      case c5 => have := hA.out.b.size; simp; omega
      intro v' w2 ho2 hg2 hl2
      have A2 := Lib.hid (hA.out.row hO.out (grown_alloc hg2) (hl2.imp id (fun hh k hk => Nat.le_of_succ_le (hh k hk))) (fun k hk => (ho2.lt k hk).2))
      have O2 := Lib.hid (show OwnC w2 w.heap.size 3 1 v' (i + 1) ((ats ++ [m]).map nInt) by rw [List.map_append]; exact ho2)
      obtain ⟨a', c', rfl, _⟩ := ho2.slice
      clear ho2 hg2 hl2
      have hmk : (mk2 ats).length ≤ 40 := by have := hal.out; simp [mk2]; omega
      have hpu := Lib.hid (push_any w.heap.size p (lT m m (mk2 ats)) w2 A2.out.t (small_l (by omega) (by omega) hmk))
      unfold PushPost at hpu
      rw [sorts_len, funs_len] at hpu
      clear hmk
      go_wp2_with fail
      refine hpu.out.mono ?_
      rintro e w3 ⟨rfl, t3, s3⟩
      have A3 := Lib.hid (A2.out.step (show TabX _ _ _ (lT m m (mk2 (ats ++ [m]))) w3 by rw [← mk2_push]; exact t3) s3)
      have O3 := Lib.hid (row_step O2.out A2.out s3)
      have hxb := Lib.hid hx'
      obtain ⟨ba, oa, rfl, hxi⟩ := hx'.out.at i hlt
      have hrb := roundI_bd (nth xs i) 5 (by decide)
      have hrd := Lib.hid (fun w => round_any (nth xs i) 5 w (by decide) (by decide))
      have hxi' := Lib.hid hxi
      obtain ⟨r, hr⟩ : ∃ r : Nat, roundI (nth xs i) 5 = r := ⟨(roundI (nth xs i) 5).toNat, by omega⟩
      rw [hr] at hrb hrd
      clear hr t3 s3 hpu A2 O2 hxi hxb hO hA
      generalize nth xs i = x at *
      go_wp2
      go_loopw [7, 9] (fun v7 v9 wr2 => ∃ j q : Nat, v9 = .int .i64 j ∧ v7 = .int .i64 q ∧ Hid (q = m + j) ∧ j ≤ r ∧ Hid (OwnC wr2 w.heap.size 3 1 (.slice a' (i + 1) c') (i + 1) ((ats ++ [m]).map nInt)) ∧ Hid (AtX (.slice a' (i + 1) c') w p (lT q q (mk2 (ats ++ [m]))) wr2)) (fun _ v9 _ => r - (intOf v9).toNat)
      case atStart => exact ⟨0, m, rfl, rfl, rfl, Nat.zero_le _, O3.out, A3.out⟩
      case round =>
        clear A3 O3
        obtain ⟨j, q, rfl, rfl, hqj, hjr, hO, hA⟩ := hrel
        have hxi := keep_cell hA.out.b hxi'.out
        by_cases hjl : j < r
        · have hq31 : q ≤ 31 := by have := hqj.out; omega
          have hcv := conv_let wr q (by omega)
          have AL := Lib.hid (hA.out.lit (.cells #[.int .u8 (97 + (q : Int))] 5))
          have OL := Lib.hid (hO.out.alloc (.cells #[.int .u8 (97 + (q : Int))] 5))
          go_wp2_with fail
          refine (hrd.out _).mono ?_; rintro e w' ⟨rfl, rfl⟩
          go_wp2_with fail
          refine (sort_any w.heap.size p (lT q q (mk2 (ats ++ [m]))) (sN q) _ AL.out.t AL.out.e (by rw [sorts_len]; omega)).mono ?_
          rintro e w5 h5
          obtain ⟨rfl, t5, s5⟩ := h5.yes (bad_s (by omega))
          rw [sorts_len]
          rw [add_s] at t5
          have A5 := Lib.hid (AL.out.step t5 s5)
          have O5 := Lib.hid (row_step OL.out AL.out s5)
          clear t5 s5 h5 hcv AL OL hO hA hxi
          have hcv := conv_let w5 q (by omega)
          have AM := Lib.hid ((A5.out.lit (.cells #[.int .u8 (97 + (q : Int))] 5)).lit (.cells #[.int .i64 ((q : Int) + 2)] 3))
          have OM := Lib.hid ((O5.out.alloc (.cells #[.int .u8 (97 + (q : Int))] 5)).alloc (.cells #[.int .i64 ((q : Int) + 2)] 3))
          have hR2 := (RdI.lit [(q : Int) + 2] 3 (w5.alloc (.cells #[.int .u8 (97 + (q : Int))] 5)) (by intro y hy; simp at hy; omega))
          simp only [World.size_alloc] at hR2
          have hmk : (mk2 (ats ++ [m])).length ≤ 40 := by have := hal.out; simp [mk2]; omega
          have hfu := Lib.hid (fun_any w.heap.size p (lT (q + 1) q (mk2 (ats ++ [m]))) (lF q) (some ⟨w5.heap.size + 1, 0, none⟩) 1 ((w5.alloc (.cells #[.int .u8 (97 + (q : Int))] 5)).alloc (.cells #[.int .i64 ((q : Int) + 2)] 3)) AM.out.t (small_l (by omega) (by omega) hmk) AM.out.e hR2 (by simp [lF]))
          clear hR2 hmk
          go_wp2_with fail
          refine hfu.out.mono ?_
          rintro e w6 ⟨rfl, t6, s6⟩
          obtain ⟨f1, f2⟩ := add_f (m := q) (ms := mk2 (ats ++ [m])) hq31
          rw [f1]
          rw [f2] at t6
          have A6 := Lib.hid (AM.out.step t6 s6)
          have O6 := Lib.hid (row_step OM.out AM.out s6)
          have hq1 := Lib.hid (show q + 1 = m + (j + 1) by have := hqj.out; omega)
          clear t6 s6 f1 f2 hcv AM OM A5 O5 hfu
          go_wp2
          go_roundw
          case rel => exact ⟨j + 1, q + 1, by go_num, by go_num, hq1.out, by omega, O6.out, A6.out⟩
          case measure => simp [intOf]; omega
        · have hq4 : q ≤ 4 * (i + 1) := by have := hqj.out; omega
          have hats := Lib.hid ((Ats.push hat.out).more (show m ≤ q by have := hqj.out; omega))
          have hlen := Lib.hid (show (ats ++ [m]).length = i + 1 by rw [List.length_append, hal.out]; rfl)
          go_wp2_with fail
          refine (hrd.out _).mono ?_; rintro e w' ⟨rfl, rfl⟩
          go_wp2
          go_roundw
          case rel => exact ⟨i + 1, q, ats ++ [m], by go_num, rfl, by omega, hq4, hlen.out, hats.out, hO.out, hA.out⟩
          case measure => simp [intOf]; omega
    · obtain rfl : i = n := by omega
      have hrb := roundI_bd pp ((i : Int) + 1) (by omega)
      have hrd := Lib.hid (round_any pp ((i : Int) + 1) wr (by omega) (by omega))
      obtain ⟨k, hr⟩ : ∃ k : Nat, roundI pp ((i : Int) + 1) = k := ⟨(roundI pp ((i : Int) + 1)).toNat, by omega⟩
      rw [hr] at hrb hrd
      clear hr
      have hki : k ≤ i := by omega
      obtain ⟨p1, p2, p3⟩ := pop_l hat.out (k := k) (by have := hal.out; omega)
      have hatl := Lib.hid (hat.out.left (k := k) (by have := hal.out; omega))
      obtain ⟨L, hL⟩ : ∃ L, L = leftOf m ats k := ⟨_, rfl⟩
      obtain ⟨at2, hat2⟩ : ∃ at2, at2 = ats.take (ats.length - k) := ⟨_, rfl⟩
      have hl2 := Lib.hid (show at2.length = i - k by rw [hat2, List.length_take, hal.out]; omega)
      rw [← hL, ← hat2] at hatl
      rw [← hL] at p3
      rw [← hL, ← hat2] at p2
      have hL' := Lib.hid (show 0 < k → L = ats.getD (i - k) 0 from fun h0 => by rw [hL, ← hal.out]; unfold leftOf; rw [if_pos h0])
      have hL0 := Lib.hid (show ¬ 0 < k → L = m from fun h0 => by rw [hL]; unfold leftOf; rw [if_neg h0])
      have hmk : (mk2 ats).length ≤ 40 := by have := hal.out; simp [mk2]; omega
      have hpo := Lib.hid (pop_any w.heap.size p (lT m m (mk2 ats)) k wr hA.out.t (small_l (by omega) (by omega) hmk) (wf_l hat.out) (by unfold okI; omega))
      unfold PopPost at hpo
      rw [p1, p2] at hpo
      clear p1 p2 hmk hL hat2
      go_wp2_with fail
      refine hrd.out.mono ?_; rintro e w' ⟨rfl, rfl⟩
      go_wp2_with fail
      refine hpo.out.mono ?_
      rintro e w7 ⟨rfl, t7, s7⟩
      have A7 := Lib.hid ((hA.out.step t7 s7).at)
      have O7 := Lib.hid (row_step hO.out hA.out s7)
      have hlv := Lib.hid (show Calls Tryd.prog 30 #[.pointer (some ⟨p, 0, none⟩)] w7 fun e w' => e = .returned (.int .i64 ((i : Int) - k)) ∧ w7 = w' from by
        have h := levels_any w.heap.size p _ w7 A7.out.t
        have e : (((lT L L (mk2 at2)).marks.length : Nat) : Int) = (i : Int) - k := by
          show (((mk2 at2).length : Nat) : Int) = _
          rw [show (mk2 at2).length = at2.length by simp [mk2], hl2.out]
          omega
        rw [e] at h
        exact h)
      clear t7 s7 hrd hpo hO hA
      go_wp2_with fail
      refine hlv.out.mono ?_; rintro e w' ⟨rfl, rfl⟩
      go_upto_if 107 with fail
      go_cut [14] from 22 (fun v14 wc => v14 = .int .i64 L ∧ wc = w7)
      case first =>
        by_cases h0 : 0 < k
        · have hii : i - k < ats.length := by have := hal.out; omega
          obtain ⟨g, cap, hv, _⟩ := O7.out.form (by omega)
          cases hv
          have hc := O7.out.cells (g := g) rfl (i - k) (.int .i64 L) (by rw [List.getElem?_map, List.getElem?_eq_getElem hii, hL'.out h0]; simp [nInt, List.getD, hii])
          have hk1 : ((i : Int) - (k : Int)).toNat = i - k := by omega
          have hk2 : (0 : Int) ≤ (i : Int) - k := by omega
          have hk3 : (i : Int) - k < i := by omega
          have hk4 : (0 : Int) < k := by omega
          go_wp2
          go_meet
          case rel => exact ⟨rfl, rfl⟩
        · have e := Lib.hid (hL0.out h0)
          have hk4 : ¬ (0 : Int) < k := by omega
          clear h0
          go_wp2
          go_meet
          case rel => exact ⟨by rw [e.out], rfl⟩
      case rest =>
        obtain ⟨rfl, rfl⟩ := hcut
        clear hL' hL0 O7 hlv hat hal
        go_wp2
        go_loopw [15] (fun v15 wr2 => ∃ z : Nat, v15 = .int .i64 z ∧ z ≤ m ∧ Hid (At w p (lT L L (mk2 at2)) wr2)) (fun v15 _ => m - (intOf v15).toNat)
        case atStart => exact ⟨0, rfl, Nat.zero_le _, A7.out⟩
        case round =>
          clear A7
          obtain ⟨z, rfl, hzm, hA⟩ := hrel
          have hmk : (mk2 at2).length ≤ 40 := by have := hl2.out; simp [mk2]; omega
          have hsm := Lib.hid (small_l (a := L) (b := L) (by omega) (by omega) hmk)
          by_cases hzl : z < m
          · have hcv := conv_let wr z (by omega)
            have AL := Lib.hid (hA.out.lit (.cells #[.int .u8 (97 + (z : Int))] 5))
            have hfd := Lib.hid (find_any w.heap.size p (lT L L (mk2 at2)) (fN z) _ AL.out.t hsm.out)
            rw [find_l (by omega) (by omega)] at hfd
            generalize lookF (lT L L (mk2 at2)) (fN z) = ff at *
            go_wp2_with fail
            refine hfd.out.mono ?_
            rintro e w8 ⟨af, cf, rfl, _, _, _, b8⟩
            have A8 := Lib.hid ((AL.out.all b8).lit (.cells #[.string ff.name, .slice af ff.args.length cf, .int .i64 ff.res] 32))
            have hcv := conv_let (w8.alloc (.cells #[.string ff.name, .slice af ff.args.length cf, .int .i64 ff.res] 32)) z (by omega)
            simp only [World.size_alloc] at hcv
            have A9 := Lib.hid (A8.out.lit (.cells #[.int .u8 (97 + (z : Int))] 5))
            have hfs := Lib.hid (findSort_any w.heap.size p (lT L L (mk2 at2)) (sN z) _ A9.out.t (by rw [sorts_len]; omega))
            rw [findSort_l (by omega) (by omega)] at hfs
            clear b8 hfd AL hA hmk
            by_cases hz : z < L
            · rw [if_pos hz] at hfs
              have hd : decide (z < L) = true := by simpa using hz
              rw [hd]
              have hz1 : (z : Int) < L := by omega
              clear hd
              go_wp2_with fail
              refine hfs.out.mono ?_; rintro e w' ⟨rfl, rfl⟩
              go_wp2
              go_roundw
              case rel => exact ⟨z + 1, by go_num, by omega, A9.out⟩
              case measure => simp [intOf]; omega
            · rw [if_neg hz] at hfs
              have hd : decide (z < L) = false := by simpa using hz
              rw [hd]
              have hz1 : ¬ (z : Int) < L := by omega
              clear hd
              go_wp2_with fail
              refine hfs.out.mono ?_; rintro e w' ⟨rfl, rfl⟩
              go_wp2
              go_roundw
              case rel => exact ⟨z + 1, by go_num, by omega, A9.out⟩
              case measure => simp [intOf]; omega
          · go_wp2_with fail
            refine (sort_any w.heap.size p (lT L L (mk2 at2)) sNew wr hA.out.t hA.out.e (by rw [sorts_len]; omega)).mono ?_
            rintro e w8 h8
            obtain ⟨rfl, t8, s8⟩ := h8.yes bad_new
            rw [sorts_len]
            have A8 := Lib.hid (hA.out.step (show TabX _ _ _ (endT L (mk2 at2)) w8 from t8) s8)
            have hes := Lib.hid (end_small (L := L) (by omega) hmk)
            have hfs := Lib.hid (funs_any w.heap.size p (endT L (mk2 at2)) w8 A8.out.t hes.out)
            clear t8 s8 h8 hA hmk
            go_wp2_with fail
            refine hfs.out.mono ?_
            rintro e w9 ⟨gs, a9, c9, rfl, hp, _, _, b9⟩
            have hgl : gs.length = L := by rw [hp.length_eq]; exact funs_len L L (mk2 at2)
            rw [hgl]
            have A9 := Lib.hid (A8.out.all b9)
            obtain ⟨e1, e2⟩ := end_pop (L := L) (ats := at2) (z := (i : Int) - k + 1) (by have := hl2.out; omega)
            have hpo := Lib.hid (pop_any w.heap.size p (endT L (mk2 at2)) ((i : Int) - k + 1) w9 A9.out.t hes.out (end_wf hatl.out) (by unfold okI; omega))
            unfold PopPost at hpo
            rw [e1, e2] at hpo
            clear hp b9 hgl hfs e1 e2
            go_wp2_with fail
            refine hpo.out.mono ?_
            rintro e w10 ⟨rfl, t10, s10⟩
            have A10 := Lib.hid (A9.out.step t10 s10)
            clear t10 s10
            go_wp2_with fail
            refine (awake6_any w10 A10.out.e).mono ?_; rintro e w' ⟨rfl, b⟩
            have b' := Lib.hid (A10.out.b.trans (b.mono A10.out.b.size))
            clear b
            go_wp2
            go_ret
            exact ⟨rfl, b'.out⟩
end Go.Proofs.YtpkajhmgkmkcgaaDoor
