/-
  The walk of theodolitelaw19.ClauseNorms: it returns true, whatever slice and number come in; it writes nothing old. Condition: the slice can be read.
-/
import Derived.Test.YtdmnpjlgldlodaaK
namespace Go.Proofs.Ytdmnpjlgldlodaa
open Go.RowKit Go.Sort Go.Lib

def turned (xs : List Int) (k : Nat) : List Int := [] ++ xs.drop k ++ xs.take k ++ xs
theorem mem_turned (xs : List Int) (k : Nat) (x : Int) : x ∈ turned xs k ↔ x ∈ xs := by
  unfold turned
  simp only [List.nil_append, List.mem_append]
  exact ⟨fun h => h.elim (fun h => h.elim List.mem_of_mem_drop List.mem_of_mem_take) id, fun h => .inr h⟩
theorem alw_turned (xs : List Int) (k : Nat) : alw (turned xs k) = alw xs := by unfold alw; rw [nrm_congr (mem_turned xs k)]
theorem nout_turned (xs : List Int) (k : Nat) : nout (turned xs k) = nout xs := by unfold nout; rw [alw_turned, nrm_congr (mem_turned xs k)]
theorem nrm_nrm (xs : List Int) : nrm (nrm xs) = nrm xs := nrm_congr fun x => mem_nrm x xs
theorem nout_nout {xs : List Int} (h : alw xs = false) : nout (nout xs) = nout xs := by
  have e : nout xs = nrm xs := by unfold nout; rw [h]; rfl
  rw [e]
  unfold nout alw
  rw [nrm_nrm]
  unfold alw at h
  rw [h]; rfl
theorem within_nout {xs : List Int} (h : alw xs = false) : withinB (nout xs) xs = true ∧ withinB xs (nout xs) = true := by
  have e : nout xs = nrm xs := by unfold nout; rw [h]; rfl
  rw [e]
  unfold withinB
  rw [List.all_eq_true, List.all_eq_true]
  exact ⟨fun x hx => hasI_iff.2 ((mem_nrm x xs).1 hx), fun x hx => hasI_iff.2 ((mem_nrm x xs).2 hx)⟩
theorem same_self (xs : List Int) : sameI xs xs = true := by simp [sameI]
theorem wf_turned {xs : List Int} (h : WfI xs) (k : Nat) : WfI (turned xs k) := fun x hx => h x ((mem_turned xs k x).1 hx)
theorem below_own {w0 W w2 : World} {e n : Nat} {v : Value} {xs : List Value} (hb : Below w0.heap.size w0 W) (ho : W.ownsRow w0.heap.size e 1 v n xs) (hg : W.grownBy w2 v.ownBlock) : Below w0.heap.size w0 w2 := hb.grown hg hb.size (fun k hk => (ho.lt k hk).1)
theorem size_int : ∀ w, (sizeOf 3).run Try.prog w = .ok 1 w := fun _ => by kernel_rfl

set_option maxRecDepth 100000 in
set_option maxHeartbeats 2000000 in
theorem clauseNorms_walk (a : Option Addr) (n c : Nat) (xs : List Int) (turn : Int) (w : World) (hx : RdI w a n xs) (hn : n ≤ c ∧ c ≤ 9223372036854775807) :
    Calls Try.prog 4 #[.slice a n c, .int .i64 turn] w fun e w' => e = .returned (.bool true) ∧ Below w.heap.size w w' := by
  have hx' := Lib.hid hx
  clear hx
  by_cases g1 : 40 < n
  · go_enter Try.func4, Try.ntmps4
    go_wp2_with fail
    refine (awake_any w).mono ?_; rintro e w1 ⟨rfl, hb⟩
    have hb' := Lib.hid hb
    clear hb
    go_wp2
    go_ret
    exact ⟨rfl, hb'.out⟩
  obtain ⟨i0, hi, hz0, hz1, hz2⟩ := info_parts info_int
  go_enter Try.func4, Try.ntmps4
  go_wp2_with fail
  refine (norm_any a n c xs w hx'.out (by omega)).mono ?_; rintro e w1 ⟨a1, n1, c1, rfl, r1, _, b1⟩
  have R1 := Lib.hid r1
  have B1 := Lib.hid b1
  have X1 := Lib.hid (hx'.out.below b1 (Nat.le_refl _))
  have N1 := Lib.hid r1.len
  clear r1 b1 hx'
  go_wp2_with fail
  refine (round_any turn _ w1 (by omega) (by omega)).mono ?_; rintro e w' ⟨rfl, rfl⟩
  have hrb := roundI_bd turn ((n : Int) + 1) (by omega)
  obtain ⟨k, hk⟩ : ∃ k : Nat, roundI turn ((n : Int) + 1) = k := ⟨(roundI turn ((n : Int) + 1)).toNat, by omega⟩
  rw [hk] at hrb ⊢
  clear hk
  have hkn : k ≤ n := by omega
  go_wp2
  obtain ⟨af, hrun1, hrf⟩ := run_from (P := Try.prog) (t := 22) (e := 3) Try.underlying22 size_int X1.out hkn hn.1
  obtain ⟨hrun2, hru⟩ := run_upto (P := Try.prog) (t := 22) (e := 3) Try.underlying22 size_int X1.out hkn hn.1
  have Rf := Lib.hid hrf
  have Ru := Lib.hid hru
  clear hrf hru
  have O0 := Lib.hid (World.ownsRow_made w1 #[] (e := 3) (size := 1) (base := w1.heap.size) 0 (Nat.le_refl _) (by unfold maxLen; omega) rfl)
  have B0 := Lib.hid (lit_below (w := w1) (o := .cells #[] 3)).drew
  have RF := Lib.hid (Rf.out.below B0.out (Nat.le_refl _))
  go_region_held3 (fun _ => True) (exact trivial)
    ((first
      | (refine step_append_rd (by rfl) (.tmp 27) (.tmp 30) (by rfl) Try.underlying22 hi hz0 hz1 hz2 (by rfl) (by rfl) O0.out RF.out (by omega) (by omega) (by simp) ?_; intro v2 w2 ho2 hg2; have B2 := Lib.hid (below_own B0.out O0.out hg2); clear hg2; simp only [Nat.zero_add, List.nil_append] at ho2; have O2 := Lib.hid ho2; clear ho2)
      | (refine step_append_rd (by rfl) (.tmp 31) (.tmp 34) (by rfl) Try.underlying22 hi hz0 hz1 hz2 (by rfl) (by rfl) O2.out (Ru.out.below B2.out (Nat.le_refl _)) (by omega) (by omega) B2.out.size ?_; intro v3 w3 ho3 hg3; have B3 := Lib.hid (below_own B2.out O2.out hg3); clear hg3; have O3 := Lib.hid ho3; clear ho3)
      | (refine step_append_rd (by rfl) (.tmp 35) (.tmp 36) (by rfl) Try.underlying22 hi hz0 hz1 hz2 (by rfl) (by rfl) O3.out (X1.out.below B3.out (Nat.le_refl _)) (by omega) (by omega) B3.out.size ?_; intro v4 w4 ho4 hg4; have B4 := Lib.hid (below_own B3.out O3.out hg4); clear hg4; have O4 := Lib.hid ho4; clear ho4)))
  have hT : List.map (Value.int .i64) (xs.drop k) ++ List.map (Value.int .i64) (xs.take k) ++ List.map (Value.int .i64) xs = (turned xs k).map (Value.int .i64) := by simp [turned]
  rw [hT] at O4
  obtain ⟨a4, c4, hv4, _⟩ := O4.out.slice
  have hn4 : n - k + k + n < 17592186044416 := by omega
  have hn5 : n - k + k + n = 2 * n := by omega
  rw [hn5] at O4 hv4 hn4
  subst hv4
  have hwf := X1.out.wf
  have R4 := Lib.hid (RdI.own O4.out (wf_turned hwf k)).2.1
  have X4 := Lib.hid (X1.out.below B4.out (Nat.le_refl _))
  have N4 := Lib.hid (R1.out.below B4.out (Nat.le_refl _))
  have BB := Lib.hid (B1.out.trans (B4.out.mono B1.out.size))
  clear hT hn5 hwf O0 O2 O3 O4 B0 B2 B3 B4 RF Rf Ru R1 X1 B1 hrun1 hrun2
  go_wp2_with fail
  refine (norm_any a4 (2 * n) c4 (turned xs k) w4 R4.out hn4).mono ?_; rintro e w5 ⟨a5, n5, c5, rfl, r5, _, b5⟩
  rw [alw_turned]
  rw [nout_turned] at r5
  have R5 := Lib.hid r5
  have N5 := Lib.hid (N4.out.below b5 (Nat.le_refl _))
  have X5 := Lib.hid (X4.out.below b5 (Nat.le_refl _))
  have B5 := Lib.hid (BB.out.trans (b5.mono BB.out.size))
  have hn1 : n1 < 4611686018427387904 := by have := len_nout xs; have h1 := N5.out.len; have h2 := X5.out.len; omega
  clear r5 b5 R4 X4 N4 BB hn4
  have hin := Lib.hid (fun q => ints_any a1 a5 n1 n5 c1 c5 (nout xs) (nout xs) (w5.drewN q) (N5.out.drewN q) (R5.out.drewN q) hn1)
  cases hal : alw xs
  · have hal' := Lib.hid hal
    go_wp2_with fail
    refine (hin.out 0).mono ?_; rintro e w6 ⟨rfl, q, rfl⟩
    rw [same_self]
    have wn := Lib.hid (within_nout hal'.out)
    have no := Lib.hid (nout_nout hal'.out)
    clear hin
    go_wp2_with fail
    refine (norm_any a1 n1 c1 (nout xs) _ (N5.out.drewN _) (by have := len_nout xs; have h1 := N5.out.len; have h2 := X5.out.len; omega)).mono ?_; rintro e w7 ⟨a7, n7, c7, rfl, r7, _, b7⟩
    rw [no.out] at r7
    have B5q := (B5.out.drewN q)
    have R7 := Lib.hid r7
    have N7 := Lib.hid ((N5.out.drewN q).below b7 (Nat.le_refl _))
    have X7 := Lib.hid ((X5.out.drewN q).below b7 (Nat.le_refl _))
    have B7 := Lib.hid (B5q.trans (b7.mono B5q.size))
    clear r7 b7 B5q N5 X5 B5 R5
    go_wp2_with fail
    refine (within_any a1 a n1 n c1 c (nout xs) xs w7 N7.out X7.out hn1 (by omega)).mono ?_; rintro e w8 ⟨rfl, b8⟩
    rw [wn.out.1]
    have N8 := Lib.hid (N7.out.below b8 (Nat.le_refl _))
    have X8 := Lib.hid (X7.out.below b8 (Nat.le_refl _))
    have R8 := Lib.hid (R7.out.below b8 (Nat.le_refl _))
    have B8 := Lib.hid (B7.out.trans (b8.mono B7.out.size))
    clear b8 N7 X7 R7 B7
    go_wp2_with fail
    refine (within_any a a1 n n1 c c1 xs (nout xs) w8 X8.out N8.out (by omega) hn1).mono ?_; rintro e w9 ⟨rfl, b9⟩
    rw [wn.out.2]
    have N9 := Lib.hid (N8.out.below b9 (Nat.le_refl _))
    have R9 := Lib.hid (R8.out.below b9 (Nat.le_refl _))
    have B9 := Lib.hid (B8.out.trans (b9.mono B8.out.size))
    clear b9 N8 X8 R8 B8
    go_wp2_with fail
    refine (ints_any a7 a1 n7 n1 c7 c1 (nout xs) (nout xs) w9 R9.out N9.out (by have h1 := N9.out.len; have h2 := R9.out.len; omega)).mono ?_; rintro e w10 ⟨rfl, q2, rfl⟩
    rw [same_self]
    go_wp2_with fail
    refine (awake_any _).mono ?_; rintro e w11 ⟨rfl, b11⟩
    have B11 := Lib.hid ((B9.out.drewN q2).trans (b11.mono B9.out.size))
    clear b11
    go_wp2
    go_ret
    exact ⟨rfl, B11.out⟩
  · have hz : n1 = 0 := by have h1 := N5.out.len; unfold nout at h1; rw [hal] at h1; simpa using h1.symm
    subst hz
    go_wp2_with fail
    refine (hin.out 0).mono ?_; rintro e w6 ⟨rfl, q, rfl⟩
    rw [same_self]
    clear hin
    go_wp2_with fail
    refine (awake_any _).mono ?_; rintro e w7 ⟨rfl, b7⟩
    have B7 := Lib.hid ((B5.out.drewN q).trans (b7.mono B5.out.size))
    clear b7
    go_wp2
    go_ret
    exact ⟨rfl, B7.out⟩

theorem clauseNorms_row (a0 : Option Addr) (n0 c0 : Nat) (xs0 : List Int) (x1 : Int) (W : World) (w0 : RdI W a0 n0 xs0) (b0 : n0 ≤ c0 ∧ c0 ≤ 9223372036854775807) (_w1 : okI x1) :
    Calls Try.prog 4 #[.slice a0 n0 c0, .int .i64 x1] W fun e w' => e = .returned (.bool true) ∧ Below W.heap.size W w' :=
  clauseNorms_walk a0 n0 c0 xs0 x1 W w0 b0
end Go.Proofs.Ytdmnpjlgldlodaa
