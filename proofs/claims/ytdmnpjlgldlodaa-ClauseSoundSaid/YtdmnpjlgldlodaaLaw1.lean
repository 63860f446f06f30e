/-
  The walk of theodolitelaw19.ClauseSound: it returns true, whatever slices come in; it writes nothing old. Condition: the slices can be read.
-/
import Derived.Test.YtdmnpjlgldlodaaK
namespace Go.Proofs.Ytdmnpjlgldlodaa
open Go.RowKit Go.Sort Go.Lib

theorem litB_neg {x : Int} {ts : List Bool} (hx : okI x) (h0 : (x == 0) = false) (h1 : (x == negL x) = false) : litB (negL x) ts = !litB x ts := by
  have e : negL x = -x := by
    unfold negL wrap64 at *; unfold okI at hx
    simp only [beq_eq_false_iff_ne, ne_eq] at h0 h1
    omega
  have hb : okI (-x) := by
    unfold okI at *
    simp only [beq_eq_false_iff_ne, ne_eq] at h1
    rw [e] at h1
    unfold negL wrap64 at e
    omega
  rw [e]
  simp only [beq_eq_false_iff_ne, ne_eq] at h0
  have ea : absL (-x) = absL x := by
    unfold absL wrap64
    unfold okI at *
    split <;> split <;> omega
  have ep : 0 < absL x := by unfold absL wrap64; unfold okI at *; split <;> omega
  have ed : decide (0 < -x) = !decide (0 < x) := by
    by_cases h : 0 < x
    · simp [h]; omega
    · simp [h]; omega
  unfold litB
  rw [ea, ed]
  simp only [ep, decide_true, Bool.true_and]
  cases (decide (absL x ≤ ts.length) && nthB ts ((absL x).toNat - 1)) <;> cases decide (0 < x) <;> rfl

/-- the plain law -/
theorem sound {xs ys : List Int} {lit : Int} {ts : List Bool} (hl : okI lit) (he : resE xs ys lit = 0) : (!holdsB xs ts || !holdsB ys ts || holdsB (resL xs ys lit) ts) = true := by
  have hne : resErr xs ys lit = false := by
    cases h : resErr xs ys lit
    · rfl
    · unfold resE at he; rw [h] at he; cases he
  have hr : resL xs ys lit = nrm (comb xs ys lit) := by unfold resL; rw [hne]; rfl
  rw [hr]
  have hbad : resBad xs ys lit = false := by
    cases h : resBad xs ys lit
    · rfl
    · unfold resErr at hne; rw [h] at hne; cases hne
  unfold resBad at hbad
  simp only [Bool.or_eq_false_iff] at hbad
  obtain ⟨⟨⟨h0, h1⟩, _⟩, _⟩ := hbad
  cases hx : holdsB xs ts
  · rfl
  cases hy : holdsB ys ts
  · rfl
  simp only [Bool.not_true, Bool.false_or]
  unfold holdsB at *
  rw [List.any_eq_true] at *
  obtain ⟨x, hxm, hxt⟩ := hx
  obtain ⟨y, hym, hyt⟩ := hy
  by_cases e1 : x = lit
  · subst e1
    by_cases e2 : y = negL x
    · subst e2
      rw [litB_neg hl h0 h1, hxt] at hyt
      cases hyt
    · exact ⟨y, (mem_nrm _ _).2 (List.mem_append.2 (.inr (List.mem_filter.2 ⟨hym, by simpa using e2⟩))), hyt⟩
  · exact ⟨x, (mem_nrm _ _).2 (List.mem_append.2 (.inl (List.mem_filter.2 ⟨hxm, by simpa using e1⟩))), hxt⟩
theorem len_of_err {xs ys : List Int} {lit : Int} (he : (resE xs ys lit != 0) = true) : resL xs ys lit = [] := by
  unfold resE resL at *
  cases h : resErr xs ys lit
  · rw [h] at he; cases he
  · rfl

set_option maxRecDepth 100000 in
set_option maxHeartbeats 2000000 in
theorem clauseSound_walk (a b t : Option Addr) (n m k c d f : Nat) (xs ys : List Int) (ts : List Bool) (lit : Int) (w : World) (hx : RdI w a n xs) (hy : RdI w b m ys) (ht : RdB w t k ts) (hl : okI lit) (hn : n ≤ 9223372036854775807) (hm : m ≤ 9223372036854775807) (hk : k ≤ 9223372036854775807) :
    Calls Try.prog 3 #[.slice a n c, .slice b m d, .int .i64 lit, .slice t k f] w fun e w' => e = .returned (.bool true) ∧ Below w.heap.size w w' := by
  have hx' := Lib.hid hx
  have hy' := Lib.hid hy
  have ht' := Lib.hid ht
  have hl' := Lib.hid hl
  clear hx hy ht hl
  by_cases g1 : 15 < n
  · go_enter Try.func3, Try.ntmps3
    go_wp2_with fail
    refine (awake_any w).mono ?_; rintro e w1 ⟨rfl, hb⟩
    have hb' := Lib.hid hb
    clear hb
    go_wp2
    go_ret
    exact ⟨rfl, hb'.out⟩
  by_cases g2 : 15 < m
  · go_enter Try.func3, Try.ntmps3
    go_wp2_with fail
    refine (awake_any w).mono ?_; rintro e w1 ⟨rfl, hb⟩
    have hb' := Lib.hid hb
    clear hb
    go_wp2
    go_ret
    exact ⟨rfl, hb'.out⟩
  by_cases g3 : 60 < k
  · go_enter Try.func3, Try.ntmps3
    go_wp2_with fail
    refine (awake_any w).mono ?_; rintro e w1 ⟨rfl, hb⟩
    have hb' := Lib.hid hb
    clear hb
    go_wp2
    go_ret
    exact ⟨rfl, hb'.out⟩
  go_enter Try.func3, Try.ntmps3
  go_wp2_with fail
  refine (resolve_any a b n m c d xs ys lit w hx'.out hy'.out (by omega) (by omega)).mono ?_; rintro e w1 ⟨ar, mr, cr, rfl, rr, b1⟩
  have hlen := rr.len
  have Rr := Lib.hid rr
  have B1 := Lib.hid b1
  clear rr b1
  cases he : (resE xs ys lit != 0)
  · have he0 : resE xs ys lit = 0 := by simpa using he
    have snd := Lib.hid (sound (ts := ts) hl'.out he0)
    have Hx := Lib.hid (hx'.out.below B1.out (Nat.le_refl _))
    have Hy := Lib.hid (hy'.out.below B1.out (Nat.le_refl _))
    have Ht := Lib.hid (ht'.out.below B1.out (Nat.le_refl _))
    have hmr : mr ≤ 30 := by
      have hr : resL xs ys lit = nrm (comb xs ys lit) := by
        unfold resL
        cases h : resErr xs ys lit
        · rfl
        · unfold resE at he0; rw [h] at he0; cases he0
      have h1 := len_nrm (comb xs ys lit)
      have h2 := List.length_filter_le (fun y => y != lit) xs
      have h3 := List.length_filter_le (fun y => y != negL lit) ys
      have h4 : (comb xs ys lit).length = (xs.filter fun y => y != lit).length + (ys.filter fun y => y != negL lit).length := by unfold comb without; rw [List.length_append]
      have h5 := hx'.out.len
      have h6 := hy'.out.len
      rw [← hlen, hr]
      omega
    clear hlen he0 hx' hy' ht'
    have ha := Lib.hid (fun q => holds_any a t n k c f xs ts (w1.drewN q) (Hx.out.drewN q) (Ht.out.drewN q) (by omega))
    have hb := Lib.hid (fun q => holds_any b t m k d f ys ts (w1.drewN q) (Hy.out.drewN q) (Ht.out.drewN q) (by omega))
    have hr := Lib.hid (fun q => holds_any ar t mr k cr f (resL xs ys lit) ts (w1.drewN q) (Rr.out.drewN q) (Ht.out.drewN q) (by omega))
    clear Hx Hy Ht Rr
    cases hA : holdsB xs ts
    · rw [hA] at ha
      clear hA
      go_wp2_with fail
      refine (ha.out 0).mono ?_; rintro e w2 ⟨rfl, q, rfl⟩
      go_wp2_with fail
      refine (awake_any _).mono ?_; rintro e w3 ⟨rfl, h3⟩
      have hb' := Lib.hid ((B1.out.drewN q).trans (h3.mono B1.out.size))
      clear h3
      go_wp2
      go_ret
      exact ⟨rfl, hb'.out⟩
    cases hB : holdsB ys ts
    · rw [hA] at ha
      rw [hB] at hb
      clear hA hB
      go_wp2_with fail
      refine (ha.out 0).mono ?_; rintro e w2 ⟨rfl, q, rfl⟩
      go_wp2_with fail
      refine (hb.out q).mono ?_; rintro e w2 ⟨rfl, q2, rfl⟩
      go_wp2_with fail
      refine (awake_any _).mono ?_; rintro e w3 ⟨rfl, h3⟩
      have hb' := Lib.hid ((B1.out.drewN (q + q2)).trans (h3.mono B1.out.size))
      clear h3
      go_wp2
      go_ret
      exact ⟨rfl, hb'.out⟩
    have hC : holdsB (resL xs ys lit) ts = true := by have := snd.out; rw [hA, hB] at this; simpa using this
    rw [hA] at ha
    rw [hB] at hb
    rw [hC] at hr
    clear hA hB hC
    go_wp2_with fail
    refine (ha.out 0).mono ?_; rintro e w2 ⟨rfl, q, rfl⟩
    go_wp2_with fail
    refine (hb.out q).mono ?_; rintro e w2 ⟨rfl, q2, rfl⟩
    go_wp2_with fail
    refine (hr.out (q + q2)).mono ?_; rintro e w2 ⟨rfl, q3, rfl⟩
    go_wp2_with fail
    refine (awake_any _).mono ?_; rintro e w3 ⟨rfl, h3⟩
    have hb' := Lib.hid ((B1.out.drewN (q + q2 + q3)).trans (h3.mono B1.out.size))
    clear h3
    go_wp2
    go_ret
    exact ⟨rfl, hb'.out⟩
  · have hz : mr = 0 := by rw [← hlen, len_of_err he]; rfl
    subst hz
    clear hlen
    go_wp2_with fail
    refine (awake_any w1).mono ?_; rintro e w2 ⟨rfl, hb⟩
    have hb' := Lib.hid (B1.out.trans (hb.mono B1.out.size))
    clear hb
    go_wp2
    go_ret
    exact ⟨rfl, hb'.out⟩

theorem clauseSound_row (a0 : Option Addr) (n0 c0 : Nat) (xs0 : List Int) (a1 : Option Addr) (n1 c1 : Nat) (xs1 : List Int) (x2 : Int) (a3 : Option Addr) (n3 c3 : Nat) (xs3 : List Bool) (W : World)
    (w0 : RdI W a0 n0 xs0) (b0 : n0 ≤ c0 ∧ c0 ≤ 9223372036854775807) (w1 : RdI W a1 n1 xs1) (b1 : n1 ≤ c1 ∧ c1 ≤ 9223372036854775807) (w2 : okI x2) (w3 : RdB W a3 n3 xs3) (b3 : n3 ≤ c3 ∧ c3 ≤ 9223372036854775807) :
    Calls Try.prog 3 #[.slice a0 n0 c0, .slice a1 n1 c1, .int .i64 x2, .slice a3 n3 c3] W fun e w' => e = .returned (.bool true) ∧ Below W.heap.size W w' :=
  clauseSound_walk a0 a1 a3 n0 n1 n3 c0 c1 c3 xs0 xs1 xs3 x2 W w0 w1 w3 w2 (by omega) (by omega) (by omega)
end Go.Proofs.Ytdmnpjlgldlodaa
