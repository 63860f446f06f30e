/-
  The contract of clause.Norm: over a readable slice it returns the one form, in memory of its own. Condition: fewer than 2^44 elements.
-/
import Derived.Test.YtglbdkjdglcncaaC5
namespace Go.Proofs.Ytglbdkjdglcncaa
open Go.RowKit Go.Sort Go.Lib

theorem size_q (x : Int) (w : World) : Calls Try.prog 25 #[.int .i64 x] w fun e w' => e = .returned (.int .u64 (sz x)) ∧ w' = w :=
  (size_any x w).mono fun _ _ ⟨h1, h2⟩ => ⟨h1, h2.symm⟩

theorem wf_nrm {xs : List Int} (h : WfI xs) : WfI (nrm xs) := fun x hx => h x ((mem_nrm x xs).1 hx)
theorem wf_nout {xs : List Int} (h : WfI xs) : WfI (nout xs) := by
  unfold nout
  split
  · intro x hx; cases hx
  · exact wf_nrm h
theorem len_ins (x : Int) (l : List Int) : (ins x l).length ≤ l.length + 1 := by
  induction l with
  | nil => simp [ins]
  | cons y l ih =>
    unfold ins
    split
    · simp
    · split
      · simp
      · simp; omega
theorem len_nrm (l : List Int) : (nrm l).length ≤ l.length := by
  induction l with
  | nil => simp [nrm]
  | cons x l ih => have := len_ins x (nrm l); simp only [nrm, List.length_cons]; omega
theorem len_nout (l : List Int) : (nout l).length ≤ l.length := by
  unfold nout
  split
  · simp
  · exact len_nrm l

/-- what Norm returns, as a post -/
def NormPost (xs : List Int) (w : World) (e : Ending) (w' : World) : Prop :=
  ∃ a m c, e = .returned (.tuple #[.slice a m c, .bool (alw xs)]) ∧ RdI w' a m (nout xs) ∧ (∀ y, a = some y → w.heap.size ≤ y.block) ∧ Below w.heap.size w w'

theorem norm_done {xs : List Int} {w W : World} {a : Option Addr} {m c : Nat} (hm : m = (nrm xs).length) (hr : RdI W a m (nrm xs)) (hfr : ∀ y, a = some y → w.heap.size ≤ y.block) (hb : Below w.heap.size w W) (q : Nat) (h : ∀ j, j < m → badAt (nrm xs) j = false) :
    NormPost xs w (.returned (.tuple #[.slice a m c, .bool false])) (W.drewN q) := by
  have hf : alw xs = false := bad_none (by rw [← hm]; exact h)
  refine ⟨a, m, c, by rw [hf], ?_, hfr, hb.drewN q⟩
  unfold nout
  rw [hf]
  exact hr.drewN q
theorem norm_bad {xs : List Int} {w W : World} (hb : Below w.heap.size w W) (q : Nat) {j : Nat} (hj : j < (nrm xs).length) (h : badAt (nrm xs) j = true) :
    NormPost xs w (.returned (.tuple #[.slice none 0 0, .bool true])) (W.drewN q) := by
  have hf : alw xs = true := bad_some hj h
  refine ⟨none, 0, 0, by rw [hf], ?_, by simp, hb.drewN q⟩
  unfold nout
  rw [hf]
  exact RdI.nil _ _

set_option maxHeartbeats 1000000 in
theorem norm_any (a : Option Addr) (n c : Nat) (xs : List Int) (w : World) (hx : RdI w a n xs) (hn : n < 17592186044416) :
    Calls Try.prog 16 #[.slice a n c] w fun e w' => NormPost xs w e w' := by
  have hwf := Lib.hid hx.wf
  have hl := Lib.hid hx.len
  have hx' := Lib.hid hx
  clear hx
  go_enter Try.func16, Try.ntmps16
  go_wp2_with fail
  refine (clone_any a n c xs w hx'.out hn).mono ?_; rintro e w1 ⟨a1, c1, rfl, ho1, hb1⟩
  have ho1' := Lib.hid ho1; clear ho1
  have hb1' := Lib.hid hb1; clear hb1
  go_wp2_with fail
  refine (sort_any _ a1 n c1 xs w1 ho1'.out hn).mono ?_; rintro e w2 ⟨rfl, ho2, hg2⟩
  have ho2' := Lib.hid ho2; clear ho2
  have hg2' := Lib.hid hg2; clear hg2
  go_wp2_with fail
  refine (compact_any _ a1 n c1 _ w2 ho2'.out hn).mono ?_; rintro e w3 ⟨m, hm, rfl, ho3, hg3⟩
  have hcs : Lib.compact (sortC xs) = nrm xs := compact_sorted xs
  rw [hcs] at hm ho3
  have hb2 : Below w.heap.size w w2 := hb1'.out.grown hg2'.out hb1'.out.size (fun k hk => (ho1'.out.lt k hk).1)
  have hb3 : Below w.heap.size w w3 := hb2.grown hg3 hb2.size (fun k hk => (ho2'.out.lt k hk).1)
  have hr3 := (RdI.own ho3 (wf_nrm hwf.out)).2.1
  have hfr3 := Lib.hid fun y hy => ((RdI.own ho3 (wf_nrm hwf.out)).2.2 y hy).1
  have hmn : m < 17592186044416 := by have := len_nrm xs; have := hl.out; omega
  have hb3' := Lib.hid hb3
  have hr3' := Lib.hid hr3
  have hm' := Lib.hid hm
  clear hb2 hb3 hr3 hm ho3 hg3 hcs ho1' hb1' ho2' hg2' hx' hwf hl
  go_wp2
  go_loopw [2, 3, 14] (fun v2 v3 i wr => ∃ k : Nat, k ≤ m ∧ v2 = .slice a1 m c1 ∧ v3 = .bool false ∧ i = .int .i64 k ∧ Hid (∀ j, j < k → badAt (nrm xs) j = false) ∧ ∃ q, wr = w3.drewN q) (fun _ _ i _ => m - (intOf i).toNat)
  case atStart => exact ⟨0, Nat.zero_le _, rfl, rfl, rfl, by intro j hj; omega, 0, rfl⟩
  case round =>
    obtain ⟨k, hk, rfl, rfl, rfl, heq, q, rfl⟩ := hrel
    by_cases hlt : k < m
    · obtain ⟨b1, o1, rfl, h1⟩ := hr3'.out.at k hlt
      have hd : badAt (nrm xs) k = (nth (nrm xs) k == 0 || (decide (0 < k) && sz (nth (nrm xs) k) == sz (nth (nrm xs) (k - 1)))) := rfl
      have hd' := Lib.hid hd
      clear hd
      have hstep : badAt (nrm xs) k = false → Hid (∀ j, j < k + 1 → badAt (nrm xs) j = false) := by
        intro hb j hj
        by_cases hj' : j < k
        · exact heq.out j hj'
        · obtain rfl : j = k := by omega
          exact hb
      have hstep' := Lib.hid hstep
      clear hstep
      by_cases h0 : nth (nrm xs) k = 0
      · have hv : badAt (nrm xs) k = true := by rw [hd'.out, h0]; rfl
        have hv' := Lib.hid hv
        clear hv
        rw [h0] at h1
        clear h0
        go_wp2
        go_quiet (fail)
        go_wp2
        go_ret2
        have := norm_bad (xs := xs) hb3'.out (q + nq) (j := k) (by rw [← hm'.out]; exact hlt) hv'.out
        rwa [← World.drewN_drewN] at this
      · have h0' : (nth (nrm xs) k == 0) = false := by simpa using h0
        clear h0
        by_cases hk0 : 0 < k
        · obtain ⟨_, _, e, h2⟩ := hr3'.out.at (k - 1) (by omega)
          cases e
          have hki : ((k : Int) - 1).toNat = k - 1 := by omega
          have hkd : decide (0 < k) = true := by simpa using hk0
          cases hs : sz (nth (nrm xs) k) == sz (nth (nrm xs) (k - 1))
          · have hv := Lib.hid (hstep'.out (by rw [hd'.out, h0', hkd, hs]; rfl))
            clear hkd
            generalize nth (nrm xs) k = x at *
            generalize nth (nrm xs) (k - 1) = y at *
            go_wp2
            go_quiet ((go_at_call 25; exact (size_q _ _).mono fun _ _ h => ⟨h.1, _, h.2⟩))
            go_wp2
            go_roundw
            case rel => exact ⟨k + 1, by omega, rfl, rfl, by go_num, hv.out, _, rfl⟩
            case measure => simp [intOf]; omega
          · have hv := Lib.hid (by rw [hd'.out, h0', hkd, hs]; rfl : badAt (nrm xs) k = true)
            clear hkd
            generalize hgx : nth (nrm xs) k = x at *
            generalize hgy : nth (nrm xs) (k - 1) = y at *
            clear hgx hgy
            go_wp2
            go_quiet ((go_at_call 25; exact (size_q _ _).mono fun _ _ h => ⟨h.1, _, h.2⟩))
            go_wp2
            go_ret2
            have := norm_bad (xs := xs) hb3'.out (q + nq) (j := k) (by rw [← hm'.out]; exact hlt) hv.out
            rwa [← World.drewN_drewN] at this
        · obtain rfl : k = 0 := by omega
          have hv := Lib.hid (hstep'.out (by rw [hd'.out, h0']; rfl))
          generalize nth (nrm xs) 0 = x at *
          rw [Nat.add_zero] at h1
          rw [Int.natCast_zero]
          go_wp2
          go_quiet (fail)
          go_wp2
          go_roundw
          case rel => exact ⟨1, by omega, rfl, rfl, by go_num, hv.out, _, rfl⟩
          case measure => simp [intOf]; omega
    · go_wp2
      go_ret2
      exact norm_done hm'.out hr3'.out hfr3.out hb3'.out q (fun j hj => heq.out j (by omega))
end Go.Proofs.Ytglbdkjdglcncaa
