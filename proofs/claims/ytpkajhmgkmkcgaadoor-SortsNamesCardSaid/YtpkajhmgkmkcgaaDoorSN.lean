/-
  theodolitelaw6.SortsNames: the walk: it returns true, whatever the name and the length. Conditions: the library's table of spaces is as its text lays it; a string of at most 2^63 - 1 bytes, an int.
-/
import Derived.Test.YtpkajhmgkmkcgaaDoorSL
namespace Go.Proofs.YtpkajhmgkmkcgaaDoor
open Go.RowKit Go.Sort Go.Lib

theorem empty_iff (s : ByteArray) : s.toList.isEmpty = decide (s.size = 0) := by
  rw [toL]
  have : s.size = s.data.toList.length := by simp
  rw [this]
  cases s.data.toList <;> simp
def nT1 (s : ByteArray) : TabD := ⟨[s], [], []⟩
def nF (s : ByteArray) (r : Int) : FunD := ⟨s, [], r⟩
def nT2 (s : ByteArray) : TabD := ⟨[s], [nF s 1], []⟩
theorem eqS_refl (s : ByteArray) : eqS s s = true := by unfold eqS; simp
theorem nbad0 {s : ByteArray} : badSort aT0 s = !mayB s := by unfold badSort; simp [aT0, Lib.containsS, Lib.idxOfS, Lib.idxFromS]
theorem nbad2 {s : ByteArray} : badSort (nT2 s) s = true := by
  unfold badSort
  rw [(Lib.containsS_iff (nT2 s).sorts s).2 (by simp [nT2])]
  simp
theorem nfun0 {s : ByteArray} {r : Int} (h : mayB s = false) : errFun aT0 (nF s r) = 1 ∧ addFun aT0 (nF s r) = aT0 := by
  have e : errFun aT0 (nF s r) = 1 := by unfold errFun mayFunB; rw [show (nF s r).name = s from rfl, h]; rfl
  exact ⟨e, by unfold addFun; rw [e]; rfl⟩
theorem nfun1 {s : ByteArray} (h : mayB s = true) : errFun (nT1 s) (nF s 1) = 0 ∧ addFun (nT1 s) (nF s 1) = nT2 s := by
  have e : errFun (nT1 s) (nF s 1) = 0 := by unfold errFun mayFunB; rw [show (nF s 1).name = s from rfl, h]; simp [nT1, findF, nF, isB]
  exact ⟨e, by unfold addFun; rw [e]; rfl⟩
theorem nfind {s : ByteArray} : findF (nT2 s) s = some (nF s 1) := by unfold findF nT2; simp [nF, eqS_refl]
theorem nfun2 {s : ByteArray} : errFun (nT2 s) (nF s 0) = 1 ∧ addFun (nT2 s) (nF s 0) = nT2 s := by
  have e : errFun (nT2 s) (nF s 0) = 1 := by unfold errFun mayFunB; rw [show (nF s 0).name = s from rfl, nfind]; simp
  exact ⟨e, by unfold addFun; rw [e]; rfl⟩
theorem nsmall1 (s : ByteArray) : Small (nT1 s) := ⟨by simp [nT1], by simp [nT1], by simp [nT1], by simp [nT1]⟩
theorem nsmall2 (s : ByteArray) : Small (nT2 s) := ⟨by simp [nT2], by simp [nT2], by simp [nT2], by simp [nT2, nF]⟩
def zlen (L : Int) (v : Value) : Nat := match v with
  | .string s => L.toNat - s.size
  | _ => 0
set_option maxRecDepth 100000 in
set_option maxHeartbeats 8000000 in
theorem sortsNames_walk (nm : ByteArray) (L : Int) (w : World) (hE : Env w) (hn : nm.size ≤ 9223372036854775807) :
    Calls Tryd.prog 3 #[.string nm, .int .i64 L] w fun e w' => e = .returned (.bool true) ∧ Below w.heap.size w w' := by
  have hE' := Lib.hid hE
  have haw := Lib.hid (awake6_any w hE)
  clear hE
  by_cases g1 : 250 < nm.size
  · go_enter Tryd.func3, Tryd.ntmps3
    go_wp2_with fail
    refine haw.out.mono ?_; rintro e w1 ⟨rfl, hb⟩
    have hb' := Lib.hid hb
    clear hb
    go_wp2
    go_ret
    exact ⟨rfl, hb'.out⟩
  by_cases g2 : L < 0
  · go_enter Tryd.func3, Tryd.ntmps3
    go_wp2_with fail
    refine haw.out.mono ?_; rintro e w1 ⟨rfl, hb⟩
    have hb' := Lib.hid hb
    clear hb
    go_wp2
    go_ret
    exact ⟨rfl, hb'.out⟩
  by_cases g3 : 250 < L
  · go_enter Tryd.func3, Tryd.ntmps3
    go_wp2_with fail
    refine haw.out.mono ?_; rintro e w1 ⟨rfl, hb⟩
    have hb' := Lib.hid hb
    clear hb
    go_wp2
    go_ret
    exact ⟨rfl, hb'.out⟩
  clear haw
  go_enter Tryd.func3, Tryd.ntmps3
  go_wp2_with fail
  refine (tnew_any w).mono ?_
  rintro e w1 ⟨p, rfl, t1, b1⟩
  have A1 := Lib.hid (show At w p aT0 w1 from ⟨t1, b1, hE'.out.all b1, hE'.out.pos⟩)
  clear t1 b1
  go_wp2
  go_loopw [6] (fun v wr => ∃ s : ByteArray, v = .string s ∧ s.size ≤ 250 ∧ wr = w1) (fun v _ => zlen L v)
  case atStart => exact ⟨nm, rfl, by omega, rfl⟩
  case round =>
    obtain ⟨s, rfl, hs, rfl⟩ := hrel
    by_cases hlt : (s.size : Int) < L
    · have hz : (s ++ (⟨#[122]⟩ : ByteArray)).size = s.size + 1 := by simp; rfl
      have hz' := Lib.hid hz
      clear hz
      go_wp2
      go_roundw
      case rel => exact ⟨_, rfl, by rw [hz'.out]; omega, by trivial⟩
      case measure => unfold zlen; simp only []; rw [hz'.out]; omega
    · have hd := @Lib.hid (mayB s = (!s.toList.isEmpty && (decide (s.size ≤ 200) && !resB s))) rfl
      have hem := Lib.hid (empty_iff s)
      cases hmy : mayB s
      · have hbad := Lib.hid (show badSort aT0 s = true by rw [nbad0, hmy]; rfl)
        have F1 := Lib.hid (nfun0 (r := 1) hmy)
        have F0 := Lib.hid (nfun0 (r := 0) hmy)
        have hcase : s.size = 0 ∨ (0 < s.size ∧ 200 < s.size) ∨ (0 < s.size ∧ s.size ≤ 200 ∧ resB s = true) := by
          have h := hd.out
          rw [hmy, hem.out] at h
          by_cases h0 : s.size = 0
          · exact .inl h0
          · by_cases h2 : s.size ≤ 200
            · refine .inr (.inr ⟨by omega, h2, ?_⟩)
              simpa [h0, h2] using h
            · exact .inr (.inl ⟨by omega, by omega⟩)
        have hres := Lib.hid (reserved_any s wr A1.out.e)
        clear hmy hd hem
        rcases hcase with h0 | ⟨h0, h2⟩ | ⟨h0, h2, h3⟩
        · have h1 : ¬ 1 ≤ s.size := by omega
          have A2 := Lib.hid A1.out
          clear A1 hres
          go_wp2_with fail
          refine (sort_any w.heap.size p aT0 s _ A2.out.t A2.out.e (by decide)).mono ?_
          rintro e w3 h3
          obtain ⟨rfl, t3, s3⟩ := h3.no hbad.out
          have A3 := Lib.hid (A2.out.step t3 s3)
          clear h3 t3 s3 A2
          go_wp2_with fail
          refine (fun_any w.heap.size p aT0 (nF s 1) none 0 _ A3.out.t small_0 A3.out.e (RdI.nil _ _) (by simp [nF])).mono ?_
          rintro e w4 ⟨rfl, t4, s4⟩
          rw [F1.out.1]
          rw [F1.out.2] at t4
          have A4 := Lib.hid (A3.out.step t4 s4)
          clear t4 s4 A3
          go_wp2_with fail
          refine (sort_any w.heap.size p aT0 s _ A4.out.t A4.out.e (by decide)).mono ?_
          rintro e w5 h5
          obtain ⟨rfl, t5, s5⟩ := h5.no hbad.out
          have A5 := Lib.hid (A4.out.step t5 s5)
          clear h5 t5 s5 A4
          go_wp2_with fail
          refine (fun_any w.heap.size p aT0 (nF s 0) none 0 _ A5.out.t small_0 A5.out.e (RdI.nil _ _) (by simp [nF])).mono ?_
          rintro e w6 ⟨rfl, t6, s6⟩
          rw [F0.out.1]
          rw [F0.out.2] at t6
          have A6 := Lib.hid (A5.out.step t6 s6)
          clear t6 s6 A5
          go_wp2_with fail
          refine (awake6_any _ A6.out.e).mono ?_; rintro e w7 ⟨rfl, b7⟩
          have B7 := Lib.hid (A6.out.b.trans (b7.mono A6.out.lt))
          clear b7
          go_wp2
          go_ret
          exact ⟨rfl, B7.out⟩
        · have h1 : 1 ≤ s.size := by omega
          have h4 : decide (s.size ≤ 200) = false := by simp; omega
          have A2 := Lib.hid A1.out
          clear A1 hres
          go_wp2_with fail
          refine (sort_any w.heap.size p aT0 s _ A2.out.t A2.out.e (by decide)).mono ?_
          rintro e w3 h3
          obtain ⟨rfl, t3, s3⟩ := h3.no hbad.out
          have A3 := Lib.hid (A2.out.step t3 s3)
          clear h3 t3 s3 A2
          go_wp2_with fail
          refine (fun_any w.heap.size p aT0 (nF s 1) none 0 _ A3.out.t small_0 A3.out.e (RdI.nil _ _) (by simp [nF])).mono ?_
          rintro e w4 ⟨rfl, t4, s4⟩
          rw [F1.out.1]
          rw [F1.out.2] at t4
          have A4 := Lib.hid (A3.out.step t4 s4)
          clear t4 s4 A3
          go_wp2_with fail
          refine (sort_any w.heap.size p aT0 s _ A4.out.t A4.out.e (by decide)).mono ?_
          rintro e w5 h5
          obtain ⟨rfl, t5, s5⟩ := h5.no hbad.out
          have A5 := Lib.hid (A4.out.step t5 s5)
          clear h5 t5 s5 A4
          go_wp2_with fail
          refine (fun_any w.heap.size p aT0 (nF s 0) none 0 _ A5.out.t small_0 A5.out.e (RdI.nil _ _) (by simp [nF])).mono ?_
          rintro e w6 ⟨rfl, t6, s6⟩
          rw [F0.out.1]
          rw [F0.out.2] at t6
          have A6 := Lib.hid (A5.out.step t6 s6)
          clear t6 s6 A5
          go_wp2_with fail
          refine (awake6_any _ A6.out.e).mono ?_; rintro e w7 ⟨rfl, b7⟩
          have B7 := Lib.hid (A6.out.b.trans (b7.mono A6.out.lt))
          clear b7
          go_wp2
          go_ret
          exact ⟨rfl, B7.out⟩
        · have h1 : 1 ≤ s.size := by omega
          rw [h3] at hres
          go_wp2_with fail
          refine hres.out.mono ?_; rintro e w2 ⟨rfl, b2⟩
          have A2 := Lib.hid (A1.out.all b2)
          clear A1 hres b2
          go_wp2_with fail
          refine (sort_any w.heap.size p aT0 s _ A2.out.t A2.out.e (by decide)).mono ?_
          rintro e w3 h3
          obtain ⟨rfl, t3, s3⟩ := h3.no hbad.out
          have A3 := Lib.hid (A2.out.step t3 s3)
          clear h3 t3 s3 A2
          go_wp2_with fail
          refine (fun_any w.heap.size p aT0 (nF s 1) none 0 _ A3.out.t small_0 A3.out.e (RdI.nil _ _) (by simp [nF])).mono ?_
          rintro e w4 ⟨rfl, t4, s4⟩
          rw [F1.out.1]
          rw [F1.out.2] at t4
          have A4 := Lib.hid (A3.out.step t4 s4)
          clear t4 s4 A3
          go_wp2_with fail
          refine (sort_any w.heap.size p aT0 s _ A4.out.t A4.out.e (by decide)).mono ?_
          rintro e w5 h5
          obtain ⟨rfl, t5, s5⟩ := h5.no hbad.out
          have A5 := Lib.hid (A4.out.step t5 s5)
          clear h5 t5 s5 A4
          go_wp2_with fail
          refine (fun_any w.heap.size p aT0 (nF s 0) none 0 _ A5.out.t small_0 A5.out.e (RdI.nil _ _) (by simp [nF])).mono ?_
          rintro e w6 ⟨rfl, t6, s6⟩
          rw [F0.out.1]
          rw [F0.out.2] at t6
          have A6 := Lib.hid (A5.out.step t6 s6)
          clear t6 s6 A5
          go_wp2_with fail
          refine (awake6_any _ A6.out.e).mono ?_; rintro e w7 ⟨rfl, b7⟩
          have B7 := Lib.hid (A6.out.b.trans (b7.mono A6.out.lt))
          clear b7
          go_wp2
          go_ret
          exact ⟨rfl, B7.out⟩
      · have hbad := Lib.hid (show badSort aT0 s = false by rw [nbad0, hmy]; rfl)
        have F1 := Lib.hid (nfun1 hmy)
        have hgood : 0 < s.size ∧ s.size ≤ 200 ∧ resB s = false := by
          have h := hd.out
          rw [hmy, hem.out] at h
          have hz : s.size ≠ 0 := fun e => by rw [e] at h; simp at h
          have h5 : s.size ≤ 200 ∧ resB s = false := by simpa [hz] using h.symm
          exact ⟨by omega, h5.1, h5.2⟩
        obtain ⟨h0, h2, h3⟩ := hgood
        have h1 : 1 ≤ s.size := by omega
        have hres := Lib.hid (reserved_any s wr A1.out.e)
        rw [h3] at hres
        clear hmy hd hem h3
        go_wp2_with fail
        refine hres.out.mono ?_; rintro e w2 ⟨rfl, b2⟩
        have A2 := Lib.hid (A1.out.all b2)
        clear A1 hres b2
        go_wp2_with fail
        refine (sort_any w.heap.size p aT0 s _ A2.out.t A2.out.e (by decide)).mono ?_
        rintro e w3 h3
        obtain ⟨rfl, t3, s3⟩ := h3.yes hbad.out
        have A3 := Lib.hid (show At w p (nT1 s) w3 from A2.out.step t3 s3)
        clear h3 t3 s3 A2
        go_wp2_with fail
        refine (fun_any w.heap.size p (nT1 s) (nF s 1) none 0 _ A3.out.t (nsmall1 s) A3.out.e (RdI.nil _ _) (by simp [nF])).mono ?_
        rintro e w4 ⟨rfl, t4, s4⟩
        rw [F1.out.1]
        rw [F1.out.2] at t4
        have A4 := Lib.hid (A3.out.step t4 s4)
        clear t4 s4 A3
        go_wp2_with fail
        refine (sort_any w.heap.size p (nT2 s) s _ A4.out.t A4.out.e (by simp [nT2])).mono ?_
        rintro e w5 h5
        obtain ⟨rfl, t5, s5⟩ := h5.no nbad2
        have A5 := Lib.hid (A4.out.step t5 s5)
        clear h5 t5 s5 A4
        go_wp2_with fail
        refine (fun_any w.heap.size p (nT2 s) (nF s 0) none 0 _ A5.out.t (nsmall2 s) A5.out.e (RdI.nil _ _) (by simp [nF])).mono ?_
        rintro e w6 ⟨rfl, t6, s6⟩
        rw [nfun2.1]
        rw [nfun2.2] at t6
        have A6 := Lib.hid (A5.out.step t6 s6)
        clear t6 s6 A5
        have hfd := Lib.hid (find_any w.heap.size p (nT2 s) s w6 A6.out.t (nsmall2 s))
        rw [nfind, show lookF (nT2 s) s = nF s 1 by unfold lookF; rw [nfind]; rfl] at hfd
        go_wp2_with fail
        refine hfd.out.mono ?_
        rintro e w7 ⟨a7, c7, rfl, _, _, _, b7⟩
        have A7 := Lib.hid (A6.out.all b7)
        have A8 := Lib.hid (A7.out.lit (.cells #[.string (nF s 1).name, .slice a7 (nF s 1).args.length c7, .int .i64 (nF s 1).res] 32))
        have hr1 : (nF s 1).res = 1 := rfl
        clear b7 hfd A6 A7
        go_wp2_with fail
        refine (awake6_any _ A8.out.e).mono ?_; rintro e w9 ⟨rfl, b9⟩
        have B9 := Lib.hid (A8.out.b.trans (b9.mono A8.out.lt))
        clear b9
        go_wp2
        go_ret
        exact ⟨rfl, B9.out⟩
end Go.Proofs.YtpkajhmgkmkcgaaDoor
