/-
  watch: slices of slices of ints that can be read ('RdR'); the contract of (truth).round. Conditions: fewer than 2^40 clauses, each of fewer than 2^40 literals.
-/
import Derived.Test.YtdmnpjlgldlodaaWA
import Derived.Deep.Matrix
namespace Go.Proofs.Ytdmnpjlgldlodaa
open Go.RowKit Go.Sort Go.Lib

def nthR (ls : List (List Int)) (j : Nat) : List Int := ls.getD j []
theorem nthR_eq {ls : List (List Int)} {j : Nat} (h : j < ls.length) : nthR ls j = ls[j] := by simp [nthR, List.getD, h]
theorem nthR_mem {ls : List (List Int)} {j : Nat} (h : j < ls.length) : nthR ls j ∈ ls := by rw [nthR_eq h]; exact List.getElem_mem h

/-- The slice with address a and length n reads as the rows ls. -/
structure RdR (w : World) (a : Option Addr) (n : Nat) (ls : List (List Int)) : Prop where
  len : ls.length = n
  cells : 0 < n → ∃ b o, a = some ⟨b, o, none⟩ ∧ b < w.heap.size ∧ ∀ j, j < n → ∃ a' c', w.cell? ⟨b, o + j, none⟩ = some (.slice a' (nthR ls j).length c') ∧ RdI w a' (nthR ls j).length (nthR ls j)
theorem RdR.at {w : World} {a : Option Addr} {n : Nat} {ls : List (List Int)} (h : RdR w a n ls) (k : Nat) (hk : k < n) : ∃ b o a' c', a = some ⟨b, o, none⟩ ∧ w.cell? ⟨b, o + k, none⟩ = some (.slice a' (nthR ls k).length c') ∧ RdI w a' (nthR ls k).length (nthR ls k) := by
  obtain ⟨b, o, ha, _, hc⟩ := h.cells (by omega)
  obtain ⟨a', c', h1, h2⟩ := hc k hk
  exact ⟨b, o, a', c', ha, h1, h2⟩
theorem block_of_cell {w : World} {b o : Nat} {v : Value} (h : w.cell? ⟨b, o, none⟩ = some v) : ∃ c e f, w.heap[b]? = some (.cells c e f) := by
  unfold World.cell? at h
  split at h
  · exact ⟨_, _, _, by assumption⟩
  · cases h
/-- Cells are as they were behind whatever touches maps alone. -/
theorem cell_touch {m : Nat} {w w' : World} (hm : ∃ es c, w.heap[m]? = some (.map es c)) (ht : Touch (fun k => k = m) w w') {b o : Nat} {v : Value} (h : w.cell? ⟨b, o, none⟩ = some v) : w'.cell? ⟨b, o, none⟩ = some v := by
  obtain ⟨c, e, f, hb⟩ := block_of_cell h
  obtain ⟨es, cl, hm⟩ := hm
  have hne : b ≠ m := by rintro rfl; rw [hb] at hm; cases hm
  have hlt := (Array.getElem?_eq_some_iff.1 hb).1
  rw [World.cell?_of_block (w := w) (a := ⟨b, o, none⟩) (ht.block b hlt hne)]
  exact h
theorem RdI.mapTouch {m : Nat} {w w' : World} {a : Option Addr} {n : Nat} {xs : List Int} (h : RdI w a n xs) (hm : ∃ es c, w.heap[m]? = some (.map es c)) (ht : Touch (fun k => k = m) w w') : RdI w' a n xs := by
  refine ⟨h.len, h.wf, fun hn => ?_⟩
  obtain ⟨b, o, ha, hlt, hc⟩ := h.cells hn
  exact ⟨b, o, ha, Nat.lt_of_lt_of_le hlt ht.size, fun j hj => cell_touch hm ht (hc j hj)⟩
theorem RdR.mapTouch {m : Nat} {w w' : World} {a : Option Addr} {n : Nat} {ls : List (List Int)} (h : RdR w a n ls) (hm : ∃ es c, w.heap[m]? = some (.map es c)) (ht : Touch (fun k => k = m) w w') : RdR w' a n ls := by
  refine ⟨h.len, fun hn => ?_⟩
  obtain ⟨b, o, ha, hlt, hc⟩ := h.cells hn
  refine ⟨b, o, ha, Nat.lt_of_lt_of_le hlt ht.size, fun j hj => ?_⟩
  obtain ⟨a', c', h1, h2⟩ := hc j hj
  exact ⟨a', c', cell_touch hm ht h1, h2.mapTouch hm ht⟩
theorem RdR.below {w w' : World} {a : Option Addr} {n B : Nat} {ls : List (List Int)} (h : RdR w a n ls) (hb : Below B w w') (hB : w.heap.size ≤ B) : RdR w' a n ls := by
  refine ⟨h.len, fun hn => ?_⟩
  obtain ⟨b, o, ha, hlt, hc⟩ := h.cells hn
  refine ⟨b, o, ha, Nat.lt_of_lt_of_le hlt hb.size, fun j hj => ?_⟩
  obtain ⟨a', c', h1, h2⟩ := hc j hj
  exact ⟨a', c', by rw [hb.cell (p := ⟨b, o + j, none⟩) (Nat.lt_of_lt_of_le hlt hB)]; exact h1, h2.below hb hB⟩
theorem TruthIs.block {m : Nat} {S : List Int} {w : World} (h : TruthIs m S w) : ∃ es c, w.heap[m]? = some (.map es c) := by
  obtain ⟨D, ⟨es, c, hb, _⟩, _⟩ := h.map
  exact ⟨es, c, hb⟩

/-! ### round -/
def unitB (S c : List Int) : Bool := (leftS S c).length == 1 && (nth (leftS S c) 0 != 0 && valS S (nth (leftS S c) 0) == 0)
def rdS : List (List Int) → List Int → Bool → List Int × Bool × Bool
  | [], S, m => (S, m, true)
  | c :: cs, S, m => if (leftS S c).length == 0 then (S, false, false) else if unitB S c then rdS cs (addS S (nth (leftS S c) 0)) true else rdS cs S m
theorem drop_nthR {ls : List (List Int)} {k : Nat} (h : k < ls.length) : ls.drop k = nthR ls k :: ls.drop (k + 1) := by rw [nthR_eq h]; exact List.drop_eq_getElem_cons h

def RoundPost (m : Nat) (S : List Int) (ls : List (List Int)) (w : World) (e : Ending) (w' : World) : Prop :=
  e = .returned (.tuple #[.bool (rdS ls S false).2.1, .bool (rdS ls S false).2.2]) ∧ TruthIs m (rdS ls S false).1 w' ∧ Touch (fun k => k = m) w w'

set_option maxRecDepth 100000 in
set_option maxHeartbeats 2000000 in
theorem round_truth (m : Nat) (S : List Int) (a : Option Addr) (n c : Nat) (ls : List (List Int)) (w : World) (h : TruthIs m S w) (hx : RdR w a n ls) (hn : n < 1099511627776) (hr : ∀ r ∈ ls, r.length < 1099511627776) (hS : S.length < 576460752303423488) :
    Calls Try.prog 45 #[.map (some m), .slice a n c] w fun e w' => RoundPost m S ls w e w' := by
  have h' := Lib.hid h
  have hx' := Lib.hid hx
  have lx := Lib.hid hx.len
  have hr' := Lib.hid hr
  clear h hx hr
  go_enter Try.func45, Try.ntmps45
  go_wp2
  go_loopw [4, 5, 11] (fun v4 v5 i wr => ∃ (k : Nat) (S' : List Int) (mr : Bool), k ≤ n ∧ i = .int .i64 k ∧ v4 = .bool mr ∧ v5 = .bool false ∧ Hid (TruthIs m S' wr) ∧ Hid (Touch (fun k => k = m) w wr) ∧ Hid (rdS ls S false = rdS (ls.drop k) S' mr) ∧ Hid (S'.length ≤ S.length + k)) (fun _ _ i _ => n - (intOf i).toNat)
  case atStart => exact ⟨0, S, false, Nat.zero_le _, rfl, rfl, rfl, h'.out, Touch.refl _ _, rfl, Nat.le_refl _⟩
  case round =>
    obtain ⟨k, S', mr, hk, rfl, rfl, rfl, hT, ht, hrd, hlen⟩ := hrel
    by_cases hlt : k < n
    · have hkx : k < ls.length := by rw [lx.out]; exact hlt
      have hxw := hx'.out.mapTouch h'.out.block ht.out
      obtain ⟨b1, o1, a1, c1, rfl, h4, hri⟩ := hxw.at k hlt
      have hrl := hr'.out _ (nthR_mem hkx)
      have hdr := hrd.out
      rw [drop_nthR hkx] at hdr
      have hcl := Lib.hid (left_any m S' a1 _ c1 (nthR ls k) wr hT.out hri hrl)
      have hwf := Lib.hid (wf_leftS (S := S') hri.wf)
      have hdef := @Lib.hid (rdS (nthR ls k :: ls.drop (k + 1)) S' mr = if (leftS S' (nthR ls k)).length == 0 then (S', false, false) else if unitB S' (nthR ls k) then rdS (ls.drop (k + 1)) (addS S' (nth (leftS S' (nthR ls k)) 0)) true else rdS (ls.drop (k + 1)) S' mr) rfl
      have hun := @Lib.hid (unitB S' (nthR ls k) = ((leftS S' (nthR ls k)).length == 1 && (nth (leftS S' (nthR ls k)) 0 != 0 && valS S' (nth (leftS S' (nthR ls k)) 0) == 0))) rfl
      have hdr' := Lib.hid hdr
      clear hxw hri hrl hdr hkx
      go_wp2_with fail
      refine hcl.out.mono ?_
      rintro e w2 ⟨a2, c2, rfl, r2, _, b2⟩
      have hT2 := Lib.hid (hT.out.below b2)
      have ht2 := Lib.hid (ht.out.trans (Touch.of_below (S := fun k => k = m) b2))
      have r2' := Lib.hid r2
      clear hcl b2 r2
      generalize leftS S' (nthR ls k) = L at *
      generalize unitB S' (nthR ls k) = U at *
      by_cases h0 : L.length = 0
      · have hz : (L.length == 0) = true := by simpa using h0
        have hfin := hdr'.out.trans hdef.out
        rw [hz] at hfin
        have hfin' := Lib.hid hfin
        rw [h0]
        clear hfin hz h0
        go_wp2
        go_ret2
        exact ⟨by rw [hfin'.out]; rfl, by rw [hfin'.out]; exact hT2.out, ht2.out⟩
      have hz : (L.length == 0) = false := by simpa using h0
      have hnext : U = false → Hid (rdS ls S false = rdS (ls.drop (k + 1)) S' mr) := fun hu => by
        have := hdr'.out.trans hdef.out
        rw [hz, hu] at this
        exact this
      have hnext' := Lib.hid hnext
      have hunit : U = true → Hid (rdS ls S false = rdS (ls.drop (k + 1)) (addS S' (nth L 0)) true) := fun hu => by
        have := hdr'.out.trans hdef.out
        rw [hz, hu] at this
        exact this
      have hunit' := Lib.hid hunit
      clear hnext hunit hz hdr' hdef
      by_cases h1 : L.length = 1
      · obtain ⟨b3, o3, rfl, h5⟩ := r2'.out.at 0 (by omega)
        rw [Nat.add_zero] at h5
        have hxo : okI (nth L 0) := r2'.out.wf _ (nth_mem (by omega))
        have hvc := Lib.hid (value_any m S' (nth L 0) w2 hT2.out hxo)
        obtain ⟨w3, hst, hT3, htn⟩ := hT2.out.store hxo (by have := hlen.out; omega)
        have hT3' := Lib.hid hT3
        have ht3 := Lib.hid (ht2.out.trans (Touch.of_turned (S := fun k => k = m) htn rfl))
        have hl3 := Lib.hid (len_addS S' (nth L 0))
        rw [h1] at hun ⊢
        clear hxo hT3 htn h1 h0
        generalize hv : valS S' (nth L 0) = V at *
        clear hv
        generalize nth L 0 = x at *
        by_cases hx0 : x = 0
        · have hu : U = false := by rw [hun.out, hx0]; rfl
          have hn := hnext'.out hu
          have hxb : (x != 0) = false := by simpa using hx0
          clear hu hunit' hnext' hun hvc hst hx0
          go_wp2
          go_roundw
          case rel => exact ⟨k + 1, S', mr, by omega, by go_num, rfl, rfl, hT2.out, ht2.out, hn, show S'.length ≤ S.length + (k + 1) by have := hlen.out; omega⟩
          case measure => simp [intOf]; omega
        · have hxb : (x != 0) = true := by simpa using hx0
          by_cases hV : V = 0
          · have hu : U = true := by rw [hun.out, hxb, hV]; rfl
            have hn := hunit'.out hu
            rw [hV] at hvc
            clear hu hunit' hnext' hun hV hx0
            go_wp2_with fail
            refine hvc.out.mono ?_; rintro e w' ⟨rfl, rfl⟩
            go_wp2
            go_roundw
            case rel => exact ⟨k + 1, addS S' x, true, by omega, by go_num, rfl, rfl, hT3'.out, ht3.out, hn, show (addS S' x).length ≤ S.length + (k + 1) by have := hlen.out; have := hl3.out; omega⟩
            case measure => simp [intOf]; omega
          · have hVb : (V == 0) = false := by simpa using hV
            have hu : U = false := by rw [hun.out, hVb]; simp
            have hn := hnext'.out hu
            clear hu hunit' hnext' hun hst hx0 hV
            go_wp2_with fail
            refine hvc.out.mono ?_; rintro e w' ⟨rfl, rfl⟩
            go_wp2
            go_roundw
            case rel => exact ⟨k + 1, S', mr, by omega, by go_num, rfl, rfl, hT2.out, ht2.out, hn, show S'.length ≤ S.length + (k + 1) by have := hlen.out; omega⟩
            case measure => simp [intOf]; omega
      · have hu : U = false := by rw [hun.out, show (L.length == 1) = false by simpa using h1]; rfl
        have hn := hnext'.out hu
        have q0 : ((L.length : Int) == 0) = false := by simp only [beq_eq_false_iff_ne, ne_eq]; omega
        have q1 : ((L.length : Int) == 1) = false := by simp only [beq_eq_false_iff_ne, ne_eq]; omega
        clear hu hunit' hnext' hun h0 h1
        generalize L.length = q at *
        go_wp2
        go_roundw
        case rel => exact ⟨k + 1, S', mr, by omega, by go_num, rfl, rfl, hT2.out, ht2.out, hn, show S'.length ≤ S.length + (k + 1) by have := hlen.out; omega⟩
        case measure => simp [intOf]; omega
    · obtain rfl : k = n := by omega
      have hd0 : ls.drop k = [] := by rw [← lx.out]; exact List.drop_length
      have hfin := hrd.out
      rw [hd0] at hfin
      have hfin' := Lib.hid hfin
      clear hfin hd0
      go_wp2
      go_ret2
      exact ⟨by rw [hfin'.out]; rfl, by rw [hfin'.out]; exact hT.out, ht.out⟩
end Go.Proofs.Ytdmnpjlgldlodaa
