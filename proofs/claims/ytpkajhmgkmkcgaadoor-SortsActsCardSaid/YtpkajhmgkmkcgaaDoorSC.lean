/-
  sorts: New, Levels, Is, Sort, FindSort, Name. Conditions: a table in memory of fewer than 2^40 entries; the library's table of spaces is as its text lays it.
-/
import Derived.Test.YtpkajhmgkmkcgaaDoorSB
namespace Go.Proofs.YtpkajhmgkmkcgaaDoor
open Go.RowKit Go.Sort Go.Lib
variable {X : Nat → Prop}

theorem info_int : (Tryd.prog.info? 3).map (fun i => (i.zero, i.size, i.bytes)) = some (some (.int .i64 0), 1, 8) := by kernel_rfl
theorem info_str : (Tryd.prog.info? 9).map (fun i => (i.zero, i.size, i.bytes)) = some (some (.string ByteArray.empty), 1, 16) := by kernel_rfl
theorem info_fun : (Tryd.prog.info? 32).map (fun i => (i.zero, i.size, i.bytes)) = some (some (.agg #[.string ByteArray.empty, .slice none 0 0, .int .i64 0]), 3, 48) := by kernel_rfl
theorem info_mark : (Tryd.prog.info? 77).map (fun i => (i.zero, i.size, i.bytes)) = some (some (.agg #[.int .i64 0, .int .i64 0]), 2, 16) := by kernel_rfl
theorem cell_p {w : World} {p : Nat} {cs : Array Value} {t : TypeId} {f : Nat × Nat} (hb : w.heap[p]? = some (.cells cs t f)) (j : Nat) : w.cell? ⟨p, j, none⟩ = cs[j]? := by simp [World.cell?, hb]
theorem frz_p {w : World} {p : Nat} {cs : Array Value} {t : TypeId} (hb : w.heap[p]? = some (.cells cs t (0, 0))) (j : Nat) : w.frozen? ⟨p, j, none⟩ = false := by simp [World.frozen?, hb]
theorem grown_alloc {w W : World} {o : Obj} {row : Option Nat} (h : (w.alloc o).grownBy W row) : w.grownBy W row :=
  ⟨h.os, h.tape, h.output, Nat.le_trans (by simp) h.size, fun k hk hne => (h.block k (by simp; omega) hne).trans (Below.heap_alloc w o k hk)⟩

/-- slices of strings -/
theorem SlR.strs {S : Nat → Prop} {w : World} {a : Option Addr} {n : Nat} {zs : List ByteArray} (h : SlR Rep.str S w a n zs) (hn : 0 < n) : ∃ b o, a = some ⟨b, o, none⟩ ∧ ∀ j, j < zs.length → w.cell? ⟨b, o + j, none⟩ = some (.string (zs.getD j ByteArray.empty)) := by
  obtain ⟨b, o, ha, _, _, hc⟩ := h.2 hn
  refine ⟨b, o, ha, fun j hj => ?_⟩
  obtain ⟨cs, h1, h2⟩ := hc j _ (List.getElem?_eq_getElem hj)
  have h3 := h2 0 (.string zs[j]) (by rw [show cs = [.string zs[j]] from h1]; rfl)
  rw [repS_k] at h3
  simpa [List.getD, hj] using h3
theorem containsS_any {S : Nat → Prop} (a : Option Addr) (n c : Nat) (zs : List ByteArray) (x : ByteArray) (w : World) (h : SlR Rep.str S w a n zs) (hn : n ≤ 9223372036854775807) :
    Calls Tryd.prog 33 #[.slice a n c, .string x] w fun e w' => e = .returned (.bool (Lib.containsS zs x)) ∧ w = w' := by
  rcases Nat.eq_zero_or_pos n with h0 | h0
  · subst h0
    have hz : zs = [] := List.eq_nil_of_length_eq_zero h.1
    subst hz
    exact (Tryd.slices_Contains_string_empty a c x w).mono fun e w' ⟨h1, h2⟩ => ⟨h1, h2.symm⟩
  · obtain ⟨b, o, rfl, hc⟩ := h.strs h0
    refine (Tryd.slices_Contains_string b o n c zs x w (Nat.le_of_eq h.1.symm) hn hc).mono fun e w' ⟨h1, h2⟩ => ⟨?_, h2.symm⟩
    rw [← h.1, List.take_length] at h1
    exact h1
theorem indexS_any {S : Nat → Prop} (a : Option Addr) (n c : Nat) (zs : List ByteArray) (x : ByteArray) (w : World) (h : SlR Rep.str S w a n zs) (hn : n ≤ 9223372036854775807) :
    Calls Tryd.prog 46 #[.slice a n c, .string x] w fun e w' => e = .returned (.int .i64 (Lib.idxOfS zs x)) ∧ w = w' := by
  rcases Nat.eq_zero_or_pos n with h0 | h0
  · subst h0
    have hz : zs = [] := List.eq_nil_of_length_eq_zero h.1
    subst hz
    exact (Tryd.slices_Index_string_empty a c x w).mono fun e w' ⟨h1, h2⟩ => ⟨h1, h2.symm⟩
  · obtain ⟨b, o, rfl, hc⟩ := h.strs h0
    refine (Tryd.slices_Index_string b o n c zs x w (Nat.le_of_eq h.1.symm) hn hc).mono fun e w' ⟨h1, h2⟩ => ⟨?_, h2.symm⟩
    rw [← h.1, List.take_length] at h1
    exact h1

set_option maxHeartbeats 400000 in
theorem tnew_any (w : World) : Calls Tryd.prog 8 #[] w fun e w' => ∃ p, e = .returned (.pointer (some ⟨p, 0, none⟩)) ∧ TabIs w.heap.size p ⟨[], [], []⟩ w' ∧ Below w.heap.size w w' := by
  go_enter Tryd.func8, Tryd.ntmps8
  go_wp2
  go_ret
  exact ⟨w.heap.size, rfl, ⟨Nat.le_refl _, fun _ h => h.elim, _, _, _, heap_alloc_new w _, OwnR.nil _ _ _ _ _, OwnR.nil _ _ _ _ _, OwnR.nil _ _ _ _ _⟩, (Below.refl _ _).alloc (Nat.le_refl _) _⟩
/-- what a table's three slices look like -/
theorem TabX.look {B p : Nat} {T : TabD} {w : World} (h : TabX X B p T w) : ∃ a1 c1 a2 c2 a3 c3, w.heap[p]? = some (.cells #[.slice a1 T.sorts.length c1, .slice a2 T.funs.length c2, .slice a3 T.marks.length c3] 67 (0, 0)) ∧
    OwnR Rep.str (fun _ => False) w B 9 (.slice a1 T.sorts.length c1) T.sorts ∧ OwnR repF (IntX X w) w B 32 (.slice a2 T.funs.length c2) T.funs ∧ OwnR repM (fun _ => False) w B 77 (.slice a3 T.marks.length c3) T.marks := by
  obtain ⟨v1, v2, v3, hb, h1, h2, h3⟩ := h.blk
  obtain ⟨a1, c1, rfl, _⟩ := h1.slice
  obtain ⟨a2, c2, rfl, _⟩ := h2.slice
  obtain ⟨a3, c3, rfl, _⟩ := h3.slice
  exact ⟨a1, c1, a2, c2, a3, c3, hb, h1, h2, h3⟩

set_option maxHeartbeats 400000 in
theorem levels_any (B p : Nat) (T : TabD) (w : World) (h : TabX X B p T w) : Calls Tryd.prog 30 #[.pointer (some ⟨p, 0, none⟩)] w fun e w' => e = .returned (.int .i64 T.marks.length) ∧ w = w' := by
  obtain ⟨a1, c1, a2, c2, a3, c3, hb, _⟩ := h.look
  have k2 : w.cell? ⟨p, 2, none⟩ = some (.slice a3 T.marks.length c3) := cell_p hb 2
  clear hb h
  go_enter Tryd.func30, Tryd.ntmps30
  go_wp2
  go_ret
  exact ⟨rfl, rfl⟩
theorem levels_nil (w : World) : Calls Tryd.prog 30 #[.pointer none] w fun e w' => e = .returned (.int .i64 0) ∧ w = w' := by
  go_enter Tryd.func30, Tryd.ntmps30
  go_wp2
  go_ret
  exact ⟨rfl, rfl⟩
def isB (n : Nat) (s : Int) : Bool := decide (0 ≤ s) && decide (s < 2 + n)
set_option maxHeartbeats 400000 in
theorem is_any (B p : Nat) (T : TabD) (s : Int) (w : World) (h : TabX X B p T w) (hl : T.sorts.length < 1099511627776) : Calls Tryd.prog 37 #[.pointer (some ⟨p, 0, none⟩), .int .i64 s] w fun e w' => e = .returned (.bool (isB T.sorts.length s)) ∧ w = w' := by
  obtain ⟨a1, c1, a2, c2, a3, c3, hb, _⟩ := h.look
  have k0 : w.cell? ⟨p, 0, none⟩ = some (.slice a1 T.sorts.length c1) := cell_p hb 0
  have hd := @Lib.hid (isB T.sorts.length s = (decide (0 ≤ s) && decide (s < 2 + (T.sorts.length : Int)))) rfl
  clear hb h
  generalize T.sorts.length = n at *
  by_cases h1 : 0 ≤ s
  · have hv := @Lib.hid (isB n s = decide (s < 2 + (n : Int))) (by rw [hd.out]; simp [h1])
    go_enter Tryd.func37, Tryd.ntmps37
    go_wp2
    go_ret
    exact ⟨ret_bool hv.out.symm, rfl⟩
  · have hv := @Lib.hid (false = isB n s) (by rw [hd.out]; simp [h1])
    have h1' : decide (0 ≤ s) = false := by simpa using h1
    go_enter Tryd.func37, Tryd.ntmps37
    go_wp2
    go_ret
    exact ⟨ret_bool hv.out, rfl⟩

def badSort (T : TabD) (s : ByteArray) : Bool := !mayB s || Lib.containsS T.sorts s
def SortPost (X : Nat → Prop) (B p : Nat) (T : TabD) (s : ByteArray) (w : World) (e : Ending) (w' : World) : Prop :=
  (if badSort T s then e = .returned (.tuple #[.int .i64 0, .int .i64 1]) ∧ TabX X B p T w' else e = .returned (.tuple #[.int .i64 ((T.sorts.length : Int) + 2), .int .i64 0]) ∧ TabX X B p { T with sorts := T.sorts ++ [s] } w') ∧ PStep p w w'
set_option maxRecDepth 100000 in
set_option maxHeartbeats 1000000 in
theorem sort_any (B p : Nat) (T : TabD) (s : ByteArray) (w : World) (h : TabX X B p T w) (hE : Env w) (hl : T.sorts.length < 1099511627776) : Calls Tryd.prog 10 #[.pointer (some ⟨p, 0, none⟩), .string s] w fun e w' => SortPost X B p T s w e w' := by
  have h' := Lib.hid h
  have hm := Lib.hid (may_any s w hE)
  have hd := @Lib.hid (badSort T s = (!mayB s || Lib.containsS T.sorts s)) rfl
  clear h hE
  cases hmay : mayB s
  case false =>
    have hv := @Lib.hid (badSort T s = true) (by rw [hd.out, hmay]; rfl)
    rw [hmay] at hm
    clear hmay
    go_enter Tryd.func10, Tryd.ntmps10
    go_wp2_with fail
    refine hm.out.mono ?_; rintro e w1 ⟨rfl, hb⟩
    have hb' := Lib.hid hb
    clear hb
    go_wp2
    go_ret2
    unfold SortPost
    rw [if_pos hv.out]
    exact ⟨⟨rfl, h'.out.all hb'.out⟩, .of_below h'.out.plt hb'.out⟩
  rw [hmay] at hm
  obtain ⟨i0, hi, hz0, hz1, hz2⟩ := info_parts info_str
  go_enter Tryd.func10, Tryd.ntmps10
  go_wp2_with fail
  refine hm.out.mono ?_; rintro e w1 ⟨rfl, hb⟩
  have hb' := Lib.hid hb
  have H1 := Lib.hid (h'.out.all hb)
  obtain ⟨a1, c1, a2, c2, a3, c3, hblk, o1, _⟩ := H1.out.look
  have k0 : w1.cell? ⟨p, 0, none⟩ = some (.slice a1 T.sorts.length c1) := cell_p hblk 0
  have f0 : w1.frozen? ⟨p, 0, none⟩ = false := frz_p hblk 0
  have hrd := o1.read (S' := fun _ => True) (fun _ _ _ => trivial) (fun _ _ => trivial)
  have hct := Lib.hid (containsS_any a1 T.sorts.length c1 T.sorts s w1 hrd (by omega))
  have hblk' := Lib.hid hblk
  obtain ⟨css, oc, ol, oe⟩ := o1
  have oc' := Lib.hid oc
  have ol' := Lib.hid ol
  have oe' := Lib.hid oe
  have hp1 := Lib.hid (show Value.ownBlock (.slice a1 T.sorts.length c1) ≠ some p from fun e => ty_ne (by decide) (oc.ty p e) ⟨_, _, hblk⟩)
  have hplt := H1.out.plt
  have hBs := Nat.le_trans H1.out.bp (Nat.le_of_lt hplt)
  clear hb hblk hrd oc ol oe
  cases hcs : Lib.containsS T.sorts s
  case true =>
    have hv := @Lib.hid (badSort T s = true) (by rw [hd.out, hmay, hcs]; rfl)
    rw [hcs] at hct
    clear hmay hcs
    go_wp2_with fail
    refine hct.out.mono ?_; rintro e w' ⟨rfl, rfl⟩
    go_wp2
    go_ret2
    unfold SortPost
    rw [if_pos hv.out]
    exact ⟨⟨rfl, H1.out⟩, .of_below h'.out.plt hb'.out⟩
  case false =>
    have hv := @Lib.hid (badSort T s = false) (by rw [hd.out, hmay, hcs]; rfl)
    rw [hcs] at hct
    clear hmay hcs
    have hnl : T.sorts.length < 1099511627776 := hl
    go_wp2_with fail
    refine hct.out.mono ?_; rintro e w' ⟨rfl, rfl⟩
    go_wp2_with (at_builtin; refine wpList_append_C rfl (.tmp 25) (.tmp 27) rfl Tryd.underlying46 hi hz0 hz1 hz2 rfl (by decide) rfl rfl (oc'.out.alloc _) (Src.one (b := w1.heap.size) (news := [.string s]) rfl ?c1) ?c2 ?c3 ?c4 ?c5 ?_)
    case c1 => intro j u hu; rw [World.cell?_alloc_new]; simpa using hu
    case c2 => intro u hu; simp at hu; subst hu; rfl
    case c3 => unfold maxLen; omega
    case c4 => omega
    case c5 => simp; omega
    intro v' w2 ho2 hg2 hl2
    have hg2' := Lib.hid (grown_alloc hg2)
    have hl2' := Lib.hid (show v'.ownBlock = Value.ownBlock (.slice a1 T.sorts.length c1) ∨ ∀ k, v'.ownBlock = some k → w1.heap.size ≤ k from hl2.imp id (fun hh k hk => Nat.le_of_succ_le (hh k hk)))
    have ho2' := Lib.hid (OwnR.push (R := Rep.str) (S := fun _ => False) (x := s) ol'.out oe'.out (show Rep.str.rd (fun _ => False) w1 s [.string s] from rfl) ho2 (fun _ _ h => h.elim) (grown_alloc hg2).size)
    obtain ⟨a', c', rfl, _⟩ := ho2.slice
    have k2 : w2.cell? ⟨p, 0, none⟩ = some (.slice a1 T.sorts.length c1) := by
      rw [World.cell?_of_block (w := w1) (a := ⟨p, 0, none⟩) (hg2'.out.block p hplt (Ne.symm hp1.out))]; exact k0
    have f2 : w2.frozen? ⟨p, 0, none⟩ = false := by
      rw [World.frozen?_of_block (w := w1) (a := ⟨p, 0, none⟩) (hg2'.out.block p hplt (Ne.symm hp1.out))]; exact f0
    clear ho2 hg2 hl2
    go_wp2
    go_ret2
    unfold SortPost
    rw [if_neg (by rw [hv.out]; decide)]
    obtain ⟨t1, s1⟩ := H1.out.setSorts hblk'.out hg2'.out hl2'.out ho2'.out
    refine ⟨⟨?_, t1⟩, (PStep.of_below h'.out.plt hb'.out).trans s1⟩
    have : (2 : Int) + ((T.sorts.length : Int) + 1) - 1 = (T.sorts.length : Int) + 2 := by omega
    simp
    omega
end Go.Proofs.YtpkajhmgkmkcgaaDoor
