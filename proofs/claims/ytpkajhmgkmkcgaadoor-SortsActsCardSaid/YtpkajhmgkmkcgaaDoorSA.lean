/-
  sorts: Reserved and may. Condition: the library's table of spaces is as its text lays it.
-/
import Derived.Test.YtpkajhmgkmkcgaaDoorRows
import Derived.Test.YtpkajhmgkmkcgaaDoorG
import Derived.Test.YtpkajhmgkmkcgaaDoorS
import Derived.Deep.QuietTactic
import Derived.BigQuiet
namespace Go.Proofs.YtpkajhmgkmkcgaaDoor
open Go.RowKit Go.Sort Go.Lib

def Env (w : World) : Prop := Lib.TabIs Tryd.prog w "strings.asciiSpace" .u8 Lib.asciiSpaceTab
theorem env_glob : Tryd.prog.globalNamed "strings.asciiSpace" = some 0 := by kernel_rfl
theorem Env.same {w w' : World} (h : Env w) (hb : w'.heap[0]? = w.heap[0]?) : Env w' := by
  unfold Env Lib.TabIs World.var? at *
  rw [env_glob] at *
  simp only [Option.bind_some] at *
  rw [hb]; exact h
theorem Env.pos {w : World} (h : Env w) : 0 < w.heap.size := by
  unfold Env Lib.TabIs World.var? at h
  rw [env_glob] at h
  simp only [Option.bind_some] at h
  rcases Nat.eq_zero_or_pos w.heap.size with h0 | h0
  · rw [Array.getElem?_eq_none (by omega)] at h; cases h
  · exact h0
theorem Env.below {B : Nat} {w w' : World} (h : Env w) (hb : Below B w w') (hB : 0 < B) : Env w' := h.same (hb.block 0 hB)
theorem Env.all {w w' : World} (h : Env w) (hb : Below w.heap.size w w') : Env w' := h.below hb h.pos
theorem ret_bool {a b : Bool} (h : a = b) : Ending.returned (.bool a) = .returned (.bool b) := by rw [h]
theorem ret_int {k : IntKind} {a b : Int} (h : a = b) : Ending.returned (.int k a) = .returned (.int k b) := by rw [h]

/-- the words that mean something -/
def resText : List UInt8 := [116, 114, 117, 101, 32, 102, 97, 108, 115, 101, 32, 110, 111, 116, 32, 97, 110, 100, 32, 111, 114, 32, 61, 62, 32, 120, 111, 114, 32, 61, 32, 100, 105, 115, 116, 105, 110, 99, 116, 32, 105, 116, 101, 32, 108, 101, 116, 32, 43, 32, 45, 32, 42, 32, 47, 32, 60, 61, 32, 60, 32, 62, 61, 32, 62, 32, 66, 111, 111, 108, 32, 82, 101, 97, 108, 32, 95, 32, 33, 32, 97, 115, 32, 101, 120, 105, 115, 116, 115, 32, 102, 111, 114, 97, 108, 108, 32, 112, 97, 114]
def resLists : List (List UInt8) := [[116, 114, 117, 101], [102, 97, 108, 115, 101], [110, 111, 116], [97, 110, 100], [111, 114], [61, 62], [120, 111, 114], [61], [100, 105, 115, 116, 105, 110, 99, 116], [105, 116, 101], [108, 101, 116], [43], [45], [42], [47], [60, 61], [60], [62, 61], [62], [66, 111, 111, 108], [82, 101, 97, 108], [95], [33], [97, 115], [101, 120, 105, 115, 116, 115], [102, 111, 114, 97, 108, 108], [112, 97, 114]]
def resWords : List ByteArray := resLists.map fun l => ⟨l.toArray⟩
theorem res_fields : Lib.fields resText = resLists := by decide +kernel
theorem res_ascii : resText.all (fun b => b.toNat < 128) = true := by decide +kernel
theorem fields_res (s : ByteArray) (w : World) (hE : Env w) (hs : s.data.toList = resText) : Calls Tryd.prog 34 #[.string s] w fun e w' => e = .returned (.slice (some ⟨w.heap.size, 0, none⟩) 27 27) ∧ w' = w.alloc (.cells (resWords.map Value.string).toArray 9) := by
  have hsz : s.size < 4294967281 := by
    have h1 : s.size = s.data.toList.length := by simp
    rw [h1, hs]; decide
  refine (Tryd.strings_Fields_laid s w hsz (fun j b hb => ?_) hE).mono fun e w' ⟨h1, h2⟩ => ?_
  · rw [hs] at hb
    have := List.all_eq_true.1 res_ascii b (List.mem_of_getElem? hb)
    simpa using this
  · rw [hs, res_fields] at h1 h2
    refine ⟨h1, h2.trans ?_⟩
    unfold resWords
    rw [List.map_map]
    rfl
def resB (s : ByteArray) : Bool := Lib.containsS resWords s
set_option maxRecDepth 100000 in
set_option maxHeartbeats 400000 in
theorem reserved_any (s : ByteArray) (w : World) (hE : Env w) : Calls Tryd.prog 9 #[.string s] w fun e w' => e = .returned (.bool (resB s)) ∧ Below w.heap.size w w' := by
  have hE' := Lib.hid hE
  have hl : resWords.length = 27 := by decide
  have hl' := Lib.hid hl
  have hd := @Lib.hid (resB s = Lib.containsS (resWords.take 27) s) (by unfold resB; rw [← hl, List.take_length])
  clear hE hl
  go_enter Tryd.func9, Tryd.ntmps9
  go_wp2_with fail
  refine (fields_res _ w hE'.out (by kernel_rfl)).mono ?_; rintro e w' ⟨rfl, rfl⟩
  go_wp2_with fail
  refine (Tryd.slices_Contains_string w.heap.size 0 27 27 resWords s _ (by rw [hl'.out]; omega) (by omega) (fun j hj => ?_)).mono ?_
  · rw [World.cell?_alloc_new]
    simp [List.getD, hj]
  rintro e w' ⟨rfl, rfl⟩
  rw [← hd.out]
  go_wp2
  go_ret
  exact ⟨rfl, (Below.refl _ _).alloc (Nat.le_refl _) _⟩
/-- may a name be declared? -/
def mayB (s : ByteArray) : Bool := !s.toList.isEmpty && (decide (s.size ≤ 200) && !resB s)
set_option maxHeartbeats 400000 in
theorem may_any (s : ByteArray) (w : World) (hE : Env w) : Calls Tryd.prog 35 #[.string s] w fun e w' => e = .returned (.bool (mayB s)) ∧ Below w.heap.size w w' := by
  have hd := @Lib.hid (mayB s = (!s.toList.isEmpty && (decide (s.size ≤ 200) && !resB s))) rfl
  have hr := Lib.hid (reserved_any s w hE)
  clear hE
  cases h0 : s.toList.isEmpty
  case true =>
    have hv := @Lib.hid (false = mayB s) (by rw [hd.out, h0]; rfl)
    have e1 : s.toList = [] := by simpa using h0
    clear h0
    go_enter Tryd.func35, Tryd.ntmps35
    go_wp2
    go_ret
    exact ⟨ret_bool hv.out, Below.refl _ _⟩
  case false =>
    by_cases h2 : s.size ≤ 200
    · have hv := @Lib.hid (mayB s = !resB s) (by rw [hd.out, h0]; simp [h2])
      have e2 : (!s.toList.isEmpty) = true := by rw [h0]; rfl
      go_enter Tryd.func35, Tryd.ntmps35
      go_wp2_with fail
      refine hr.out.mono ?_; rintro e w1 ⟨rfl, hb⟩
      have hb' := Lib.hid hb
      clear hb
      go_wp2
      go_ret
      exact ⟨ret_bool hv.out.symm, hb'.out⟩
    · have hv := @Lib.hid (false = mayB s) (by rw [hd.out, h0]; simp [h2])
      have e2 : (!s.toList.isEmpty) = true := by rw [h0]; rfl
      have h2' : decide (s.size ≤ 200) = false := by simpa using h2
      go_enter Tryd.func35, Tryd.ntmps35
      go_wp2
      go_ret
      exact ⟨ret_bool hv.out, Below.refl _ _⟩
end Go.Proofs.YtpkajhmgkmkcgaaDoor
