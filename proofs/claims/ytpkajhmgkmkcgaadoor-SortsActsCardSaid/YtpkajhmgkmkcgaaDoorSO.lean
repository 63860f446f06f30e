/-
  What the laid rows of this seat give: the table of ASCII blanks ('Env'), and a world that meets the condition. No condition.
-/
import Derived.Test.YtpkajhmgkmkcgaaDoorSA
import Derived.Test.YtpkajhmgkmkcgaaDoorRows
import Derived.Lib.LaidU8
import Derived.LaidOnce
import Derived.Lay
namespace Go.Proofs.YtpkajhmgkmkcgaaDoor
open Go.RowKit Go.Lib

abbrev seatLaid : List (String × DataW Unit) := [("unicode.White_Space", Rows.laid_unicode_White_Space), ("strings.asciiSpace", Rows.laid_strings_asciiSpace)]
theorem laid_tab : (Rows.laid_strings_asciiSpace : DataW Unit) = tabData .u8 asciiSpaceTab := by kernel_rfl
theorem g_ascii : Tryd.prog.globalNamed "strings.asciiSpace" = some 0 := by kernel_rfl
theorem t_ascii : ∃ t e, (Tryd.prog.globals[0]?).map (·.type) = some t ∧ Tryd.prog.underlying t = some (.array 256 e) ∧ Tryd.prog.underlying e = some (.int .u8) ∧ Tryd.prog.cellsOf e = 1 ∧ Tryd.prog.cellsOf t = 256 :=
  ⟨81, 5, by kernel_rfl, by kernel_rfl, by kernel_rfl, by kernel_rfl, by kernel_rfl⟩
theorem env_of_laid {W : World} (h : laidMetH Tryd.prog seatLaid W) : Env W := by
  rw [MakeChecks.laidMetH_plain _ _ _ (by kernel_rfl)] at h
  obtain ⟨g', t', cs, fuel, p, hg', ht', hvar, hd⟩ := laidMet.reads h (n := "strings.asciiSpace") (d := Rows.laid_strings_asciiSpace) (by simp)
  obtain ⟨t, e, h1, h2, h3, h4, h5⟩ := t_ascii
  obtain rfl := Option.some.inj (g_ascii.symm.trans hg')
  obtain rfl := Option.some.inj (h1.symm.trans ht')
  rw [laid_tab] at hd
  unfold Env Lib.TabIs
  rw [hvar, ← cells_of_tab h2 h3 h4 h5 hd]
theorem laid_shaped (os : Os) (args : Array Value) : ((World.laidAll Tryd.prog os seatLaid).forCall (fun _ _ => 0) ⟨#[], args, []⟩).Shaped Tryd.checked.prog := World.shaped_of_ZipB (by kernel_rfl) (by kernel_rfl)
theorem laid_met (os : Os) (args : Array Value) : laidMetH Tryd.prog seatLaid ((World.laidAll Tryd.prog os seatLaid).forCall (fun _ _ => 0) ⟨#[], args, []⟩).memory := by
  rw [MakeChecks.laidMetH_plain _ _ _ (by kernel_rfl)]; exact laidMet_laidAll _ (by kernel_rfl) (by kernel_rfl)
end Go.Proofs.YtpkajhmgkmkcgaaDoor
