/-
  Parts of this claim's texts, one behind the other: ZS ZT. No condition.
-/
import Derived.Test.YtgoojkiccdjplaaGreatDoorN3
import Derived.Test.YtgoojkiccdjplaaGreatDoorN0
import Derived.Test.YtgoojkiccdjplaaGreatDoorRows
import Derived.Lib.LaidU8
import Derived.Lib.LaidPrint
import Derived.PinnedBridge
import Derived.LaidOnce
import Derived.Lay
set_option linter.unusedVariables false
set_option linter.unusedSimpArgs false
set_option maxRecDepth 100000
set_option maxHeartbeats 16000000
namespace Go.Proofs.YtgoojkiccdjplaaGreatDoor
open Go.RowKit Go.Lib
abbrev jX:List (String × DataW Unit):=[("math/bits.deBruijn32tab",Rows.laid_math_bits_deBruijn32tab),("math/bits.deBruijn64tab",Rows.laid_math_bits_deBruijn64tab),("internal/strconv.uint64pow10",Rows.laid_internal_strconv_uint64pow10),("unicode/utf8.acceptRanges",Rows.laid_unicode_utf8_acceptRanges),("unicode.White_Space",Rows.laid_unicode_White_Space),("strings.asciiSpace",Rows.laid_strings_asciiSpace),("strconv.isGraphic",Rows.laid_strconv_isGraphic),("strconv.isNotPrint16",Rows.laid_strconv_isNotPrint16),("strconv.isNotPrint32",Rows.laid_strconv_isNotPrint32),("strconv.isPrint16",Rows.laid_strconv_isPrint16),("strconv.isPrint32",Rows.laid_strconv_isPrint32),("unicode/utf8.first",Rows.laid_unicode_utf8_first)]
theorem aIh:(Rows.laid_strings_asciiSpace:DataW Unit)=tabData .u8 asciiSpaceTab:=by kernel_rfl
theorem aIi:(Rows.laid_internal_strconv_uint64pow10:DataW Unit)=tabData .u64 Lib.pow10Tab:=by kernel_rfl
theorem aIj:(Rows.laid_unicode_utf8_acceptRanges:DataW Unit)=acceptData:=by kernel_rfl
theorem aJ3:Tryz.prog.globalNamed "strings.asciiSpace" = some 0:=by kernel_rfl
theorem aJ4:∃t e,(Tryz.prog.globals[0]?).map (·.type)=some t/\Tryz.prog.underlying t=some (.array 256 e)/\Tryz.prog.underlying e=some (.int .u8)/\Tryz.prog.cellsOf e=1/\Tryz.prog.cellsOf t=256:=
 ⟨250,5,by kernel_rfl,by kernel_rfl,by kernel_rfl,by kernel_rfl,by kernel_rfl⟩
theorem aM0:∃t e,(Tryz.prog.globals[2]?).map (·.type)=some t/\Tryz.prog.underlying t=some (.array 20 e)/\Tryz.prog.underlying e=some (.int .u64)/\Tryz.prog.cellsOf e=1/\Tryz.prog.cellsOf t=20:=
 ⟨285,177,by kernel_rfl,by kernel_rfl,by kernel_rfl,by kernel_rfl,by kernel_rfl⟩
theorem aBd {W:World} (h:laidMetH Tryz.prog jX W):jQ W:=by
 rw [MakeChecks.laidMetH_plain _ _ _ (by kernel_rfl)] at h;refine⟨?_,?_,?_,?_⟩
 ·obtain ⟨g',t',cs,fuel,p,hg',ht',hvar,hd⟩:=laidMet.reads h (n:="strings.asciiSpace") (d:=Rows.laid_strings_asciiSpace) (by simp)
  obtain ⟨t,e,h1,h2,h3,h4,h5⟩:=aJ4;obtain rfl:=Option.some.inj (aJ3.symm.trans hg');obtain rfl:=Option.some.inj (h1.symm.trans ht');rw [aIh] at hd;unfold Env Lib.TabIs;rw [hvar,<-cells_of_tab h2 h3 h4 h5 hd]
 ·obtain ⟨g',t',cs,fuel,p,hg',ht',hvar,hd⟩:=laidMet.reads h (n:="internal/strconv.uint64pow10") (d:=Rows.laid_internal_strconv_uint64pow10) (by simp)
  obtain ⟨t,e,h1,h2,h3,h4,h5⟩:=aM0;obtain rfl:=Option.some.inj (zA.symm.trans hg');obtain rfl:=Option.some.inj (h1.symm.trans ht');rw [aIi] at hd;unfold Lib.TabIs;rw [hvar,<-cells_of_tab h2 h3 h4 h5 hd]
 ·exact printTabs_of_reads (ρ:=Tryz.lays339_ren) { Tryz.lays339 with } ⟨by kernel_rfl,by kernel_rfl,by kernel_rfl,by kernel_rfl,by kernel_rfl,by kernel_rfl,by kernel_rfl,by kernel_rfl,by kernel_rfl,by kernel_rfl⟩
   (Pinned.isPrint16_eq ▸ laidMet.reads h (n:="strconv.isPrint16") (d:=Pinned.isPrint16) (by simp [Rows.laid_strconv_isPrint16]))
   (Pinned.isNotPrint16_eq ▸ laidMet.reads h (n:="strconv.isNotPrint16") (d:=Pinned.isNotPrint16) (by simp [Rows.laid_strconv_isNotPrint16]))
   (Pinned.isPrint32_eq ▸ laidMet.reads h (n:="strconv.isPrint32") (d:=Pinned.isPrint32) (by simp [Rows.laid_strconv_isPrint32]))
   (Pinned.isNotPrint32_eq ▸ laidMet.reads h (n:="strconv.isNotPrint32") (d:=Pinned.isNotPrint32) (by simp [Rows.laid_strconv_isNotPrint32]))
 ·exact utf8Tabs_of_reads (ρ:=Tryz.lays260_ren) { Tryz.lays260 with } ⟨by kernel_rfl,by kernel_rfl,by kernel_rfl,by kernel_rfl,by kernel_rfl,by kernel_rfl,by kernel_rfl⟩
   (Pinned.utf8First_eq ▸ laidMet.reads h (n:="unicode/utf8.first") (d:=Pinned.utf8First) (by simp [Rows.laid_unicode_utf8_first]))
   (aIj ▸ laidMet.reads h (n:="unicode/utf8.acceptRanges") (d:=Rows.laid_unicode_utf8_acceptRanges) (by simp))
end Go.Proofs.YtgoojkiccdjplaaGreatDoor
namespace Go.Proofs.YtgoojkiccdjplaaGreatDoor
open Go.RowKit Go.Lib
theorem aBe (os:Os) (args:Array Value):((World.laidAll Tryz.prog os jX).forCall (fun _ _=>0) ⟨#[],args,[]⟩).Shaped Tryz.checked.prog:=World.shaped_of_ZipB (by kernel_rfl) (by kernel_rfl)
theorem aIk (os:Os) (args:Array Value):laidMetH Tryz.prog jX ((World.laidAll Tryz.prog os jX).forCall (fun _ _=>0) ⟨#[],args,[]⟩).memory:=by
 rw [MakeChecks.laidMetH_plain _ _ _ (by kernel_rfl)];exact laidMet_laidAll _ (by kernel_rfl) (by kernel_rfl)
end Go.Proofs.YtgoojkiccdjplaaGreatDoor
