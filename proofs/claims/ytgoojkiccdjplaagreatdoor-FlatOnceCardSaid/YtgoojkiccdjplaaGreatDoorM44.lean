/-
  Parts of this claim's texts, one behind the other: DG ZS ZT DI. No condition.
-/
import Derived.Test.YtgoojkiccdjplaaGreatDoorM31
import Derived.Test.YtgoojkiccdjplaaGreatDoorM32b
import Derived.Test.YtgoojkiccdjplaaGreatDoorM32
import Derived.Test.YtgoojkiccdjplaaGreatDoorM33
import Derived.Test.YtgoojkiccdjplaaGreatDoorM43
import Derived.Test.YtgoojkiccdjplaaGreatDoorM38
import Derived.Test.YtgoojkiccdjplaaGreatDoorM4
import Derived.Test.YtgoojkiccdjplaaGreatDoorM0
import Derived.Test.YtgoojkiccdjplaaGreatDoorRows
import Derived.Lib.LaidU8
import Derived.Lib.LaidPrint
import Derived.PinnedBridge
import Derived.LaidOnce
import Derived.Lay
import Derived.Test.YtgoojkiccdjplaaGreatDoorM30
set_option linter.unusedVariables false
set_option linter.unusedSimpArgs false
set_option maxRecDepth 100000
set_option maxHeartbeats 16000000
namespace Go.Proofs.YtgoojkiccdjplaaGreatDoor
open Go.RowKit Go.Lib
abbrev seatLaid:List (String × DataW Unit):=[("math/bits.deBruijn32tab",Rows.laid_math_bits_deBruijn32tab),("math/bits.deBruijn64tab",Rows.laid_math_bits_deBruijn64tab),("internal/strconv.uint64pow10",Rows.laid_internal_strconv_uint64pow10),("unicode/utf8.acceptRanges",Rows.laid_unicode_utf8_acceptRanges),("unicode.White_Space",Rows.laid_unicode_White_Space),("strings.asciiSpace",Rows.laid_strings_asciiSpace),("strconv.isGraphic",Rows.laid_strconv_isGraphic),("strconv.isNotPrint16",Rows.laid_strconv_isNotPrint16),("strconv.isNotPrint32",Rows.laid_strconv_isNotPrint32),("strconv.isPrint16",Rows.laid_strconv_isPrint16),("strconv.isPrint32",Rows.laid_strconv_isPrint32),("unicode/utf8.first",Rows.laid_unicode_utf8_first)]
theorem laid_tab:(Rows.laid_strings_asciiSpace:DataW Unit)=tabData .u8 asciiSpaceTab:=by kernel_rfl
theorem laid_pow:(Rows.laid_internal_strconv_uint64pow10:DataW Unit)=tabData .u64 Lib.pow10Tab:=by kernel_rfl
theorem laid_acc:(Rows.laid_unicode_utf8_acceptRanges:DataW Unit)=acceptData:=by kernel_rfl
theorem g_ascii:Tryz.prog.globalNamed "strings.asciiSpace" = some 0:=by kernel_rfl
theorem t_ascii:∃t e,(Tryz.prog.globals[0]?).map (·.type)=some t∧Tryz.prog.underlying t=some (.array 256 e)∧Tryz.prog.underlying e=some (.int .u8)∧Tryz.prog.cellsOf e=1∧Tryz.prog.cellsOf t=256:=
 ⟨250,5,by kernel_rfl,by kernel_rfl,by kernel_rfl,by kernel_rfl,by kernel_rfl⟩
theorem t_pow:∃t e,(Tryz.prog.globals[2]?).map (·.type)=some t∧Tryz.prog.underlying t=some (.array 20 e)∧Tryz.prog.underlying e=some (.int .u64)∧Tryz.prog.cellsOf e=1∧Tryz.prog.cellsOf t=20:=
 ⟨285,177,by kernel_rfl,by kernel_rfl,by kernel_rfl,by kernel_rfl,by kernel_rfl⟩
theorem env_of_laid {W:World} (h:laidMetH Tryz.prog seatLaid W):EnvT W:=by
 rw [MakeChecks.laidMetH_plain _ _ _ (by kernel_rfl)] at h
 refine⟨?_,?_,?_,?_⟩
 ·obtain ⟨g',t',cs,fuel,p,hg',ht',hvar,hd⟩:=laidMet.reads h (n:="strings.asciiSpace") (d:=Rows.laid_strings_asciiSpace) (by simp)
  obtain ⟨t,e,h1,h2,h3,h4,h5⟩:=t_ascii
  obtain rfl:=Option.some.inj (g_ascii.symm.trans hg')
  obtain rfl:=Option.some.inj (h1.symm.trans ht')
  rw [laid_tab] at hd
  unfold Env Lib.TabIs
  rw [hvar,←cells_of_tab h2 h3 h4 h5 hd]
 ·obtain ⟨g',t',cs,fuel,p,hg',ht',hvar,hd⟩:=laidMet.reads h (n:="internal/strconv.uint64pow10") (d:=Rows.laid_internal_strconv_uint64pow10) (by simp)
  obtain ⟨t,e,h1,h2,h3,h4,h5⟩:=t_pow
  obtain rfl:=Option.some.inj (pow_glob.symm.trans hg')
  obtain rfl:=Option.some.inj (h1.symm.trans ht')
  rw [laid_pow] at hd
  unfold Lib.TabIs
  rw [hvar,←cells_of_tab h2 h3 h4 h5 hd]
 ·exact printTabs_of_reads (ρ:=Tryz.lays339_ren) { Tryz.lays339 with } ⟨by kernel_rfl,by kernel_rfl,by kernel_rfl,by kernel_rfl,by kernel_rfl,by kernel_rfl,by kernel_rfl,by kernel_rfl,by kernel_rfl,by kernel_rfl⟩
   (Pinned.isPrint16_eq ▸ laidMet.reads h (n:="strconv.isPrint16") (d:=Pinned.isPrint16) (by simp [Rows.laid_strconv_isPrint16]))
   (Pinned.isNotPrint16_eq ▸ laidMet.reads h (n:="strconv.isNotPrint16") (d:=Pinned.isNotPrint16) (by simp [Rows.laid_strconv_isNotPrint16]))
   (Pinned.isPrint32_eq ▸ laidMet.reads h (n:="strconv.isPrint32") (d:=Pinned.isPrint32) (by simp [Rows.laid_strconv_isPrint32]))
   (Pinned.isNotPrint32_eq ▸ laidMet.reads h (n:="strconv.isNotPrint32") (d:=Pinned.isNotPrint32) (by simp [Rows.laid_strconv_isNotPrint32]))
 ·exact utf8Tabs_of_reads (ρ:=Tryz.lays260_ren) { Tryz.lays260 with } ⟨by kernel_rfl,by kernel_rfl,by kernel_rfl,by kernel_rfl,by kernel_rfl,by kernel_rfl,by kernel_rfl⟩
   (Pinned.utf8First_eq ▸ laidMet.reads h (n:="unicode/utf8.first") (d:=Pinned.utf8First) (by simp [Rows.laid_unicode_utf8_first]))
   (laid_acc ▸ laidMet.reads h (n:="unicode/utf8.acceptRanges") (d:=Rows.laid_unicode_utf8_acceptRanges) (by simp))
end Go.Proofs.YtgoojkiccdjplaaGreatDoor
namespace Go.Proofs.YtgoojkiccdjplaaGreatDoor
open Go.RowKit Go.Lib
theorem laid_shaped (os:Os) (args:Array Value):((World.laidAll Tryz.prog os seatLaid).forCall (fun _ _=>0) ⟨#[],args,[]⟩).Shaped Tryz.checked.prog:=World.shaped_of_ZipB (by kernel_rfl) (by kernel_rfl)
theorem laid_met (os:Os) (args:Array Value):laidMetH Tryz.prog seatLaid ((World.laidAll Tryz.prog os seatLaid).forCall (fun _ _=>0) ⟨#[],args,[]⟩).memory:=by
 rw [MakeChecks.laidMetH_plain _ _ _ (by kernel_rfl)];exact laidMet_laidAll _ (by kernel_rfl) (by kernel_rfl)
end Go.Proofs.YtgoojkiccdjplaaGreatDoor
namespace Go.Proofs.YtgoojkiccdjplaaGreatDoor
open Go.RowKit Go.Sort Go.Lib
section
variable {T : TermD}
def Kept (T T':TermD):Prop:=InvT T'∧T'.fresh=T.fresh
theorem Kept.refl (h:InvT T):Kept T T:=⟨h,rfl⟩
theorem Kept.trans {T' T'':TermD} (h:Kept T T') (k:Kept T' T''):Kept T T'':=⟨k.1,k.2.trans h.2⟩
theorem kept_make (h:InvT T) (op:Int) (args:List Int):Kept T (makeD T op ⟨#[]⟩ noRat args).2:=⟨h.make op ⟨#[]⟩ noRat args (Nat.zero_le _) (Nat.zero_le _),make_fresh T op ⟨#[]⟩ noRat args⟩
theorem kept_half (h:InvT T) (k b x:Int):Kept T (halfD T k b x).2:=by
 have h1:Kept T (mk2 T 8 k x).2:=kept_make h 8 [k,x]
 unfold halfD
 split
 ·exact h1.trans (kept_make h1.1 6 [b,(mk2 T 8 k x).1.1])
 ·exact h1
theorem kept_choiceL (k : Int) : ∀ (l : List (Int × Int)) (out : List Int) (T : TermD), InvT T → Kept T (choiceL T k l out).2
  | [], _, T, h => .refl h
  | (b, x) :: l, out, T, h => by
    have h1 := kept_half h k b x
    show Kept T (if _ then _ else _ : (List Int × Int) × TermD).2
    split
    · exact h1.trans (kept_choiceL k l _ _ h1.1)
    · exact h1
theorem kept_choice (h:InvT T) (k:Int) (args:List Int):Kept T (choiceD T k args).2:=by
 have h1:Kept T (mk1 T 3 (nth args 0)).2:=kept_make h 3 [nth args 0]
 unfold choiceD
 split
 ·exact h1.trans (kept_choiceL k _ _ _ h1.1)
 ·exact h1
def KeepsF {τ:Type} (K:Nat) (f:OtherF τ):Prop:=∀T s id n,InvT T→T.fresh+K<2000→InvT (f T s id n).2.1∧T.fresh≤(f T s id n).2.1.fresh∧(f T s id n).2.1.fresh≤T.fresh+K
theorem lift_keeps:KeepsF 1 liftF:=fun T s id n h hf=>by
 unfold liftF
 split
 ·obtain ⟨f1,f2,f3⟩:=h.fresh n.sort (by omega)
  split
  ·obtain ⟨c1,c2⟩:=kept_choice f1 (freshD T n.sort).1.1 n.args
   exact⟨c1,by rw [show _=_ from c2];exact f2,by rw [show _=_ from c2];exact f3⟩
  ·exact⟨f1,f2,f3⟩
 ·exact⟨h,Int.le_refl _,by show T.fresh≤_;omega⟩
theorem turn1_keeps {τ:Type} {K:Nat} {f:OtherF τ} (hF:KeepsF K f) (st:TS τ) (id:Int) (h:InvT st.T) (hf:st.T.fresh+K<2000) :
  InvT (turn1 f st id).2.T∧st.T.fresh≤(turn1 f st id).2.T.fresh∧(turn1 f st id).2.T.fresh≤st.T.fresh+K:=by
 have hv:=h.val id
 unfold turn1
 have h1:=hF st.T st.s id (withArgs (nodeAt st.T id) (toA st.tm (nodeAt st.T id).args)) h hf
 generalize f st.T st.s id (withArgs (nodeAt st.T id) (toA st.tm (nodeAt st.T id).args))=r at *
 generalize nodeAt st.T id=x at *
 unfold turnR
 split
 ·exact h1
 ·split
  ·exact h1
  ·split
   ·exact h1
   ·refine⟨h1.1.make _ _ _ _ hv.1 hv.2,?_⟩
    show st.T.fresh≤(makeD r.2.1 x.op x.name x.val (toA st.tm x.args)).2.fresh∧_
    rw [show(makeD r.2.1 x.op x.name x.val (toA st.tm x.args)).2.fresh=r.2.1.fresh from make_fresh _ _ _ _ _]
    exact h1.2
theorem turnL_keeps {τ : Type} {K : Nat} {f : OtherF τ} (hF : KeepsF K f) : ∀ (l : List Int) (st : TS τ), InvT st.T → st.T.fresh + K * l.length < 2000 → InvT (turnL f l st).2.T ∧ st.T.fresh ≤ (turnL f l st).2.T.fresh ∧ (turnL f l st).2.T.fresh ≤ st.T.fresh + K * l.length
  | [], st, h, _ => ⟨h, Int.le_refl _, by show st.T.fresh ≤ _; simp⟩
  | id :: l, st, h, hf => by
    have e : (K : Int) * ((id :: l).length : Nat) = K * (l.length : Nat) + K := by rw [List.length_cons]; push_cast; rw [Int.mul_add, Int.mul_one]
    have h0 : (0 : Int) ≤ K * (l.length : Nat) := Int.mul_nonneg (by omega) (by omega)
    have h1 := turn1_keeps hF st id h (by omega)
    rw [e] at hf ⊢
    have hq : turnL f (id :: l) st = if (turn1 f st id).1 = 0 then turnL f l (turn1 f st id).2 else turn1 f st id := rfl
    rw [hq]
    split
    · have h2 := turnL_keeps hF l (turn1 f st id).2 h1.1 (by omega)
      exact ⟨h2.1, by omega, by omega⟩
    · exact ⟨h1.1, h1.2.1, by omega⟩
theorem allLift_keeps (h:InvT T) (ids:List Int) (hf:T.fresh+((walkT T ids).2.length:Nat)<2000):InvT (allLift T ids).2∧T.fresh≤(allLift T ids).2.fresh∧(allLift T ids).2.fresh≤T.fresh+((walkT T ids).2.length:Nat):=by
 have h1:=turnL_keeps lift_keeps (walkT T ids).2 ⟨fun _=>none,T,[]⟩ h (by show T.fresh+_<_;omega)
 have h2:InvT (turnD liftF T [] ids).2.1∧T.fresh≤(turnD liftF T [] ids).2.1.fresh∧(turnD liftF T [] ids).2.1.fresh≤T.fresh+((walkT T ids).2.length:Nat):=by
  refine⟨h1.1,h1.2.1,?_⟩
  have:=h1.2.2
  change (turnL liftF (walkT T ids).2 ⟨fun _=>none,T,[]⟩).2.T.fresh≤T.fresh+(1:Nat) * _ at this
  show(turnL liftF (walkT T ids).2 ⟨fun _=>none,T,[]⟩).2.T.fresh≤_
  omega
 unfold allLift
 split
 ·split
  ·exact h2
  ·exact h2
 ·exact⟨h,Int.le_refl _,by show T.fresh≤_;omega⟩
end
end Go.Proofs.YtgoojkiccdjplaaGreatDoor
