/-
  Parts of this claim's texts, one behind the other: S V O G SA SB SC SD SE SF SG TT TU MS YA YB YC YD YE YF YG YH YI YJ YK YL YM YN YO YP YQ AA AB AC AD BA BB BC BD BE BF BG BH BI BJ BK BL BM BN BO CV YR YS YT M YU YV YW YX ZA CA ZB CB CC CD CI EA EB ZC ZD ZE EC ED EE FO EF FA EG EH EI FB FC EJ FD FS FT FE FF FG FH FI FJ FK FL FM ZF RA SP RB SH SK RC RD RE RF ZG ZH ZI ZJ ZP UA FN FQ FV CE CF CG CH CK CL CJ CM CN UN OP CO GC FP UB FR UC UD UE UF UG UH UI UJ UK UL UM UO UP FW GD ZS ZT. No condition.
-/
import Derived.Test.YtgoojkiccdjplaaGreatDoorN0
import Derived.Test.YtgoojkiccdjplaaGreatDoorN1
import Derived.Test.YtgoojkiccdjplaaGreatDoorN2
import Derived.Test.YtgoojkiccdjplaaGreatDoorN3
import Derived.Test.YtgoojkiccdjplaaGreatDoorN4
import Derived.Test.YtgoojkiccdjplaaGreatDoorN5
import Derived.Test.YtgoojkiccdjplaaGreatDoorN6
import Derived.Test.YtgoojkiccdjplaaGreatDoorN7
import Derived.Test.YtgoojkiccdjplaaGreatDoorN8
import Derived.Test.YtgoojkiccdjplaaGreatDoorN9
import Derived.Test.YtgoojkiccdjplaaGreatDoorN10
import Derived.Test.YtgoojkiccdjplaaGreatDoorN11
import Derived.Test.YtgoojkiccdjplaaGreatDoorN12
import Derived.Test.YtgoojkiccdjplaaGreatDoorN13
import Derived.Test.YtgoojkiccdjplaaGreatDoorN14
import Derived.Test.YtgoojkiccdjplaaGreatDoorN15
import Derived.Test.YtgoojkiccdjplaaGreatDoorN16
import Derived.Test.YtgoojkiccdjplaaGreatDoorN17
import Derived.Test.YtgoojkiccdjplaaGreatDoorN18
import Derived.Test.YtgoojkiccdjplaaGreatDoorN19
import Derived.Test.YtgoojkiccdjplaaGreatDoorN20
import Derived.Test.YtgoojkiccdjplaaGreatDoorN21
import Derived.Test.YtgoojkiccdjplaaGreatDoorN22
import Derived.Test.YtgoojkiccdjplaaGreatDoorN23
import Derived.Test.YtgoojkiccdjplaaGreatDoorN24
import Derived.Test.YtgoojkiccdjplaaGreatDoorN25
import Derived.Test.YtgoojkiccdjplaaGreatDoorN26
import Derived.Test.YtgoojkiccdjplaaGreatDoorN27
import Derived.Test.YtgoojkiccdjplaaGreatDoorN28
import Derived.Test.YtgoojkiccdjplaaGreatDoorN29
import Derived.Test.YtgoojkiccdjplaaGreatDoorN30
import Derived.Test.YtgoojkiccdjplaaGreatDoorN31
import Derived.Test.YtgoojkiccdjplaaGreatDoorN32
import Derived.Test.YtgoojkiccdjplaaGreatDoorN33
import Derived.Shelf.Strings.Builder1
import Derived.Shelf.Small.Utf8
import Derived.Shelf.Small.Bits
import Derived.Shelf.Small.Wraps
import Derived.Shelf.Strings.BuilderF
import Derived.Shelf.Strings.BuilderK
import Derived.Shelf.Utf8.AppendRune
import Derived.Shelf.Utf8.AppendRunePlain
import Derived.Shelf.Strconv.Bsearch
import Derived.Shelf.Strconv.IsPrint
import Derived.Shelf.Strconv.IsPrint16
import Derived.Shelf.Strconv.IsPrint32
import Derived.Shelf.Strconv.Escaped
import Derived.Shelf.Strconv.Quoted
import Derived.Shelf.Strconv.Quote
import Derived.Shelf.Strconv.Itoa0
import Derived.Shelf.Strconv.Itoa1
import Derived.Shelf.LaysM
import Derived.Shelf.Strconv.Itoa2
import Derived.Shelf.Strconv.Itoa3
import Derived.Shelf.Strings.Fields
import Derived.Shelf.Strings.SplitShaped
import Derived.Shelf.Unicode.Latin
import Derived.Shelf.Unicode.Decode
import Derived.Shelf.Bits.Mul64
import Derived.Shelf.Unicode.DecodeSlow
import Derived.Shelf.Unicode.DecodeAny
import Derived.Shelf.Unicode.Is16White
import Derived.Shelf.Unicode.IsSpaceAny
import Derived.Shelf.Unicode.Is16WhiteD
import Derived.Shelf.Unicode.IsSpaceAnyD
import Derived.Shelf.Strings.FieldsAny
import Derived.Shelf.Strings.FieldsFuncAny
import Derived.Shelf.Unicode.Is16Any
import Derived.Shelf.Unicode.Is32Any
import Derived.Shelf.Unicode.ExclAny
import Derived.Shelf.Strings.BuilderCap
import Derived.Shelf.Slices.Turned
import Derived.Shelf.Slices.Equal
import Derived.Ground.Names2Prog
import Derived.Shelf.Slices.Clone
import Derived.Shelf.Slices.SearchI
import Derived.Shelf.Slices.Empties2
import Derived.Test.YtgoojkiccdjplaaGreatDoorProg
import Derived.WalkKit
import Derived.WalkSpells
import Derived.WalkLawsBesides
import Derived.Lib.Hide
import Derived.Lib.RowBridge
import Derived.Sort.Grow
import Derived.Deep.Draws
import Derived.StillTailTactics
import Derived.Deep.RegionHeld3
import Derived.Deep.AppendLies
import Derived.ProofKit
import Derived.OpenShut
import Derived.ShutString
import Derived.ChangeOld
import Derived.Deep.Grids
import Derived.ArgAppend
import Derived.Maps.AppendAt
import Derived.Test.YtgoojkiccdjplaaGreatDoorRows
import Derived.Deep.QuietTactic
import Derived.BigQuiet
import Derived.Deep.RegionHeld
import Derived.StillTail
import Derived.Maps.OwnSet
import Derived.StringKeys
import Derived.Lib.Builder
import Derived.Lib.AppendStr
import Derived.Lib.UnsafeStr
import Derived.Laws.Externs
import Derived.Lib.PrintData
import Derived.Lib.ItoaLen
import Derived.Lib.QuoteLoop
import Derived.Lib.AppendIntMem
import Derived.Lib.BitFns
import Derived.Lib.ItoaNum
import Derived.Lib.EndianBits
import Derived.Laws.OwnMore
import Derived.Shelf.Spec.BitsCarry
import Derived.Deep.LoopGhost
import Derived.LoopN
import Derived.BigRegion
import Derived.Lib.ItoaMem
import Derived.Deep.Slices
import Derived.Lib.LaidU8
import Derived.Lib.LaidPrint
import Derived.PinnedBridge
import Derived.LaidOnce
import Derived.Lay
set_option linter.unusedVariables false
set_option linter.unusedSimpArgs false
set_option maxRecDepth 100000
set_option maxHeartbeats 16000000
namespace Go.Proofs.YtgoojkiccdjplaaGreatDoor
open Go.RowKit Go.Sort Go.Lib
section
variable {B p : Nat} {T : TermD} {w w' W : World} {q m : Nat} {v1 v2 : Value}
theorem TermX.excl (h:TermX B p T w) {X':Nat→Prop} (hb:∀k,k<w.heap.size→¬T.X k→w'.heap[k]? = w.heap[k]?) (hs:w.heap.size≤w'.heap.size) (hx:∀k,X' k→(T.X k∨w.heap.size≤k)∧k<w'.heap.size):TermX B p { T with X:=X' } w':=by
 obtain ⟨q,v1,v2,m,h⟩:=h
 obtain ⟨Bs,h7⟩:=h.srtX
 have hk:∀k,ownT p w k→w'.heap[k]? = w.heap[k]?:=fun k hk=>hb k (h.ownB hk).2 fun e=>(h.xlt k e).2.1 hk
 have hq:∀k,ownOf w q k→w'.heap[k]? = w.heap[k]?:=fun k hk=>hb k (h7.ownB hk).2 fun e=>(h.xlt k e).2.2 hk
 have hd:∀k,DatX T.X w k→w'.heap[k]? = w.heap[k]?:=fun k hk=>hb k hk.2.lt hk.1
 have h':=h.keep hk hd hq hs
 have h8:=h7.keep hq (fun k hi=>hd k hi.dat) hs
 have hn:∀k,DatX T.X w k→¬X' k:=fun k hk e=>(hx k e).1.elim hk.1 fun e=>by have:=hk.2.lt;omega
 obtain ⟨u1,u2,u3,hbk,o1,o2,o3⟩:=h7.blk
 refine⟨q,v1,v2,m,h'.bp,h'.blk,(h.nodes.keep (fun b _ hb=>hd b hb) (fun k e=>hk k (h.own.2 (.inr (.inl e)))) hs).mono fun k _ hd'=>⟨hn k hd',hd'.2.same (hd k hd')⟩,h'.nums,h'.ids,h'.bm,⟨Bs,h7.bp,fun k e=>(hx k e).2,u1,u2,u3,(hq q (.inl rfl)).trans hbk,o1.keep (fun _ _ h=>h.elim) (fun k e=>hq k ((own3 hbk).2 (.inr (.inl e)))) hs,?_,o3.keep (fun _ _ h=>h.elim) (fun k e=>hq k ((own3 hbk).2 (.inr (.inr (.inr e))))) hs⟩,fun k e=>⟨(hx k e).2,fun o=>?_,fun o=>?_⟩⟩
 ·exact(o2.keep (fun b _ hb=>hd b hb.dat) (fun k e=>hq k ((own3 hbk).2 (.inr (.inr (.inl e))))) hs).mono fun k _ hi=>⟨hn k hi.dat,(hi.same (hd k hi.dat)).2⟩
 ·have o':=(ownT.same (hk p (h.own.2 (.inl rfl)))).1 o
  rcases (hx k e).1 with e | e
  ·exact(h.xlt k e).2.1 o'
  ·have:=(h.ownB o').2;omega
 ·have o':=(ownOf.same (hq q (.inl rfl))).1 o
  rcases (hx k e).1 with e | e
  ·exact(h.xlt k e).2.2 o'
  ·have:=(h7.ownB o').2;omega
theorem TermX.stay (h:TermX B p T w) (hs:TStep p w w') {k:Nat} {t:TypeId} (hc:∃cs f,w.heap[k]? = some (.cells cs t f)) (h1:t≠130) (h2:t≠38) (h3:t≠190):w'.heap[k]? = w.heap[k]?:=by
 obtain ⟨q,v1,v2,m,h⟩:=h
 obtain ⟨cs,f,hc'⟩:=hc
 exact(hs.block k (Array.getElem?_eq_some_iff.1 hc').1 (h.notOwn ⟨cs,f,hc'⟩ h1 h2 h3)).1
end
section
variable {w0 w w' : World} {p n s : Nat} {t : TypeId} {T : TermD} {v v' : Value} {xs : List Value}
theorem OwnC.tstep (ho:OwnC w w0.heap.size t s v n xs) (h:St w0 p T w) (hX:∀k,v.ownBlock=some k→T.X k) (hs:TStep p w w'):OwnC w' w0.heap.size t s v n xs:=
 ho.same fun k hk=>(hs.block k (ho.lt k hk).2 (by obtain ⟨q,v1,v2,m,ha⟩:=h.t;exact(ha.xlt k (hX k hk)).2.1)).1
theorem St.own (h:St w0 p T w) {k:Nat} (hX:T.X k) (hs:TStep p w w'):w'.heap[k]? = w.heap[k]?:=by
 obtain ⟨q,v1,v2,m,ha⟩:=h.t
 exact(hs.block k (ha.xlt k hX).1 (ha.xlt k hX).2.1).1
theorem St.excl (h:St w0 p T w) {X':Nat→Prop} (hb:Below w0.heap.size w w') (hk:∀k,k<w.heap.size→¬T.X k→w'.heap[k]? = w.heap[k]?) (hx:∀k,X' k→(T.X k∨w.heap.size≤k)∧k<w'.heap.size):St w0 p { T with X:=X' } w':=
 ⟨h.t.excl hk hb.size hx,h.b.trans hb⟩
end
def cmpZI (x y:Int):Int:=if x<y then -1 else if x=y then 0 else 1
def cmpQ (a b:Rat):Int:=if a<b then -1 else if a=b then 0 else 1
theorem orderZ_wide (s t:Bool) (m n:Nat):orderZ (wideZ s m) (wideZ t n)=cmpZI (sgn s m) (sgn t n):=by
 unfold orderZ wideZ cmpN cmpZI sgn
 cases s <;> cases t <;> simp <;> (try split) <;> (repeat' split) <;> omega
theorem orderZ_times (a b c d:ZD):orderZ (timesZ a b) (timesZ c d)=cmpZI (zI a * zI b) (zI c * zI d):=by
 unfold timesZ
 rw [orderZ_wide,sgn_mul,sgn_mul];rfl
theorem eq_iff_mul (a b:Rat):a=b↔a.num * b.den=b.num * a.den:=by
 constructor
 ·rintro rfl;rfl
 ·intro h
  have h1:¬a<b:=by rw [Rat.lt_iff];omega
  have h2:¬b<a:=by rw [Rat.lt_iff];omega
  exact Rat.le_antisymm (Rat.not_lt.1 h2) (Rat.not_lt.1 h1)
theorem cmpR_ofQ {a b:Rat} (ha:smQ a) (hb:smQ b):cmpR (ofQ a) (ofQ b)=cmpQ a b:=by
 unfold cmpR
 rw [ofQ_valid ha,ofQ_valid hb]
 simp only [Bool.and_self,if_true]
 rw [orderZ_times,zI_num,zI_num,zI_den,zI_den]
 unfold cmpZI cmpQ
 simp only [Rat.lt_iff,eq_iff_mul a b]
theorem frat_div (n:Int) (d:Nat):frat n d=(n:Rat) / (d:Rat):=Rat.mkRat_eq_div n d
theorem nat_pos {d:Nat} (hd:0<d):(0:Rat)<(d:Rat):=by
 have h:=Rat.natCast_lt_natCast (a:=0) (b:=d)
 exact h.2 hd
theorem frat_lt {m n:Int} {d:Nat} (hd:0<d):frat m d<frat n d↔m<n:=by
 rw [frat_div,frat_div,Rat.div_lt_iff (nat_pos hd),←Rat.intCast_lt_intCast (a:=m)]
 have h:(n:Rat) / (d:Rat) * (d:Rat)=n:=by
  have:=nat_pos hd
  have h0:(d:Rat)≠0:=fun e=>by rw [e] at this;exact Rat.lt_irrefl this
  exact Rat.div_mul_cancel h0
 rw [h]
theorem cmpQ_fr {m n:Int} {d:Nat} (hd:0<d):cmpQ (frat m d) (frat n d)=cmpZI m n:=by
 unfold cmpQ cmpZI
 simp only [frat_lt hd,frat_eq hd]
theorem walkN_X (T : TermD) (X : Nat → Prop) : ∀ (f : Nat) (st : List Int × List Int) (i : Int), walkN { T with X := X } f st i = walkN T f st i
  | 0, _, _ => rfl
  | f + 1, st, i => by
    have e : walkN { T with X := X } f = walkN T f := funext fun st => funext fun i => walkN_X T X f st i
    unfold walkN
    rw [e]
    rfl
theorem walkT_X (T:TermD) (X:Nat→Prop) (ids:List Int):walkT { T with X:=X } ids=walkT T ids:=by
 have e:walkAt { T with X:=X }=walkAt T:=funext fun st=>funext fun i=>by
  unfold walkAt
  rw [walkN_X]
  rfl
 unfold walkT
 rw [e]
def rowB (v:Value) (k:Nat):Prop:=v.ownBlock=some k
section
variable {w0 w w' : World} {p : Nat} {T : TermD} {X : Nat → Prop} {v v' : Value}
theorem St.more {Y:Nat→Prop} (h:St w0 p { T with X:=X } w) (hb:Below w.heap.size w w') (hY:∀k,Y k→X k∨(w.heap.size≤k∧k<w'.heap.size)):St w0 p { T with X:=Y } w':=
 h.excl (X':=Y) (hb.mono h.b.size) (fun k hk _=>hb.block k hk) fun k hk=>by
  obtain ⟨q,v1,v2,m,ha⟩:=h.t
  rcases hY k hk with e | e
  ·exact⟨.inl e,Nat.lt_of_lt_of_le (ha.xlt k e).1 hb.size⟩
  ·exact⟨.inr e.1,e.2⟩
end
theorem mk2_grow {T:TermD} (h:TermG T) (op a b:Int):TermG (mk2 T op a b).2:=(h.make op (nm:=⟨#[]⟩) (val:=noRat) [a,b] (by decide) (by decide) (by decide)).g
def nP:NodeD:=⟨12,sp,noRat,[],0⟩
def nY:NodeD:=⟨12,sy,noRat,[],1⟩
def P1:TermD:=addN A0 nP
theorem sort_p:sortedD A0 12 sp []=(0,true):=by
 show callD A0 sp []=_
 rw [callD_data]
 decide +kernel
theorem mk_p:makeD A0 12 sp noRat []=((0,0),P1):=(make_put (by decide +kernel) (by decide +kernel) rfl sort_p).trans (put_addN rfl (by decide))
def mk3 (T:TermD) (op a b c:Int):(Int × Int) × TermD:=makeD T op ⟨#[]⟩ noRat [a,b,c]
theorem mk3_call {w0 w:World} {p:Nat} {T:TermD} {X:Nat→Prop} (hE:EnvT w0) (h:St w0 p { T with X:=X } w) (hG:TermG T) (op a b c:Int) (ho:okI op) (h11:op≠11) (ha:okI a) (hb:okI b) (hc:okI c) :
  Calls Tryz.prog 33 #[.pointer (some ⟨p,0,none⟩),.int .i64 op,.string ⟨#[]⟩,.agg #[.bool false,.slice none 0 0,.slice none 0 0],.slice (some ⟨w.heap.size,0,none⟩) 3 3] (w.alloc (.cells #[.int .i64 a,.int .i64 b,.int .i64 c] 3)) fun e w'=>
   e = .returned (.tuple #[.int .i64 (mk3 T op a b c).1.1,.int .i64 (mk3 T op a b c).1.2])∧St w0 p { (mk3 T op a b c).2 with X:=X } w'∧TStep p w w':=by
 have hl:=h.lit (.cells #[.int .i64 a,.int .i64 b,.int .i64 c] 3)
 have hm:=make_any w0.heap.size p { T with X:=X } op ⟨#[]⟩ noRat [a,b,c] none none (some ⟨w.heap.size,0,none⟩) 0 0 3 _ hl.t (hG.ok.sm.X X) (hl.env hE) (lit_args w op [a,b,c] ho (by intro x hx;simp at hx;rcases hx with rfl | rfl | rfl <;> assumption) (by show 3≤maxLen;decide) h11)
 unfold MakePost at hm
 rw [makeD_X] at hm
 refine hm.mono ?_
 rintro e w' ⟨rfl,t,s⟩
 exact⟨rfl,hl.step t s,(TStep.of_below h.t.plt ((Below.refl _ _).alloc (Nat.le_refl _) _)).trans s⟩
end Go.Proofs.YtgoojkiccdjplaaGreatDoor
namespace Go.Proofs.YtgoojkiccdjplaaGreatDoor
open Go.RowKit Go.Lib
abbrev seatLaid:List (String × DataW Unit):=[("math/bits.deBruijn32tab",Rows.laid_math_bits_deBruijn32tab),("math/bits.deBruijn64tab",Rows.laid_math_bits_deBruijn64tab),("internal/strconv.uint64pow10",Rows.laid_internal_strconv_uint64pow10),("unicode/utf8.acceptRanges",Rows.laid_unicode_utf8_acceptRanges),("unicode.White_Space",Rows.laid_unicode_White_Space),("strings.asciiSpace",Rows.laid_strings_asciiSpace),("strconv.isGraphic",Rows.laid_strconv_isGraphic),("strconv.isNotPrint16",Rows.laid_strconv_isNotPrint16),("strconv.isNotPrint32",Rows.laid_strconv_isNotPrint32),("strconv.isPrint16",Rows.laid_strconv_isPrint16),("strconv.isPrint32",Rows.laid_strconv_isPrint32),("unicode/utf8.first",Rows.laid_unicode_utf8_first)]
theorem laid_tab:(Rows.laid_strings_asciiSpace:DataW Unit)=tabData .u8 asciiSpaceTab:=by kernel_rfl
theorem laid_pow:(Rows.laid_internal_strconv_uint64pow10:DataW Unit)=tabData .u64 Lib.pow10Tab:=by kernel_rfl
theorem laid_acc:(Rows.laid_unicode_utf8_acceptRanges:DataW Unit)=acceptData:=by kernel_rfl
theorem g_ascii:Tryz.prog.globalNamed "strings.asciiSpace" = some 0:=by kernel_rfl
theorem t_ascii:∃t e,(Tryz.prog.globals[0]?).map (·.type)=some t∧Tryz.prog.underlying t=some (.array 256 e)∧Tryz.prog.underlying e=some (.int .u8)∧Tryz.prog.cellsOf e=1∧Tryz.prog.cellsOf t=256:=
 ⟨250,5,by kernel_rfl,by kernel_rfl,by kernel_rfl,by kernel_rfl,by kernel_rfl⟩
theorem t_pow:∃t e,(Tryz.prog.globals[2]?).map (·.type)=some t∧Tryz.prog.underlying t=some (.array 20 e)∧Tryz.prog.underlying e=some (.int .u64)∧Tryz.prog.cellsOf e=1∧Tryz.prog.cellsOf t=20:=
 ⟨285,177,by kernel_rfl,by kernel_rfl,by kernel_rfl,by kernel_rfl,by kernel_rfl⟩
theorem env_of_laid {W:World} (h:laidMetH Tryz.prog seatLaid W):EnvT W:=by
 rw [MakeChecks.laidMetH_plain _ _ _ (by kernel_rfl)] at h
 refine⟨?_,?_,?_,?_⟩
 ·obtain ⟨g',t',cs,fuel,p,hg',ht',hvar,hd⟩:=laidMet.reads h (n:="strings.asciiSpace") (d:=Rows.laid_strings_asciiSpace) (by simp)
  obtain ⟨t,e,h1,h2,h3,h4,h5⟩:=t_ascii
  obtain rfl:=Option.some.inj (g_ascii.symm.trans hg')
  obtain rfl:=Option.some.inj (h1.symm.trans ht')
  rw [laid_tab] at hd
  unfold Env Lib.TabIs
  rw [hvar,←cells_of_tab h2 h3 h4 h5 hd]
 ·obtain ⟨g',t',cs,fuel,p,hg',ht',hvar,hd⟩:=laidMet.reads h (n:="internal/strconv.uint64pow10") (d:=Rows.laid_internal_strconv_uint64pow10) (by simp)
  obtain ⟨t,e,h1,h2,h3,h4,h5⟩:=t_pow
  obtain rfl:=Option.some.inj (pow_glob.symm.trans hg')
  obtain rfl:=Option.some.inj (h1.symm.trans ht')
  rw [laid_pow] at hd
  unfold Lib.TabIs
  rw [hvar,←cells_of_tab h2 h3 h4 h5 hd]
 ·exact printTabs_of_reads (ρ:=Tryz.lays339_ren) { Tryz.lays339 with } ⟨by kernel_rfl,by kernel_rfl,by kernel_rfl,by kernel_rfl,by kernel_rfl,by kernel_rfl,by kernel_rfl,by kernel_rfl,by kernel_rfl,by kernel_rfl⟩
   (Pinned.isPrint16_eq ▸ laidMet.reads h (n:="strconv.isPrint16") (d:=Pinned.isPrint16) (by simp [Rows.laid_strconv_isPrint16]))
   (Pinned.isNotPrint16_eq ▸ laidMet.reads h (n:="strconv.isNotPrint16") (d:=Pinned.isNotPrint16) (by simp [Rows.laid_strconv_isNotPrint16]))
   (Pinned.isPrint32_eq ▸ laidMet.reads h (n:="strconv.isPrint32") (d:=Pinned.isPrint32) (by simp [Rows.laid_strconv_isPrint32]))
   (Pinned.isNotPrint32_eq ▸ laidMet.reads h (n:="strconv.isNotPrint32") (d:=Pinned.isNotPrint32) (by simp [Rows.laid_strconv_isNotPrint32]))
 ·exact utf8Tabs_of_reads (ρ:=Tryz.lays260_ren) { Tryz.lays260 with } ⟨by kernel_rfl,by kernel_rfl,by kernel_rfl,by kernel_rfl,by kernel_rfl,by kernel_rfl,by kernel_rfl⟩
   (Pinned.utf8First_eq ▸ laidMet.reads h (n:="unicode/utf8.first") (d:=Pinned.utf8First) (by simp [Rows.laid_unicode_utf8_first]))
   (laid_acc ▸ laidMet.reads h (n:="unicode/utf8.acceptRanges") (d:=Rows.laid_unicode_utf8_acceptRanges) (by simp))
end Go.Proofs.YtgoojkiccdjplaaGreatDoor
namespace Go.Proofs.YtgoojkiccdjplaaGreatDoor
open Go.RowKit Go.Lib
theorem laid_shaped (os:Os) (args:Array Value):((World.laidAll Tryz.prog os seatLaid).forCall (fun _ _=>0) ⟨#[],args,[]⟩).Shaped Tryz.checked.prog:=World.shaped_of_ZipB (by kernel_rfl) (by kernel_rfl)
theorem laid_met (os:Os) (args:Array Value):laidMetH Tryz.prog seatLaid ((World.laidAll Tryz.prog os seatLaid).forCall (fun _ _=>0) ⟨#[],args,[]⟩).memory:=by
 rw [MakeChecks.laidMetH_plain _ _ _ (by kernel_rfl)];exact laidMet_laidAll _ (by kernel_rfl) (by kernel_rfl)
end Go.Proofs.YtgoojkiccdjplaaGreatDoor
