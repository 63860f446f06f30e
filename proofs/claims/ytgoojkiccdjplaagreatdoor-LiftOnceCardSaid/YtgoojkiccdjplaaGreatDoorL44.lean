/-
  Parts of this claim's texts, one behind the other: DG ZS ZT DI. No condition.
-/
import Derived.Test.YtgoojkiccdjplaaGreatDoorL31
import Derived.Test.YtgoojkiccdjplaaGreatDoorL32b
import Derived.Test.YtgoojkiccdjplaaGreatDoorL32
import Derived.Test.YtgoojkiccdjplaaGreatDoorL33
import Derived.Test.YtgoojkiccdjplaaGreatDoorL43
import Derived.Test.YtgoojkiccdjplaaGreatDoorL38
import Derived.Test.YtgoojkiccdjplaaGreatDoorL4
import Derived.Test.YtgoojkiccdjplaaGreatDoorL0
import Derived.Test.YtgoojkiccdjplaaGreatDoorRows
import Derived.Lib.LaidU8
import Derived.Lib.LaidPrint
import Derived.PinnedBridge
import Derived.LaidOnce
import Derived.Lay
import Derived.Test.YtgoojkiccdjplaaGreatDoorL30
set_option linter.unusedVariables false
set_option linter.unusedSimpArgs false
set_option maxRecDepth 100000
set_option maxHeartbeats 16000000
namespace Go.Proofs.YtgoojkiccdjplaaGreatDoor
open Go.RowKit Go.Sort Go.Lib
theorem liftOnce_walk (a:Option Addr) (n c:Nat) (xs:List StepD) (ap:Option Addr) (np cp:Nat) (picks:List Int) (w:World) (hE:EnvT w) (hx:SlR repStep (fun _=>True) w a n xs) (hn:n≤c∧c≤9223372036854775807) (hp:RdI w ap np picks) (hnp:np≤cp∧cp≤9223372036854775807) :
  Calls Tryz.prog 3 #[.slice a n c,.slice ap np cp] w fun e w'=>e = .returned (.bool true)∧Below w.heap.size w w':=by
 have hfew:=hid (few16_any a n c xs w hx (by omega))
 have hE':=hid hE
 have hx':=hid hx
 have hp':=hid hp
 clear hE hx hp
 go_enter Tryz.func3,Tryz.ntmps3
 go_wp2_with fail
 refine hfew.out.mono ?_;rintro e w1 ⟨t,rfl,hsm,b1⟩
 have B1:=hid b1
 have E1:=hid (hE'.out.all b1)
 have X1:=hid (hx'.out.below b1 (Nat.le_refl _))
 have P1:=hid (hp'.out.below b1 (Nat.le_refl _))
 have hsm':=hid hsm
 clear b1 hsm hfew hE' hx' hp'
 have haw:=hid (fun(W:World) (hb:Below w1.heap.size w1 W)=>awake16_any W (E1.out.all hb))
 cases t
 case false=>
  have haw1:=hid (haw.out w1 (Below.refl _ _))
  go_wp2_with fail
  refine haw1.out.mono ?_;rintro e w2 ⟨rfl,b2⟩
  have B2:=hid (B1.out.trans (b2.mono B1.out.size))
  clear b2
  go_wp2
  go_ret
  exact⟨rfl,B2.out⟩
 case true=>
  by_cases h8:np≤8
  case neg=>
   have h8i:(8:Int)<np:=by omega
   have haw1:=hid (haw.out w1 (Below.refl _ _))
   go_wp2_with fail
   refine haw1.out.mono ?_;rintro e w2 ⟨rfl,b2⟩
   have B2:=hid (B1.out.trans (b2.mono B1.out.size))
   clear b2
   go_wp2
   go_ret
   exact⟨rfl,B2.out⟩
  case pos=>
  have h8i:¬(8:Int)<np:=by omega
  have h8d:decide ((8:Int)<np)=false:=decide_eq_false h8i
  have hs60:=(hsm'.out rfl).1
  have hss:=hid (hsm'.out rfl).2
  have hnl:n≤60:=by have:=X1.out.1;omega
  have htb:=hid (tables16b_any w1 E1.out.env)
  clear hsm' hs60
  go_wp2_with fail
  refine htb.out.mono ?_;rintro e w2 ⟨p,r,q,rfl,h2⟩
  have hmd:=hid (made16_any E1.out p r q (T7 10) (emptyT (T7 10)) xs a n c w2 h2 MdI.start (X1.out.mono fun b hb _=>hb) hss.out hnl)
  clear h2 htb
  go_wp2_with fail
  refine hmd.out.mono ?_;rintro e w3 ⟨T,ids,v,rfl,hT,hM,hil,hok,hO⟩
  have T3:=hid hT
  have G3:=hid (show TermG { T with X:=rowB v } from⟨hM.g.ok.X _,hM.g.ng⟩)
  have hN:({ T with X:=rowB v }:TermD).nodes.length≤60:=Nat.le_trans hM.len hnl
  have V3:=hid (hM.ti.X (rowB v))
  have S3:=hid (hM.si.X (rowB v))
  have F3:=hid (show({ T with X:=rowB v }:TermD).fresh=0 from hM.fr)
  obtain ⟨av,cv,rfl,_,_⟩:=hO.slice
  have R3:=hid (OwnC.rdX hO (fun x hx=>by have:=hok x hx;have:=hM.g.ok.sm.le;unfold okI;omega))
  have K3:=hid (show ∀i∈ids,-1≤i∧i<(({ T with X:=rowB (.slice av ids.length cv) }:TermD).nodes.length:Int) from hok)
  have P3:=hid (P1.out.below hT.st.b (Nat.le_refl _))
  have hil':ids.length≤60:=by omega
  clear hT hM hil hok hO hmd hss X1 P1
  generalize ({ T with X:=rowB (.slice av ids.length cv) }:TermD)=T' at *
  clear T
  obtain ⟨T,rfl⟩:∃T,T=T':=⟨_,rfl⟩
  have hsl:=hid (small_any r T w3 T3.out.m.rd G3.out.ok.ord (by omega) (fun x hx=>(G3.out.ng x hx).args))
  generalize ((szs T.nodes).all fun x=>decide (x≤1000))=sm at *
  go_wp2_with fail
  refine hsl.out.mono ?_;rintro e w4 ⟨rfl,b4⟩
  have C4:=hid b4
  clear b4 hsl
  cases sm
  case false=>
   have haw1:=hid (haw.out w4 (T3.out.st.b.trans (C4.out.mono T3.out.st.b.size)))
   go_wp2_with fail
   refine haw1.out.mono ?_;rintro e w5 ⟨rfl,b5⟩
   have B5:=hid (B1.out.trans ((T3.out.st.b.trans ((C4.out.trans (b5.mono C4.out.size)).mono T3.out.st.b.size)).mono B1.out.size))
   clear b5
   go_wp2
   go_ret
   exact⟨rfl,B5.out⟩
  case true=>
  have hbl:=hid (bools16_any r T ids picks av ap ids.length np cv cp w4 (T3.out.m.rd.all C4.out) (R3.out.below C4.out (Nat.le_refl _)) hil' K3.out (P3.out.below C4.out (Nat.le_refl _)) h8)
  go_wp2_with fail
  refine hbl.out.mono ?_;rintro e w5 ⟨L,al,cl,rfl,hO5,b5,hL8,hL⟩
  have C5:=hid (C4.out.trans (b5.mono C4.out.size))
  have O5:=hid hO5
  have L5:=hid hL
  have hokL:∀x∈L,okI x:=fun x hx=>by have:=hasT_iff.1 (hL x hx).1;unfold okI;omega
  have RL:=hid (OwnC.rdX hO5 hokL)
  have hwt:=hid (within16_any w1.heap.size p T al L.length cl L w5 (T3.out.all C5.out).st.t G3.out RL.out (by omega))
  clear hO5 b5 hL hbl R3 K3 P3 hokL C4
  go_wp2_with fail
  refine hwt.out.mono ?_;rintro e w6 ⟨L2,a2,c2,rfl,hO6,b6,hW⟩
  have C6:=hid (C5.out.trans (b6.mono C5.out.size))
  have O6:=hid (O5.out.same fun k hk=>b6.block k (O5.out.lt k hk).2)
  have W6:=hid hW
  have R6:=hid (OwnC.rdX hO6 (fun x hx=>by have:=hasT_iff.1 (hW.rg x hx);unfold okI;omega))
  have hL2n:L2.length≤60:=Nat.le_trans (pigeon _ _ hW.nd fun x hx=>hasT_iff.1 (hW.rg x hx)) hN
  clear hO6 b6 hW hwt O5 C5
  go_wp2
  go_loopw [11,12,13,14] (fun v11 v12 _ _ wr=>∃k:Nat,k≤L2.length∧v12 = .int .i64 k∧v11 = .int .i64 (((L2.take k).filter fun x=>nbN (nodeAt T x)).length:Nat)∧Hid (Below w6.heap.size w6 wr)) (fun _ v12 _ _ _=>L2.length - (intOf v12).toNat)
  case atStart=>exact⟨0,Nat.zero_le _,rfl,rfl,Below.refl _ _⟩
  case round=>
   obtain ⟨k,hk,rfl,rfl,hB⟩:=hrel
   by_cases hkL:k<L2.length
   case pos=>
    have hkLi:(k:Int)<L2.length:=by omega
    have hin:=W6.out.rg _ (nth_mem hkL)
    obtain ⟨g0,g1⟩:=hasT_iff.1 hin
    obtain ⟨b9,o9,rfl,k9⟩:=(R6.out.below hB.out (Nat.le_refl _)).at k hkL
    have hsucc:=@hid (((L2.take (k+1)).filter fun x=>nbN (nodeAt T x)).length=((L2.take k).filter fun x=>nbN (nodeAt T x)).length+if nbN (nodeAt T (nth L2 k))=true then 1 else 0) (take_filter (P:=fun x=>nbN (nodeAt T x)) hkL)
    obtain ⟨j,hj⟩:=Int.eq_ofNat_of_zero_le g0
    rw [hj] at k9 g1 hsucc
    have hjN:j<T.nodes.length:=by omega
    have hnd:=hid (node_any w1.heap.size p T j wr ((T3.out.all (C6.out.trans (hB.out.mono C6.out.size))).st.t) hjN G3.out.ok.sn)
    have hcl:((L2.take k).filter fun x=>nbN (nodeAt T x)).length≤60:=Nat.le_trans (List.length_filter_le _ _) (by rw [List.length_take];omega)
    clear hin g0 hj
    generalize ((L2.take k).filter fun x=>nbN (nodeAt T x)).length=ct at *
    have hdn:=@hid (nbN (nodeAt T (j:Int))=(decide ((nodeAt T (j:Int)).op=10) && !decide ((nodeAt T (j:Int)).sort=0))) rfl
    generalize nodeAt T (j:Int)=x at *
    obtain ⟨op,nm,⟨ng,nu,de⟩,args,so⟩:=x
    dsimp only at hdn
    go_wp2_with fail
    refine hnd.out.mono ?_;rintro e w7 ⟨a9,c9,b9,d9,g9,e9,rfl,n9,hb9⟩
    have hbA:Below w7.heap.size w7 (w7.alloc (.cells #[.int .i64 op,.string nm,.bool ng,.slice a9 nu.length c9,.slice b9 de.length d9,.slice g9 args.length e9,.int .i64 so] 38)):=(Below.refl _ _).alloc (Nat.le_refl _) _
    have XA:=hid (heap_alloc_new w7 (.cells #[.int .i64 op,.string nm,.bool ng,.slice a9 nu.length c9,.slice b9 de.length d9,.slice g9 args.length e9,.int .i64 so] 38))
    have B7:=hid (hB.out.trans ((hb9.trans (hbA.mono hb9.size)).mono hB.out.size))
    clear n9 hb9 hbA hnd
    go_upto_region 18 with fail
    generalize (w7.alloc (.cells #[.int .i64 op,.string nm,.bool ng,.slice a9 nu.length c9,.slice b9 de.length d9,.slice g9 args.length e9,.int .i64 so] 38))=wA at *
    have y0:wA.cell? ⟨w7.heap.size,0,none⟩=some (.int .i64 op):=cell_p XA.out 0
    have y6:wA.cell? ⟨w7.heap.size,6,none⟩=some (.int .i64 so):=cell_p XA.out 6
    clear XA
    by_cases hop:op=10
    case neg=>
     have hopd:decide (op=10)=false:=decide_eq_false hop
     have hopb:(op == 10)=false:=by simpa using hop
     have hv:=hid (show((L2.take (k+1)).filter fun x=>nbN (nodeAt T x)).length=ct from by rw [hsucc.out,hdn.out,hopd];rfl)
     clear hsucc hdn
     go_wp2
     go_roundw
     case rel=>exact⟨k+1,by omega,by go_num,by rw [hv.out],B7.out⟩
     case measure=>first | (simp [intOf];done) | (simp [intOf];omega)
    case pos=>
     subst hop
     by_cases hso:so=0
     case pos=>
      have hv:=hid (show((L2.take (k+1)).filter fun x=>nbN (nodeAt T x)).length=ct from by rw [hsucc.out,hdn.out,hso];rfl)
      subst hso
      clear hsucc hdn
      go_wp2
      go_roundw
      case rel=>exact⟨k+1,by omega,by go_num,by rw [hv.out],B7.out⟩
      case measure=>first | (simp [intOf];done) | (simp [intOf];omega)
     case neg=>
      have hsob:(so != 0)=true:=by simpa using hso
      have hsod:decide (so=0)=false:=decide_eq_false hso
      have hv:=hid (show((L2.take (k+1)).filter fun x=>nbN (nodeAt T x)).length=ct+1 from by rw [hsucc.out,hdn.out,hsod];rfl)
      clear hsucc hdn
      go_wp2
      go_roundw
      case rel=>exact⟨k+1,by omega,by go_num,by rw [hv.out];first | rfl | (congr 1) | simp,B7.out⟩
      case measure=>first | (simp [intOf];done) | (simp [intOf];omega)
   case neg=>
    obtain rfl:k=L2.length:=by omega
    have hkLi:¬(L2.length:Int)<L2.length:=by omega
    have C7:=hid (C6.out.trans (hB.out.mono C6.out.size))
    have O7:=hid (O6.out.same fun k hk=>hB.out.block k (O6.out.lt k hk).2)
    have hcnt:=@hid (((L2.take L2.length).filter fun x=>nbN (nodeAt T x)).length=((walkT T L).2.filter fun x=>nbN (nodeAt T x)).length) (by rw [List.take_length];exact within_count G3.out.ok.ord W6.out _)
    obtain ⟨after,more,T2,e1,e2,e3,e4,e5,e6,e7,e8⟩:=lift_once V3.out S3.out (by have:=F3.out;omega) (by omega) L5.out
    have I7:=T3.out.all C7.out
    have hla:=liftAll_any E1.out p T.X T al L.length cl L wr I7.st G3.out (by have:=F3.out;omega) (OwnC.rdX O7.out (fun x hx=>by have:=hasT_iff.1 (L5.out x hx).1;unfold okI;omega)) (fun _ x hx=>by
     subst hx
     have hb:Value.ownBlock (.slice (some x) L.length cl)=some x.block:=rfl
     refine⟨(O7.out.lt _ hb).2,fun e=>?_⟩
     obtain ⟨q',v1,v2,m,ha⟩:=I7.st.t
     exact ha.notOwn (O7.out.ty _ hb) (by decide) (by decide) (by decide) e) (by omega)
    unfold AllPost at hla
    rw [e1] at hla
    dsimp only at hla
    have hla':=hid hla
    have H2:=hid e2
    have H3:=hid (e3.trans (by rw [←hcnt.out]))
    have H4:=hid e4
    have H5:=hid e5
    have H6:=hid e6
    have H7:=hid e7
    have hcb:((L2.take L2.length).filter fun x=>nbN (nodeAt T x)).length≤60:=Nat.le_trans (List.length_filter_le _ _) (by rw [List.length_take];omega)
    have I7':=hid I7
    clear hla e1 e2 e3 e4 e5 e6 e7 e8 hcnt I7
    generalize ((L2.take L2.length).filter fun x=>nbN (nodeAt T x)).length=ct at *
    go_wp2_with fail
    refine hla'.out.mono ?_;rintro e w8 ⟨a8,c8,a9,c9,rfl,o8,o9,hok8,st8,ts8,gr8⟩
    have GU:=hid (show TermG { T2 with X:=T.X } from⟨gr8.g.ok.X _,gr8.g.ng⟩)
    have TU:=hid (H6.out.X T.X)
    have XU:=hid (H7.out.X T.X)
    have FU:=hid (fun x hx=>(H5.out x hx).X T.X)
    have frU:({ T2 with X:=T.X }:TermD).fresh≤1638400:=by have:=gr8.fr;have:=F3.out;show T2.fresh≤_;omega
    have SU:=hid st8
    have O8:=hid (O7.out.same fun k hk=>I7'.out.st.t.dat ts8 (O7.out.dat k hk))
    have A8:=hid o8
    have M8:=hid o9
    have RA:=hid (OwnC.rdX o8 hok8)
    have hz8:=hid ts8.size
    clear o8 o9 hok8 st8 ts8 gr8 hla' H5 H6 I7' O7
    generalize hU:({ T2 with X:=T.X }:TermD)=U at *
    clear hU
    have hcm:((more.length:Int) != 2 * (ct:Int))=false:=by have:=H3.out;simp;omega
    have hcd:decide ((more.length:Int)=2 * (ct:Int))=true:=decide_eq_true (by have:=H3.out;omega)
    have hca:((after.length:Int) != (L.length:Int))=false:=by have:=H2.out;simp;omega
    have hcad:decide ((after.length:Int)=(L.length:Int))=true:=decide_eq_true (by have:=H2.out;omega)
    go_wp2
    go_loopw [18,19,20,21,22,23] (fun v18 _ _ _ _ _ wr=>∃k:Nat,k≤L.length∧v18 = .int .i64 k∧Hid (Below w8.heap.size w8 wr)) (fun v18 _ _ _ _ _ _=>L.length - (intOf v18).toNat)
    case atStart=>exact⟨0,Nat.zero_le _,rfl,Below.refl _ _⟩
    case round=>
     obtain ⟨k,hk,rfl,hB⟩:=hrel
     obtain ⟨wa,rfl⟩:∃wa,wa=wr:=⟨_,rfl⟩
     by_cases hkL:k<L.length
     case neg=>
      obtain rfl:k=L.length:=by omega
      have hkLi:¬(L.length:Int)<L.length:=by omega
      have hal:after.length≤8:=by have:=H2.out;omega
      have hml:more.length≤120:=by have:=H3.out;omega
      obtain ⟨i0,hi0,hz0,hz1,hz2⟩:=info_parts info_int
      have SA:=hid ((Src.own A8.out).keep hB.out)
      have SM:=hid ((Src.own M8.out).keep hB.out)
      have hbl:Below wa.heap.size wa (wa.alloc (.cells #[] 3)):=(Below.refl _ _).alloc (Nat.le_refl _) _
      go_wp2_with (at_builtin;refine wpList_append_C rfl (.tmp 164) (.tmp 165) rfl Tryz.underlying23 hi0 hz0 hz1 hz2 rfl (by decide) rfl rfl (OwnC.lit0 (base:=wa.heap.size) rfl (Nat.le_refl _)) (SA.out.keep hbl) ?c2 ?c3 ?c4 ?c5 ?_)
      case c2=>intro u hu;rfl
      case c3=>unfold maxLen;omega
      case c4=>omega
      (try case c5=>first | omega | (simp;omega) | simp)
      intro v' wb ho3 hg3 hl3
      have B3:Below wa.heap.size wa wb:=hbl.trans ((Below.refl _ _).grown hg3 (by simp) (fun k hk=>by simp [Value.ownBlock] at hk;omega))
      have hzw:=B3.size
      have O3:OwnC wb wa.heap.size 3 1 v' after.length (after.map (Value.int .i64)):=by first | exact ho3 | (rw [Nat.zero_add,List.nil_append] at ho3;exact ho3)
      have SM2:=hid (SM.out.keep B3)
      obtain ⟨av3,cv3,rfl,_,_⟩:=O3.slice
      have B3':=hid B3
      clear hg3 hl3 B3 ho3
      go_wp2_with (at_builtin;refine wpList_append_C rfl (.tmp 166) (.tmp 167) rfl Tryz.underlying23 hi0 hz0 hz1 hz2 rfl (by decide) rfl rfl O3 SM2.out ?d2 ?d3 ?d4 ?d5 ?_)
      case d2=>intro u hu;obtain ⟨x,_,rfl⟩:=List.mem_map.1 hu;rfl
      case d3=>unfold maxLen;omega
      case d4=>omega
      (try case d5=>first | omega | (simp;omega) | simp)
      intro v2 wc ho4 hg4 hl4
      have B4:Below wa.heap.size wa wc:=B3'.out.trans ((Below.refl _ _).grown hg4 hzw (fun k hk=>(O3.lt k hk).1))
      have B5:=hid (hB.out.trans (B4.mono hB.out.size))
      have O5:=hid (show OwnC wc wa.heap.size 3 1 v2 (after++more).length ((after++more).map (Value.int .i64)) from by rw [List.length_append,List.map_append];first | exact ho4 | (rw [List.map_append] at ho4;exact ho4))
      obtain ⟨a5,c5,rfl,_,_⟩:=O5.out.slice
      have hall:allLift U (after++more)=((after++more,[],0),U):=lift_none TU.out FU.out
      have I5:=hid (SU.out.all B5.out)
      have hla:=liftAll_any E1.out p U.X U a5 (after++more).length c5 (after++more) wc I5.out GU.out (by omega) (OwnC.rdX O5.out (fun x hx=>by have:=hasT_iff.1 (FU.out x hx).has;have:=GU.out.ok.sm.le;unfold okI;omega)) (fun _ x hx=>by
       subst hx
       have hb:Value.ownBlock (.slice (some x) (after++more).length c5)=some x.block:=rfl
       refine⟨(O5.out.lt _ hb).2,fun e=>?_⟩
       obtain ⟨q',v1,v2,m,ha⟩:=I5.out.t
       exact ha.notOwn (O5.out.ty _ hb) (by decide) (by decide) (by decide) e) (by rw [List.length_append];omega)
      unfold AllPost at hla
      rw [hall] at hla
      dsimp only [List.length_nil] at hla
      have hla2:=hid hla
      have hlen:(after++more).length=after.length+more.length:=List.length_append
      clear hla O3 ho4 hg4 hl4 hbl SA SM SM2 B3' B4 hall hzw
      rw [hlen] at hla2
      go_wp2_with fail
      refine hla2.out.mono ?_;rintro e w9 ⟨b1,d1,b2,d2,rfl,_,_,_,st9,_,_⟩
      have haw1:=hid (haw.out w9 st9.b)
      have S9:=hid st9.b
      clear st9 hla2
      go_wp2_with fail
      refine haw1.out.mono ?_;rintro e w10 ⟨rfl,b10⟩
      have B10:=hid (B1.out.trans ((S9.out.trans (b10.mono S9.out.size)).mono B1.out.size))
      clear b10
      go_wp2
      go_ret
      exact⟨rfl,B10.out⟩
     case pos=>
      have hkLi:(k:Int)<L.length:=by omega
      obtain ⟨gl,cl',hvl,_,_⟩:=O8.out.form (by omega)
      cases hvl
      have hcap:=hO8cap O8.out
      have hLk:=L5.out _ (nth_mem hkL)
      have hRk:=hid (show RdI wa (some ⟨gl,k,none⟩) 1 [nth L k] from⟨rfl,fun x hx=>(by simp at hx;subst hx;have:=hasT_iff.1 hLk.1;omega),fun _=>⟨gl,k,rfl,Nat.lt_of_lt_of_le (O8.out.lt gl rfl).2 hB.out.size,fun j hj=>by
       obtain rfl:j=0:=by omega
       rw [Nat.add_zero]
       exact keep_cell hB.out (O8.out.cells (g:=gl) rfl k (.int .i64 (nth L k)) (by rw [List.getElem?_map,List.getElem?_eq_getElem hkL,nth_eq hkL];rfl))⟩⟩)
      have hwt:=fun cc=>within16_any w1.heap.size p U (some ⟨gl,k,none⟩) 1 cc [nth L k] wa (SU.out.all hB.out).t GU.out hRk.out (by decide)
      have hwt':=hid hwt
      clear hwt
      go_wp2_with fail
      refine(hwt'.out _).mono ?_;rintro e w9 ⟨one,ao,co,rfl,hO9,b9,hW9⟩
      have B9:=hid (hB.out.trans (b9.mono hB.out.size))
      have W9:=hid hW9
      have R9:=hid (OwnC.rdX hO9 (fun x hx=>by have:=hasT_iff.1 (hW9.rg x hx);have:=GU.out.ok.sm.le;unfold okI;omega))
      have hon:one.length≤16384:=Nat.le_trans (pigeon _ _ hW9.nd fun x hx=>hasT_iff.1 (hW9.rg x hx)) GU.out.ok.sm.le
      have hUle:=GU.out.ok.sm.le
      clear hO9 b9 hW9 hwt' hRk
      go_wp2
      go_loopw [20,21,22,23] (fun v20 v21 _ _ wr=>∃j:Nat,j≤one.length∧v21 = .int .i64 j∧v20 = .bool ((one.take j).any fun x=>nbN (nodeAt U x))∧Hid (Below w9.heap.size w9 wr)) (fun _ v21 _ _ _=>one.length - (intOf v21).toNat)
      case atStart=>exact⟨0,Nat.zero_le _,rfl,rfl,Below.refl _ _⟩
      case round=>
       obtain ⟨j,hj,rfl,rfl,hB2⟩:=hrel
       by_cases hjo:j<one.length
       case pos=>
        have hjoi:(j:Int)<one.length:=by omega
        have hin:=W9.out.rg _ (nth_mem hjo)
        obtain ⟨g0,g1⟩:=hasT_iff.1 hin
        obtain ⟨b7,o7,rfl,k7⟩:=(R9.out.below hB2.out (Nat.le_refl _)).at j hjo
        have hsucc:=@hid (((one.take (j+1)).any fun x=>nbN (nodeAt U x))=(((one.take j).any fun x=>nbN (nodeAt U x)) || nbN (nodeAt U (nth one j)))) (take_any (P:=fun x=>nbN (nodeAt U x)) hjo)
        obtain ⟨i,hi⟩:=Int.eq_ofNat_of_zero_le g0
        rw [hi] at k7 g1 hsucc
        have hiN:i<U.nodes.length:=by omega
        have hnd:=hid (node_any w1.heap.size p U i wr ((SU.out.all (B9.out.trans (hB2.out.mono B9.out.size))).t) hiN GU.out.ok.sn)
        clear hin g0 hi
        generalize ((one.take j).any fun x=>nbN (nodeAt U x))=bh at *
        have hdn:=@hid (nbN (nodeAt U (i:Int))=(decide ((nodeAt U (i:Int)).op=10) && !decide ((nodeAt U (i:Int)).sort=0))) rfl
        generalize nodeAt U (i:Int)=x at *
        obtain ⟨op,nm,⟨ng,nu,de⟩,args,so⟩:=x
        dsimp only at hdn
        go_wp2_with fail
        refine hnd.out.mono ?_;rintro e w7 ⟨a7,c7,b7',d7,g7,e7,rfl,n7,hb7⟩
        have hbA:Below w7.heap.size w7 (w7.alloc (.cells #[.int .i64 op,.string nm,.bool ng,.slice a7 nu.length c7,.slice b7' de.length d7,.slice g7 args.length e7,.int .i64 so] 38)):=(Below.refl _ _).alloc (Nat.le_refl _) _
        have XA:=hid (heap_alloc_new w7 (.cells #[.int .i64 op,.string nm,.bool ng,.slice a7 nu.length c7,.slice b7' de.length d7,.slice g7 args.length e7,.int .i64 so] 38))
        have B7:=hid (hB2.out.trans ((hb7.trans (hbA.mono hb7.size)).mono hB2.out.size))
        clear n7 hb7 hbA hnd
        go_upto_region 32 with fail
        generalize (w7.alloc (.cells #[.int .i64 op,.string nm,.bool ng,.slice a7 nu.length c7,.slice b7' de.length d7,.slice g7 args.length e7,.int .i64 so] 38))=wA at *
        have y0:wA.cell? ⟨w7.heap.size,0,none⟩=some (.int .i64 op):=cell_p XA.out 0
        have y6:wA.cell? ⟨w7.heap.size,6,none⟩=some (.int .i64 so):=cell_p XA.out 6
        clear XA
        cases bh
        case true=>
         have hv:=hid (show Value.bool true = .bool ((one.take (j+1)).any fun x=>nbN (nodeAt U x)) from by rw [hsucc.out];rfl)
         clear hsucc hdn
         go_wp2
         go_roundw
         case rel=>exact⟨j+1,by omega,by go_num,hv.out,B7.out⟩
         case measure=>first | (simp [intOf];done) | (simp [intOf];omega)
        case false=>
         by_cases hop:op=10
         case neg=>
          have hopd:decide (op=10)=false:=decide_eq_false hop
          have hopb:(op == 10)=false:=by simpa using hop
          have hv:=hid (show Value.bool false = .bool ((one.take (j+1)).any fun x=>nbN (nodeAt U x)) from by rw [hsucc.out,hdn.out,hopd];rfl)
          clear hsucc hdn
          go_wp2
          go_roundw
          case rel=>exact⟨j+1,by omega,by go_num,hv.out,B7.out⟩
          case measure=>first | (simp [intOf];done) | (simp [intOf];omega)
         case pos=>
          subst hop
          have hso':(so != 0) = !decide (so=0):=by by_cases h:so=0 <;> simp [h]
          have hv:=hid (show Value.bool (so != 0) = .bool ((one.take (j+1)).any fun x=>nbN (nodeAt U x)) from by rw [hsucc.out,hdn.out,hso'];rfl)
          clear hsucc hdn hso'
          go_wp2
          go_roundw
          case rel=>exact⟨j+1,by omega,by go_num,hv.out,B7.out⟩
          case measure=>first | (simp [intOf];done) | (simp [intOf];omega)
       case neg=>
        obtain rfl:j=one.length:=by omega
        have hjoi:¬(one.length:Int)<one.length:=by omega
        have B10:=hid (B9.out.trans (hB2.out.mono B9.out.size))
        have hka:k<after.length:=by rw [H2.out];exact hkL
        obtain ⟨ga,ca',hva,_,_⟩:=A8.out.form (by omega)
        cases hva
        have ya:=keep_cell B10.out (A8.out.cells (g:=ga) rfl k (.int .i64 (nth after k)) (by rw [List.getElem?_map,List.getElem?_eq_getElem hka,nth_eq hka];rfl))
        have yl:=keep_cell B10.out (O8.out.cells (g:=gl) rfl k (.int .i64 (nth L k)) (by rw [List.getElem?_map,List.getElem?_eq_getElem hkL,nth_eq hkL];rfl))
        have hkai:(k:Int)<after.length:=by omega
        have hcl:=@hid ((one.any fun x=>nbN (nodeAt U x))=false→nth after k=nth L k) (fun h=>H4.out k hkL (clean_back XU.out G3.out.ok.ord hLk.1 (clean_of W9.out (XU.out.has hLk.1) h)))
        have hnb:one.take one.length=one:=List.take_length
        rw [hnb]
        clear hnb hLk
        generalize (one.any fun x=>nbN (nodeAt U x))=bh at *
        cases bh
        case true=>
         clear hcl
         go_wp2
         go_quiet (fail)
         have B11:=hid (B10.out.trans ((Below.refl _ _).drewN nq))
         go_wp2
         go_roundw
         case rel=>exact⟨k+1,by omega,by go_num,B11.out⟩
         case measure=>first | (simp [intOf];done) | (simp [intOf];omega)
        case false=>
         have heq:=hcl.out rfl
         rw [heq] at ya
         clear hcl heq
         go_wp2
         go_quiet (fail)
         have B11:=hid (B10.out.trans ((Below.refl _ _).drewN nq))
         go_wp2
         go_roundw
         case rel=>exact⟨k+1,by omega,by go_num,B11.out⟩
         case measure=>first | (simp [intOf];done) | (simp [intOf];omega)
end Go.Proofs.YtgoojkiccdjplaaGreatDoor
namespace Go.Proofs.YtgoojkiccdjplaaGreatDoor
open Go.RowKit Go.Lib
abbrev seatLaid:List (String × DataW Unit):=[("math/bits.deBruijn32tab",Rows.laid_math_bits_deBruijn32tab),("math/bits.deBruijn64tab",Rows.laid_math_bits_deBruijn64tab),("internal/strconv.uint64pow10",Rows.laid_internal_strconv_uint64pow10),("unicode/utf8.acceptRanges",Rows.laid_unicode_utf8_acceptRanges),("unicode.White_Space",Rows.laid_unicode_White_Space),("strings.asciiSpace",Rows.laid_strings_asciiSpace),("strconv.isGraphic",Rows.laid_strconv_isGraphic),("strconv.isNotPrint16",Rows.laid_strconv_isNotPrint16),("strconv.isNotPrint32",Rows.laid_strconv_isNotPrint32),("strconv.isPrint16",Rows.laid_strconv_isPrint16),("strconv.isPrint32",Rows.laid_strconv_isPrint32),("unicode/utf8.first",Rows.laid_unicode_utf8_first)]
theorem laid_tab:(Rows.laid_strings_asciiSpace:DataW Unit)=tabData .u8 asciiSpaceTab:=by kernel_rfl
theorem laid_pow:(Rows.laid_internal_strconv_uint64pow10:DataW Unit)=tabData .u64 Lib.pow10Tab:=by kernel_rfl
theorem laid_acc:(Rows.laid_unicode_utf8_acceptRanges:DataW Unit)=acceptData:=by kernel_rfl
theorem g_ascii:Tryz.prog.globalNamed "strings.asciiSpace" = some 0:=by kernel_rfl
theorem t_ascii:∃t e,(Tryz.prog.globals[0]?).map (·.type)=some t∧Tryz.prog.underlying t=some (.array 256 e)∧Tryz.prog.underlying e=some (.int .u8)∧Tryz.prog.cellsOf e=1∧Tryz.prog.cellsOf t=256:=
 ⟨250,5,by kernel_rfl,by kernel_rfl,by kernel_rfl,by kernel_rfl,by kernel_rfl⟩
theorem t_pow:∃t e,(Tryz.prog.globals[2]?).map (·.type)=some t∧Tryz.prog.underlying t=some (.array 20 e)∧Tryz.prog.underlying e=some (.int .u64)∧Tryz.prog.cellsOf e=1∧Tryz.prog.cellsOf t=20:=
 ⟨285,177,by kernel_rfl,by kernel_rfl,by kernel_rfl,by kernel_rfl,by kernel_rfl⟩
theorem env_of_laid {W:World} (h:laidMetH Tryz.prog seatLaid W):EnvT W:=by
 rw [MakeChecks.laidMetH_plain _ _ _ (by kernel_rfl)] at h
 refine⟨?_,?_,?_,?_⟩
 ·obtain ⟨g',t',cs,fuel,p,hg',ht',hvar,hd⟩:=laidMet.reads h (n:="strings.asciiSpace") (d:=Rows.laid_strings_asciiSpace) (by simp)
  obtain ⟨t,e,h1,h2,h3,h4,h5⟩:=t_ascii
  obtain rfl:=Option.some.inj (g_ascii.symm.trans hg')
  obtain rfl:=Option.some.inj (h1.symm.trans ht')
  rw [laid_tab] at hd
  unfold Env Lib.TabIs
  rw [hvar,←cells_of_tab h2 h3 h4 h5 hd]
 ·obtain ⟨g',t',cs,fuel,p,hg',ht',hvar,hd⟩:=laidMet.reads h (n:="internal/strconv.uint64pow10") (d:=Rows.laid_internal_strconv_uint64pow10) (by simp)
  obtain ⟨t,e,h1,h2,h3,h4,h5⟩:=t_pow
  obtain rfl:=Option.some.inj (pow_glob.symm.trans hg')
  obtain rfl:=Option.some.inj (h1.symm.trans ht')
  rw [laid_pow] at hd
  unfold Lib.TabIs
  rw [hvar,←cells_of_tab h2 h3 h4 h5 hd]
 ·exact printTabs_of_reads (ρ:=Tryz.lays339_ren) { Tryz.lays339 with } ⟨by kernel_rfl,by kernel_rfl,by kernel_rfl,by kernel_rfl,by kernel_rfl,by kernel_rfl,by kernel_rfl,by kernel_rfl,by kernel_rfl,by kernel_rfl⟩
   (Pinned.isPrint16_eq ▸ laidMet.reads h (n:="strconv.isPrint16") (d:=Pinned.isPrint16) (by simp [Rows.laid_strconv_isPrint16]))
   (Pinned.isNotPrint16_eq ▸ laidMet.reads h (n:="strconv.isNotPrint16") (d:=Pinned.isNotPrint16) (by simp [Rows.laid_strconv_isNotPrint16]))
   (Pinned.isPrint32_eq ▸ laidMet.reads h (n:="strconv.isPrint32") (d:=Pinned.isPrint32) (by simp [Rows.laid_strconv_isPrint32]))
   (Pinned.isNotPrint32_eq ▸ laidMet.reads h (n:="strconv.isNotPrint32") (d:=Pinned.isNotPrint32) (by simp [Rows.laid_strconv_isNotPrint32]))
 ·exact utf8Tabs_of_reads (ρ:=Tryz.lays260_ren) { Tryz.lays260 with } ⟨by kernel_rfl,by kernel_rfl,by kernel_rfl,by kernel_rfl,by kernel_rfl,by kernel_rfl,by kernel_rfl⟩
   (Pinned.utf8First_eq ▸ laidMet.reads h (n:="unicode/utf8.first") (d:=Pinned.utf8First) (by simp [Rows.laid_unicode_utf8_first]))
   (laid_acc ▸ laidMet.reads h (n:="unicode/utf8.acceptRanges") (d:=Rows.laid_unicode_utf8_acceptRanges) (by simp))
end Go.Proofs.YtgoojkiccdjplaaGreatDoor
namespace Go.Proofs.YtgoojkiccdjplaaGreatDoor
open Go.RowKit Go.Lib
theorem laid_shaped (os:Os) (args:Array Value):((World.laidAll Tryz.prog os seatLaid).forCall (fun _ _=>0) ⟨#[],args,[]⟩).Shaped Tryz.checked.prog:=World.shaped_of_ZipB (by kernel_rfl) (by kernel_rfl)
theorem laid_met (os:Os) (args:Array Value):laidMetH Tryz.prog seatLaid ((World.laidAll Tryz.prog os seatLaid).forCall (fun _ _=>0) ⟨#[],args,[]⟩).memory:=by
 rw [MakeChecks.laidMetH_plain _ _ _ (by kernel_rfl)];exact laidMet_laidAll _ (by kernel_rfl) (by kernel_rfl)
end Go.Proofs.YtgoojkiccdjplaaGreatDoor
