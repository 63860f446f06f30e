/-
  Parts of this claim's texts, one behind the other: DL. No condition.
-/
import Derived.Test.YtgoojkiccdjplaaGreatDoorM33
import Derived.Test.YtgoojkiccdjplaaGreatDoorM45
import Derived.Test.YtgoojkiccdjplaaGreatDoorM34
import Derived.Test.YtgoojkiccdjplaaGreatDoorM43
set_option linter.unusedVariables false
set_option linter.unusedSimpArgs false
set_option maxRecDepth 100000
set_option maxHeartbeats 16000000
namespace Go.Proofs.YtgoojkiccdjplaaGreatDoor
open Go.RowKit Go.Sort Go.Lib
theorem flatOnce_walk (a:Option Addr) (n c:Nat) (xs:List StepD) (ap:Option Addr) (np cp:Nat) (picks:List Int) (w:World) (hE:EnvT w) (hx:SlR repStep (fun _=>True) w a n xs) (hn:n≤c∧c≤9223372036854775807) (hp:RdI w ap np picks) (hnp:np≤cp∧cp≤9223372036854775807) :
  Calls Tryz.prog 5 #[.slice a n c,.slice ap np cp] w fun e w'=>e = .returned (.bool true)∧Below w.heap.size w w':=by
 have hfew:=hid (few17_any a n c xs w hx (by omega))
 have hE':=hid hE
 have hx':=hid hx
 have hp':=hid hp
 clear hE hx hp
 go_enter Tryz.func5,Tryz.ntmps5
 go_wp2_with fail
 refine hfew.out.mono ?_;rintro e w1 ⟨t,rfl,hsm,b1⟩
 have B1:=hid b1
 have E1:=hid (hE'.out.all b1)
 have X1:=hid (hx'.out.below b1 (Nat.le_refl _))
 have P1:=hid (hp'.out.below b1 (Nat.le_refl _))
 have hsm':=hid hsm
 clear b1 hsm hfew hE' hx' hp'
 have haw:=hid (fun(W:World) (hb:Below w1.heap.size w1 W)=>awake17_any W (E1.out.all hb))
 cases t
 case false=>
  have haw1:=hid (haw.out w1 (Below.refl _ _))
  go_wp2_with fail
  refine haw1.out.mono ?_;rintro e w2 ⟨rfl,b2⟩
  have B2:=hid (B1.out.trans (b2.mono B1.out.size))
  clear b2
  go_wp2
  go_ret
  exact⟨rfl,B2.out⟩
 case true=>
  by_cases h8:np≤8
  case neg=>
   have h8i:(8:Int)<np:=by omega
   have haw1:=hid (haw.out w1 (Below.refl _ _))
   go_wp2_with fail
   refine haw1.out.mono ?_;rintro e w2 ⟨rfl,b2⟩
   have B2:=hid (B1.out.trans (b2.mono B1.out.size))
   clear b2
   go_wp2
   go_ret
   exact⟨rfl,B2.out⟩
  case pos=>
  have h8i:¬(8:Int)<np:=by omega
  have h8d:decide ((8:Int)<np)=false:=decide_eq_false h8i
  have hs60:=(hsm'.out rfl).1
  have hss:=hid (hsm'.out rfl).2
  have hnl:n≤60:=by have:=X1.out.1;omega
  have htb:=hid (tables17b_any w1 E1.out.env)
  clear hsm' hs60
  go_wp2_with fail
  refine htb.out.mono ?_;rintro e w2 ⟨p,r,q,rfl,h2⟩
  have hmd:=hid (made17_any E1.out p r q (T7 10) (emptyT (T7 10)) xs a n c w2 h2 MdI.start (X1.out.mono fun b hb _=>hb) hss.out hnl)
  clear h2 htb
  go_wp2_with fail
  refine hmd.out.mono ?_;rintro e w3 ⟨T,ids,v,rfl,hT,hM,hil,hok,hO⟩
  have T3:=hid hT
  have G3:=hid (show TermG { T with X:=rowB v } from⟨hM.g.ok.X _,hM.g.ng⟩)
  have hN:({ T with X:=rowB v }:TermD).nodes.length≤60:=Nat.le_trans hM.len hnl
  have V3:=hid (hM.ti.X (rowB v))
  have S3:=hid (hM.si.X (rowB v))
  have K0:=hid (show FrI { T with X:=rowB v } from⟨hM.fi.nm,hM.fi.fn⟩)
  have F3:=hid (show({ T with X:=rowB v }:TermD).fresh=0 from hM.fr)
  obtain ⟨av,cv,rfl,_,_⟩:=hO.slice
  have R3:=hid (OwnC.rdX hO (fun x hx=>by have:=hok x hx;have:=hM.g.ok.sm.le;unfold okI;omega))
  have K3:=hid (show ∀i∈ids,-1≤i∧i<(({ T with X:=rowB (.slice av ids.length cv) }:TermD).nodes.length:Int) from hok)
  have P3:=hid (P1.out.below hT.st.b (Nat.le_refl _))
  have hil':ids.length≤60:=by omega
  clear hT hM hil hok hO hmd hss X1 P1
  generalize ({ T with X:=rowB (.slice av ids.length cv) }:TermD)=T' at *
  clear T
  obtain ⟨T,rfl⟩:∃T,T=T':=⟨_,rfl⟩
  have hsl:=hid (small_any r T w3 T3.out.m.rd G3.out.ok.ord (by omega) (fun x hx=>(G3.out.ng x hx).args))
  generalize ((szs T.nodes).all fun x=>decide (x≤1000))=sm at *
  go_wp2_with fail
  refine hsl.out.mono ?_;rintro e w4 ⟨rfl,b4⟩
  have C4:=hid b4
  clear b4 hsl
  cases sm
  case false=>
   have haw1:=hid (haw.out w4 (T3.out.st.b.trans (C4.out.mono T3.out.st.b.size)))
   go_wp2_with fail
   refine haw1.out.mono ?_;rintro e w5 ⟨rfl,b5⟩
   have B5:=hid (B1.out.trans ((T3.out.st.b.trans ((C4.out.trans (b5.mono C4.out.size)).mono T3.out.st.b.size)).mono B1.out.size))
   clear b5
   go_wp2
   go_ret
   exact⟨rfl,B5.out⟩
  case true=>
  have hbl:=hid (bools17_any r T ids picks av ap ids.length np cv cp w4 (T3.out.m.rd.all C4.out) (R3.out.below C4.out (Nat.le_refl _)) hil' K3.out (P3.out.below C4.out (Nat.le_refl _)) h8)
  go_wp2_with fail
  refine hbl.out.mono ?_;rintro e w5 ⟨L,al,cl,rfl,hO5,b5,hL8,hL⟩
  have C5:=hid (C4.out.trans (b5.mono C4.out.size))
  have O5:=hid hO5
  have L5:=hid hL
  have hokL:∀x∈L,okI x:=fun x hx=>by have:=hasT_iff.1 (hL x hx).1;unfold okI;omega
  have RL:=hid (OwnC.rdX hO5 hokL)
  have I5:=hid (T3.out.all C5.out)
  have hlw:(walkT T L).2.length≤60:=Nat.le_trans (pigeon _ _ (walkT_nodup G3.out.ok.ord L) fun x hx=>hasT_iff.1 (walk_has G3.out.ok.ord L x hx)) hN
  have hF0:=F3.out
  obtain ⟨after,more,T2,e1,e2,e3,e4,e5,e6,e7,e8⟩:=lift_once V3.out S3.out (by omega) (by omega) L5.out
  have hkp:=allLift_keeps ⟨V3.out,S3.out,K0.out⟩ L (by omega)
  have hla:=liftAll_any E1.out p T.X T al L.length cl L w5 I5.out.st G3.out (by omega) RL.out (fun _ x hx=>by
   subst hx
   have hb:Value.ownBlock (.slice (some x) L.length cl)=some x.block:=rfl
   refine⟨(O5.out.lt _ hb).2,fun e=>?_⟩
   obtain ⟨q',v1,v2,m,ha⟩:=I5.out.st.t
   exact ha.notOwn (O5.out.ty _ hb) (by decide) (by decide) (by decide) e) (by omega)
  unfold AllPost at hla
  rw [e1] at hla hkp
  dsimp only at hla hkp
  have hla':=hid hla
  have H2:=hid e2
  have HF:=hid (show ∀x∈after,Fact T2 x from fun x hx=>e5 x (by simp [hx]))
  have HI:=hid hkp.1
  have HL:=hid (show T2.nodes.length≤550∧T2.fresh≤600 from⟨by omega,by have:=hkp.2.2;omega⟩)
  clear hla e1 e2 e3 e4 e5 e6 e7 e8 hkp hlw hF0 hbl R3 K3 P3 hokL C4 hO5 b5 hL
  go_wp2_with fail
  refine hla'.out.mono ?_;rintro e w8 ⟨a8,c8,a9,c9,rfl,o8,o9,hok8,st8,ts8,gr8⟩
  have GU:=hid (show TermG { T2 with X:=T.X } from⟨gr8.g.ok.X _,gr8.g.ng⟩)
  have IU:=hid (HI.out.X T.X)
  have FU:=hid (fun x hx=>(HF.out x hx).X T.X)
  have LU:=hid (show({ T2 with X:=T.X }:TermD).nodes.length≤550∧({ T2 with X:=T.X }:TermD).fresh≤600 from HL.out)
  have SU:=hid st8
  have A8:=hid o8
  have RA:=hid (OwnC.rdX o8 hok8)
  clear o8 o9 hok8 st8 ts8 gr8 hla' HF HI HL O5 RL L5 I5
  generalize hU:({ T2 with X:=T.X }:TermD)=U at *
  clear hU
  have hal:after.length≤8:=by have:=H2.out;omega
  obtain ⟨out,made,more2,T4,f1,hFR⟩:=flat_once IU.out LU.out.2 LU.out.1 FU.out
  have hfl:=flatAll_any E1.out p U.X U a8 after.length c8 after w8 SU.out GU.out (by have:=LU.out.2;omega) RA.out (fun _ x hx=>by
   subst hx
   have hb:Value.ownBlock (.slice (some x) after.length c8)=some x.block:=rfl
   refine⟨(A8.out.lt _ hb).2,fun e=>?_⟩
   obtain ⟨q',v1,v2,m,ha⟩:=SU.out.t
   exact ha.notOwn (A8.out.ty _ hb) (by decide) (by decide) (by decide) e) (by omega)
  unfold AllFPost at hfl
  rw [f1] at hfl
  dsimp only at hfl
  have hfl':=hid hfl
  have FR:=hid hFR
  clear hfl f1 hFR
  go_wp2_with fail
  refine hfl'.out.mono ?_;rintro e w9 ⟨a1,c1,a2,c2,a3,c3,rfl,o1,mR,_,ok1,st9,ts9,gr9⟩
  have GV:=hid (show TermG { T4 with X:=U.X } from⟨gr9.g.ok.X _,gr9.g.ng⟩)
  have SV:=hid st9
  have B8:=hid (A8.out.same fun k hk=>SU.out.t.dat ts9 (A8.out.dat k hk))
  have O1:=hid o1
  have MR:=hid (show SlR repMd (fun _=>True) w9 a2 made.length made from mR.mono fun _ _ _=>trivial)
  have XV:=hid (show Ext U { T4 with X:=U.X } from FR.out.ext.X U.X)
  have CV:=hid (show ∀m∈made,ConstI { T4 with X:=U.X } m.var∧m.args ≠ []∧(∀a∈m.args,ConstI { T4 with X:=U.X } a)∧m.args.length≤64 from fun m hm=>by
   obtain ⟨q1,q2,q3,q4⟩:=FR.out.md m hm
   exact⟨⟨q1.has,q1.op,q1.ar⟩,q2,fun a ha=>⟨(q3 a ha).has,(q3 a ha).op,(q3 a ha).ar⟩,q4⟩)
  have hol:out.length=after.length:=FR.out.len
  have OV:=hid (show OrdT { T4 with X:=U.X } from GV.out.ok.ord)
  clear o1 mR ok1 st9 ts9 gr9 hfl' A8
  have hob:((out.length:Int) != (after.length:Int))=false:=by simp;omega
  have hod:decide ((out.length:Int)=(after.length:Int))=true:=decide_eq_true (by omega)
  have PL:=hid (show ∀k,k<after.length→plainT { T4 with X:=U.X } (nth after k)=true→nth out k=nth after k from fun k hk hp=>FR.out.id k hk (clean_plain XV.out GU.out.ok.ord OV.out (FU.out _ (nth_mem hk)).has hp))
  have hml:made.length≤16384:=Nat.le_trans FR.out.ml FR.out.iv.ti.ok.sm.le
  have DS:=hid FR.out.ds
  clear FR
  generalize hV:({ T4 with X:=U.X }:TermD)=V at *
  clear hV
  go_wp2
  go_loopw [16,17,18,19,20,21,22] (fun v14 _ _ _ _ _ _ wr=>∃i:Nat,i≤made.length∧v14 = .int .i64 i∧Hid (Below w9.heap.size w9 wr)) (fun v14 _ _ _ _ _ _ _=>made.length - (intOf v14).toNat)
  case atStart=>exact⟨0,Nat.zero_le _,rfl,Below.refl _ _⟩
  case round=>
   obtain ⟨i,hi,rfl,hB⟩:=hrel
   obtain ⟨wa,rfl⟩:∃wa,wa=wr:=⟨_,rfl⟩
   by_cases hiM:i<made.length
   case pos=>
    have hii:(i:Int)<made.length:=by omega
    have hmi:=List.getElem?_eq_getElem hiM
    obtain ⟨c1',c2',c3',hm64⟩:=CV.out _ (List.getElem_mem hiM)
    obtain ⟨bm,om,cs,rfl,_,hrd,hcs⟩:=MR.out.at hmi
    obtain ⟨aa,ca,rfl,hvok,hca1,hca2,hA⟩:=repMd_rd.1 hrd
    have hDi:=hid (fun k (hk:k<i)=>List.pairwise_iff_getElem.1 DS.out k i (by omega) hiM hk)
    clear hrd hmi
    generalize made[i]=md at *
    obtain ⟨mv,mf,ma⟩:=md
    dsimp only at *
    have hcs:∀(j:Nat) (v:Value),[Value.int .i64 mv,.string mf,.slice aa ma.length ca][j]? = some v→w9.cell? ⟨bm,om+i * 3+j,none⟩=some v:=hcs
    have hCC:=hid (show ∀W,Below w9.heap.size w9 W→W.cell? ⟨bm,om+i * 3,none⟩=some (.int .i64 mv)∧W.cell? ⟨bm,om+i * 3+1,none⟩=some (.string mf)∧W.cell? ⟨bm,om+i * 3+2,none⟩=some (.slice aa ma.length ca) from fun W hW=>
     ⟨keep_cell hW (hcs 0 _ rfl),keep_cell hW (hcs 1 _ rfl),keep_cell hW (hcs 2 _ rfl)⟩)
    obtain ⟨y0,y1,y2⟩:=hCC.out wa hB.out
    have hA':=hid hA.toI
    have C3:=hid c3'
    have hmal:ma.length≠0:=fun e=>c2' (List.eq_nil_of_length_eq_zero e)
    have hma0:¬(ma.length:Int)=0:=by omega
    have hmab:((ma.length:Int) == 0)=false:=by simpa using hma0
    have hmad:decide ((ma.length:Int)=0)=false:=decide_eq_false hma0
    obtain ⟨g0,g1⟩:=hasT_iff.1 c1'.has
    obtain ⟨j,rfl⟩:=Int.eq_ofNat_of_zero_le g0
    have hjN:j<V.nodes.length:=by omega
    have hnd:=hid (node_any w1.heap.size p V j wa (SV.out.all hB.out).t hjN GV.out.ok.sn)
    have hop:=c1'.op
    have har:=c1'.ar
    clear g0 g1 c1' c2' c3' hA hcs
    generalize nodeAt V (j:Int)=x at *
    obtain ⟨op,nm,⟨ng,nu,de⟩,args,so⟩:=x
    dsimp only at hop har
    subst hop har
    go_wp2_with fail
    refine hnd.out.mono ?_;rintro e wb ⟨a9,c9,b9,d9,g9,e9,rfl,n9,hb9⟩
    have hbA:Below wb.heap.size wb (wb.alloc (.cells #[.int .i64 12,.string nm,.bool ng,.slice a9 nu.length c9,.slice b9 de.length d9,.slice g9 0 e9,.int .i64 so] 38)):=(Below.refl _ _).alloc (Nat.le_refl _) _
    have XA:=hid (heap_alloc_new wb (.cells #[.int .i64 12,.string nm,.bool ng,.slice a9 nu.length c9,.slice b9 de.length d9,.slice g9 0 e9,.int .i64 so] 38))
    have Bb:=hid (hB.out.trans ((hb9.trans (hbA.mono hb9.size)).mono hB.out.size))
    clear n9 hb9 hbA hnd
    go_upto_region 21 with fail
    generalize (wb.alloc (.cells #[.int .i64 12,.string nm,.bool ng,.slice a9 nu.length c9,.slice b9 de.length d9,.slice g9 0 e9,.int .i64 so] 38))=wA at *
    have z0:wA.cell? ⟨wb.heap.size,0,none⟩=some (.int .i64 12):=cell_p XA.out 0
    have z5:wA.cell? ⟨wb.heap.size,5,none⟩=some (.slice g9 0 e9):=cell_p XA.out 5
    clear y0 y1 y2
    obtain ⟨y0,y1,y2⟩:=hCC.out wA Bb.out
    clear XA
    go_wp2
    go_loopw [19,20,21] (fun v19 _ _ wi=>∃k:Nat,k≤ma.length∧v19 = .int .i64 k∧Hid (Below w9.heap.size w9 wi)) (fun v19 _ _ _=>ma.length - (intOf v19).toNat)
    case atStart=>exact⟨0,Nat.zero_le _,rfl,Bb.out⟩
    case round=>
     obtain ⟨k,hk,rfl,hB2⟩:=hrel
     clear y0 y1 y2 z0 z5
     obtain ⟨y0,y1,y2⟩:=hCC.out wr hB2.out
     by_cases hkm:k<ma.length
     case pos=>
      have hki:(k:Int)<ma.length:=by omega
      obtain ⟨ba,oa,rfl,ka⟩:=(hA'.out.below hB2.out (Nat.le_refl _)).at k hkm
      have c4:=C3.out _ (nth_mem hkm)
      obtain ⟨g0,g1⟩:=hasT_iff.1 c4.has
      obtain ⟨l,hl⟩:=Int.eq_ofNat_of_zero_le g0
      have hop:=c4.op
      have har:=c4.ar
      rw [hl] at ka g1 hop har
      have hlN:l<V.nodes.length:=by omega
      have hnd:=hid (node_any w1.heap.size p V l wr (SV.out.all hB2.out).t hlN GV.out.ok.sn)
      clear g0 g1 c4 hl
      generalize nodeAt V (l:Int)=x at *
      obtain ⟨op2,nm2,⟨ng2,nu2,de2⟩,args2,so2⟩:=x
      dsimp only at hop har
      subst hop har
      go_wp2_with fail
      refine hnd.out.mono ?_;rintro e wc ⟨a7,c7,b7,d7,g7,e7,rfl,n7,hb7⟩
      have hbA:Below wc.heap.size wc (wc.alloc (.cells #[.int .i64 12,.string nm2,.bool ng2,.slice a7 nu2.length c7,.slice b7 de2.length d7,.slice g7 0 e7,.int .i64 so2] 38)):=(Below.refl _ _).alloc (Nat.le_refl _) _
      have XA:=hid (heap_alloc_new wc (.cells #[.int .i64 12,.string nm2,.bool ng2,.slice a7 nu2.length c7,.slice b7 de2.length d7,.slice g7 0 e7,.int .i64 so2] 38))
      have Bc:=hid (hB2.out.trans ((hb7.trans (hbA.mono hb7.size)).mono hB2.out.size))
      clear n7 hb7 hbA hnd y0 y1 y2 ka
      go_upto_region 27 with fail
      generalize (wc.alloc (.cells #[.int .i64 12,.string nm2,.bool ng2,.slice a7 nu2.length c7,.slice b7 de2.length d7,.slice g7 0 e7,.int .i64 so2] 38))=wE at *
      have z0:wE.cell? ⟨wc.heap.size,0,none⟩=some (.int .i64 12):=cell_p XA.out 0
      have z5:wE.cell? ⟨wc.heap.size,5,none⟩=some (.slice g7 0 e7):=cell_p XA.out 5
      clear XA
      go_wp2
      go_roundw
      case rel=>exact⟨k+1,by omega,by go_num,Bc.out⟩
      case measure=>first | (simp [intOf];done) | (simp [intOf];omega)
     case neg=>
      obtain rfl:k=ma.length:=by omega
      have hki:¬(ma.length:Int)<ma.length:=by omega
      go_wp2
      go_loopw [22] (fun v22 wi=>∃k:Nat,k≤i∧v22 = .int .i64 k∧Hid (Below w9.heap.size w9 wi)) (fun v22 _=>i - (intOf v22).toNat)
      case atStart=>exact⟨0,Nat.zero_le _,rfl,hB2.out⟩
      case round=>
       obtain ⟨k,hk2,rfl,hB3⟩:=hrel
       clear y0 y1 y2
       obtain ⟨y0,y1,y2⟩:=hCC.out wr hB3.out
       by_cases hki2:k<i
       case pos=>
        have hkii:(k:Int)<i:=by omega
        have hkM:(k:Int)<made.length:=by omega
        have hmk:=List.getElem?_eq_getElem (l:=made) (i:=k) (by omega)
        obtain ⟨bm2,om2,cs2,hbm,_,hrd2,hcs2⟩:=MR.out.at hmk
        injection hbm with hbm
        injection hbm with h1 h2 h3
        subst h1 h2
        obtain ⟨ab,cb,rfl,hvok2,hcb1,hcb2,hA2⟩:=repMd_rd.1 hrd2
        obtain ⟨hne1,hne2⟩:=hDi.out k hki2
        have hk64:=(CV.out _ (List.getElem_mem (show k<made.length by omega))).2.2.2
        clear hrd2 hmk
        generalize made[k]'(by omega)=mk at *
        obtain ⟨kv,kf,kargs⟩:=mk
        dsimp only at *
        have hcs2:∀(j:Nat) (v:Value),[Value.int .i64 kv,.string kf,.slice ab kargs.length cb][j]? = some v→w9.cell? ⟨bm,om+k * 3+j,none⟩=some v:=hcs2
        have u0:wr.cell? ⟨bm,om+k * 3,none⟩=some (.int .i64 kv):=keep_cell hB3.out (hcs2 0 _ rfl)
        have u1:=keep_cell hB3.out (hcs2 1 _ rfl)
        have u2:=keep_cell hB3.out (hcs2 2 _ rfl)
        have hvd:decide (kv=(j:Int))=false:=decide_eq_false hne1
        have hvb:(kv == (j:Int))=false:=by simpa using hne1
        by_cases hff:kf=mf
        case pos=>
         subst hff
         have hargs:kargs≠ma:=fun e=>hne2 ⟨rfl,e⟩
         have hLs:(kf.toList == kf.toList)=true:=beq_self_eq_true _
         have hint:=hid (fun z=>ints_any ab aa kargs.length ma.length cb ca kargs ma (wr.drewN z) (((hA2.toI).below hB3.out (Nat.le_refl _)).drewN z) ((hA'.out.below hB3.out (Nat.le_refl _)).drewN z) (by omega))
         rw [show sameI kargs ma=false from by simpa [sameI] using hargs] at hint
         have hiq:∀z,Calls Tryz.prog 30 #[.slice ab kargs.length cb,.slice aa ma.length ca] (wr.drewN z) fun e w'=>e = .returned (.bool false)∧∃n,w'=wr.drewN n:=fun z=>(hint.out z).mono fun _ _ ⟨h1,m,hm⟩=>⟨h1,z+m,by rw [hm,World.drewN_drewN]⟩
         have hiq':=hid hiq
         clear hint hne2 hargs hA2 hcs2 hiq
         go_wp2
         go_quiet ((go_at_call 30;exact(hiq'.out _).mono fun _ _ h=>⟨h.1,h.2⟩))
         have B6:=hid (hB3.out.trans ((Below.refl _ _).drewN nq))
         go_wp2
         go_roundw
         case rel=>exact⟨k+1,by omega,by go_num,B6.out⟩
         case measure=>first | (simp [intOf];done) | (simp [intOf];omega)
        case neg=>
         have hLs:(kf.toList == mf.toList)=false:=by
          cases hc:(kf.toList == mf.toList) with
          | false=>rfl
          | true=>exact absurd (eqb_iff.1 hc) hff
         clear hne2 hA2 hcs2 hff
         go_wp2
         go_quiet (fail)
         have B6:=hid (hB3.out.trans ((Below.refl _ _).drewN nq))
         go_wp2
         go_roundw
         case rel=>exact⟨k+1,by omega,by go_num,B6.out⟩
         case measure=>first | (simp [intOf];done) | (simp [intOf];omega)
       case neg=>
        obtain rfl:k=i:=by omega
        have hkii:¬(k:Int)<k:=by omega
        go_wp2
        go_roundw
        case rel=>exact⟨k+1,by omega,by go_num,hB3.out⟩
        case measure=>first | (simp [intOf];done) | (simp [intOf];omega)
   case neg=>
    obtain rfl:i=made.length:=by omega
    have hii:¬(made.length:Int)<made.length:=by omega
    go_wp2
    go_loopw [23] (fun v21 wr=>∃k:Nat,k≤after.length∧v21 = .int .i64 k∧Hid (Below w9.heap.size w9 wr)) (fun v21 _=>after.length - (intOf v21).toNat)
    case atStart=>exact⟨0,Nat.zero_le _,rfl,hB.out⟩
    case round=>
     obtain ⟨k,hk,rfl,hB2⟩:=hrel
     by_cases hka:k<after.length
     case neg=>
      obtain rfl:k=after.length:=by omega
      have hki:¬(after.length:Int)<after.length:=by omega
      have haw1:=hid (haw.out wr (SV.out.b.trans (hB2.out.mono SV.out.b.size)))
      go_wp2_with fail
      refine haw1.out.mono ?_;rintro e w10 ⟨rfl,b10⟩
      have B11:=hid (B1.out.trans ((SV.out.b.trans ((hB2.out.trans (b10.mono hB2.out.size)).mono SV.out.b.size)).mono B1.out.size))
      clear b10
      go_wp2
      go_ret
      exact⟨rfl,B11.out⟩
     case pos=>
      have hki:(k:Int)<after.length:=by omega
      obtain ⟨ga,ca',hva,_,_⟩:=O1.out.form (by omega)
      cases hva
      obtain ⟨gl,cl',hvl,_,_⟩:=B8.out.form (by omega)
      cases hvl
      have hin:=(FU.out _ (nth_mem hka)).has
      have yl:=keep_cell hB2.out (B8.out.cells (g:=gl) rfl k (.int .i64 (nth after k)) (by rw [List.getElem?_map,List.getElem?_eq_getElem hka,nth_eq hka];rfl))
      have hp:=hid (fun W (hW:Below wr.heap.size wr W)=>plain_any w1.heap.size p V (nth after k) W (SV.out.all (hB2.out.trans (hW.mono hB2.out.size))).t GV.out.ok (by have:=hasT_iff.1 hin;have:=LU.out.1;unfold okI;omega))
      have hPk:=hid (PL.out k hka)
      have ya:=keep_cell hB2.out (O1.out.cells (g:=ga) rfl k (.int .i64 (nth out k)) (by rw [List.getElem?_map,List.getElem?_eq_getElem (by omega),nth_eq (by omega)];rfl))
      have hko:(k:Int)<out.length:=by omega
      clear hin
      generalize nth after k=x at *
      generalize nth out k=y at *
      generalize plainT V x=pb at *
      go_wp2
      cases pb
      case false=>
       refine wp_region_tt (S:=fun W=>Below wr.heap.size wr W) 16 (by kernel_rfl) (by kernel_rfl) (keep_drew wr) (fun _=>?_)
       refine tk (i:=0) (h:=?_)
       (try simp only [Act.put,sA,sB,sC])
       refine tk (i:=1) (h:=?_)
       (try simp only [Act.put,sA,sB,sC])
       refine tk (i:=2) (h:=?_)
       (try simp only [Act.put,sA,sB,sC])
       refine tk (i:=3) (h:=?_)
       (try simp only [Act.put,sA,sB,sC])
       refine tk (i:=4) (hy:=(Or.inl ⟨by rfl,by(intro W hSw;have hq:=keep_cell hSw yl;go_simp <;> with_reducible rfl)⟩)) (h:=?_)
       (try simp only [Act.put,sA,sB,sC])
       refine tt_ready (rs:=[5]) (by decide +kernel) (allT_cons (by rfl) (fun K hK=>?_) allT_nil)
       go_simp
       go_at_call 27
       refine(hp.out _ (keep_drew wr)).mono ?_
       rintro e w10 ⟨rfl,b10⟩
       have B10:=hid (hB2.out.trans (((keep_drew wr).trans (b10.mono (keep_drew wr).size)).mono hB2.out.size))
       have BW:Below wr.heap.size wr w10:=(keep_drew wr).trans (b10.mono (keep_drew wr).size)
       clear b10 hp
       dsimp only
       refine hK.out _ _ (by(exact BW)) (fun hHeld2=>?_)
       clear hK K
       (try simp only [Act.put,sA,sB,sC])
       refine tk (i:=6) (h:=?_)
       (try simp only [Act.put,sA,sB,sC])
       refine tk (i:=7) (h:=?_)
       (try simp only [Act.put,sA,sB,sC])
       refine tk (i:=8) (h:=?_)
       (try simp only [Act.put,sA,sB,sC])
       refine tk (i:=9) (h:=?_)
       (try simp only [Act.put,sA,sB,sC])
       refine tk (i:=10) (hy:=(by first | exact Or.inl ⟨by rfl,by(intro W hSw;have hq:=keep_cell hSw ya;go_simp <;> with_reducible rfl)⟩ | exact Or.inr ⟨by rfl,rfl⟩)) (h:=?_)
       (try simp only [Act.put,sA,sB,sC])
       refine tk (i:=11) (h:=?_)
       (try simp only [Act.put,sA,sB,sC])
       refine tk (i:=12) (h:=?_)
       (try simp only [Act.put,sA,sB,sC])
       refine tk (i:=13) (h:=?_)
       (try simp only [Act.put,sA,sB,sC])
       refine tk (i:=14) (hy:=(by first | exact Or.inl ⟨by rfl,by(intro W hSw;have hq:=keep_cell hSw yl;go_simp <;> with_reducible rfl)⟩ | exact Or.inr ⟨by rfl,rfl⟩)) (h:=?_)
       (try simp only [Act.put,sA,sB,sC])
       refine tk (i:=15) (h:=?_)
       (try simp only [Act.put,sA,sB,sC])
       refine tt_tail (by decide +kernel) ?_
       simp only [List.drop_succ_cons,List.drop_zero]
       go_wp2
       go_roundw
       case rel=>exact⟨k+1,by omega,by go_num,B10.out⟩
       case measure=>first | (simp [intOf];done) | (simp [intOf];omega)
      case true=>
       obtain rfl:=hPk.out rfl
       refine wp_region_tt (S:=fun W=>Below wr.heap.size wr W) 16 (by kernel_rfl) (by kernel_rfl) (keep_drew wr) (fun _=>?_)
       refine tk (i:=0) (h:=?_)
       (try simp only [Act.put,sA,sB,sC])
       refine tk (i:=1) (h:=?_)
       (try simp only [Act.put,sA,sB,sC])
       refine tk (i:=2) (h:=?_)
       (try simp only [Act.put,sA,sB,sC])
       refine tk (i:=3) (h:=?_)
       (try simp only [Act.put,sA,sB,sC])
       refine tk (i:=4) (hy:=(Or.inl ⟨by rfl,by(intro W hSw;have hq:=keep_cell hSw yl;go_simp <;> with_reducible rfl)⟩)) (h:=?_)
       (try simp only [Act.put,sA,sB,sC])
       refine tt_ready (rs:=[5]) (by decide +kernel) (allT_cons (by rfl) (fun K hK=>?_) allT_nil)
       go_simp
       go_at_call 27
       refine(hp.out _ (keep_drew wr)).mono ?_
       rintro e w10 ⟨rfl,b10⟩
       have B10:=hid (hB2.out.trans (((keep_drew wr).trans (b10.mono (keep_drew wr).size)).mono hB2.out.size))
       have BW:Below wr.heap.size wr w10:=(keep_drew wr).trans (b10.mono (keep_drew wr).size)
       clear b10 hp
       dsimp only
       refine hK.out _ _ (by(exact BW)) (fun hHeld2=>?_)
       clear hK K
       (try simp only [Act.put,sA,sB,sC])
       refine tk (i:=6) (h:=?_)
       (try simp only [Act.put,sA,sB,sC])
       refine tk (i:=7) (h:=?_)
       (try simp only [Act.put,sA,sB,sC])
       refine tk (i:=8) (h:=?_)
       (try simp only [Act.put,sA,sB,sC])
       refine tk (i:=9) (h:=?_)
       (try simp only [Act.put,sA,sB,sC])
       refine tk (i:=10) (hy:=(by first | exact Or.inl ⟨by rfl,by(intro W hSw;have hq:=keep_cell hSw ya;go_simp <;> with_reducible rfl)⟩ | exact Or.inr ⟨by rfl,rfl⟩)) (h:=?_)
       (try simp only [Act.put,sA,sB,sC])
       refine tk (i:=11) (h:=?_)
       (try simp only [Act.put,sA,sB,sC])
       refine tk (i:=12) (h:=?_)
       (try simp only [Act.put,sA,sB,sC])
       refine tk (i:=13) (h:=?_)
       (try simp only [Act.put,sA,sB,sC])
       refine tk (i:=14) (hy:=(by first | exact Or.inl ⟨by rfl,by(intro W hSw;have hq:=keep_cell hSw yl;go_simp <;> with_reducible rfl)⟩ | exact Or.inr ⟨by rfl,rfl⟩)) (h:=?_)
       (try simp only [Act.put,sA,sB,sC])
       refine tk (i:=15) (h:=?_)
       (try simp only [Act.put,sA,sB,sC])
       refine tt_tail (by decide +kernel) ?_
       simp only [List.drop_succ_cons,List.drop_zero]
       go_wp2
       go_roundw
       case rel=>exact⟨k+1,by omega,by go_num,B10.out⟩
       case measure=>first | (simp [intOf];done) | (simp [intOf];omega)
end Go.Proofs.YtgoojkiccdjplaaGreatDoor
