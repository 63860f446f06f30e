/-
  Parts of this claim's texts, one behind the other: CQ. No condition.
-/
import Derived.Test.YtgoojkiccdjplaaGreatDoorM30
set_option linter.unusedVariables false
set_option linter.unusedSimpArgs false
set_option maxRecDepth 100000
set_option maxHeartbeats 16000000
namespace Go.Proofs.YtgoojkiccdjplaaGreatDoor
open Go.RowKit Go.Sort Go.Lib
theorem made17_any {w0:World} (hE:EnvT w0) (p r q:Nat) (S:TabD) (T0:TermD) (xs:List StepD) (a:Option Addr) (n c:Nat) (w:World) (hT:Two w0 p r q { T0 with X:=fun _=>False } w) (hI:MdI S T0 0) (hx:SlR repStep (fun k=>k<w0.heap.size) w0 a n xs) (hsm:∀s∈xs,SmallS s) (hn:n≤60) :
  Calls Tryz.prog 25 #[.pointer (some ⟨p,0,none⟩),.pointer (some ⟨r,0,none⟩),.slice a n c] w fun e w'=>MadeP w0 p r q S n e w':=by
 have hE':=hid hE
 have hx':=hid hx
 have lx:=hid hx.1
 have hsm':=hid hsm
 have T0':=hid hT
 have I0':=hid hI
 clear hE hx hsm hT hI
 go_enter Tryz.func25,Tryz.ntmps25
 go_wp2
 go_loopw [8,9,10,11,12,13,14,15,16,17] (fun v8 v9 _ _ _ _ _ _ _ _ wr=>∃(k:Nat) (T:TermD) (ids:List Int),k≤n∧v9 = .int .i64 k∧Hid (Two w0 p r q { T with X:=rowB v8 } wr)∧Hid (MdI S T k)∧ids.length=k∧Hid (∀i∈ids,-1≤i∧i<(T.nodes.length:Int))∧Hid (OwnC wr w0.heap.size 3 1 v8 ids.length (ids.map (Value.int .i64)))) (fun _ v9 _ _ _ _ _ _ _ _ _=>n - (intOf v9).toNat)
 case atStart=>exact⟨0,T0,[],Nat.zero_le _,rfl,T0'.out.sameX (fun k hk=>by simp [rowB,Value.ownBlock] at hk),I0'.out,rfl,fun i hi=>by simp at hi,OwnC.nil _ _ _ _⟩
 case round=>
  obtain ⟨k,T,ids,hk,rfl,hT,hM,rfl,hok,hO⟩:=hrel
  obtain ⟨wa,rfl⟩:∃wa,wa=wr:=⟨_,rfl⟩
  clear T0' I0'
  by_cases hkn:ids.length<n
  case neg=>
   obtain rfl:ids.length=n:=by omega
   have hni:¬(ids.length:Int)<ids.length:=by omega
   go_wp2
   go_ret2
   exact⟨T,ids,_,rfl,hT.out,hM.out,rfl,hok.out,hO.out⟩
  case pos=>
   have hki:(ids.length:Int)<n:=by omega
   have hkx:ids.length<xs.length:=by rw [lx.out];exact hkn
   have hxk:=List.getElem?_eq_getElem hkx
   have hss:=hid (hsm'.out _ (List.getElem_mem hkx))
   have hxr:=(hx'.out.below hT.out.st.b (Nat.le_refl _))
   obtain ⟨b1,o1,a',c',b',d',g',e',rfl,hs,hcs⟩:=hxr.stepAt hxk
   have q0:=hcs 0 _ rfl
   rw [Nat.add_zero] at q0
   have q1:=hcs 1 _ rfl
   have q2:=hcs 2 _ rfl
   have q3:=hcs 3 _ rfl
   have q4:=hcs 4 _ rfl
   have q5:=hcs 5 _ rfl
   have q6:=hcs 6 _ rfl
   have hs':=hid hs
   clear hxr hcs hxk hs
   generalize xs[ids.length]=sd at *
   clear hkx
   obtain ⟨op,nm,⟨ng,nu,de⟩,args,raw⟩:=sd
   dsimp only [stepC] at *
   have hxi:=hid (heap_alloc_new wa (.cells #[.int .i64 op,.string nm,.bool ng,.slice a' nu.length c',.slice b' de.length d',.slice g' args.length e',.bool raw] 136))
   have hBA:=hid (show Below wa.heap.size wa (wa.alloc (.cells #[.int .i64 op,.string nm,.bool ng,.slice a' nu.length c',.slice b' de.length d',.slice g' args.length e',.bool raw] 136)) from(Below.refl _ _).alloc (Nat.le_refl _) _)
   have hzA:=hid (World.size_alloc wa (.cells #[.int .i64 op,.string nm,.bool ng,.slice a' nu.length c',.slice b' de.length d',.slice g' args.length e',.bool raw] 136))
   go_wp2
   go_loopw [11,12,13] (fun v11 v12 _ wi=>∃(j:Nat) (out:List Int),j≤args.length∧v12 = .int .i64 j∧out.length=j∧Hid (∀i∈out,okI i)∧Hid (OwnC wi (wa.heap.size+1) 3 1 v11 out.length (out.map (Value.int .i64)))∧Hid (Below (wa.heap.size+1) (wa.alloc (.cells #[.int .i64 op,.string nm,.bool ng,.slice a' nu.length c',.slice b' de.length d',.slice g' args.length e',.bool raw] 136)) wi)) (fun _ v12 _ _=>args.length - (intOf v12).toNat)
   case atStart=>exact⟨0,[],Nat.zero_le _,rfl,rfl,fun i hi=>by simp at hi,OwnC.nil _ _ _ _,Below.refl _ _⟩
   case round=>
    obtain ⟨j,out,hj,rfl,rfl,hoo,hO2,hB2⟩:=hrel
    have hBi:=hid (hBA.out.trans (hB2.out.mono (by omega)))
    have hXi:=hid ((hB2.out.block wa.heap.size (by omega)).trans hxi.out)
    have x0:=cell_p hXi.out 0
    have x1:=cell_p hXi.out 1
    have x2:=cell_p hXi.out 2
    have x3:=cell_p hXi.out 3
    have x4:=cell_p hXi.out 4
    have x5:=cell_p hXi.out 5
    have x6:=cell_p hXi.out 6
    simp only [List.getElem?_toArray,List.getElem?_cons_succ,List.getElem?_cons_zero] at x0 x1 x2 x3 x4 x5 x6
    by_cases hja:out.length<args.length
    case pos=>
     have hji:(out.length:Int)<args.length:=by omega
     obtain ⟨a8,c8,rfl,_,_⟩:=hO.out.slice
     obtain ⟨a11,c11,rfl,hc11,hd11⟩:=hO2.out.slice
     obtain ⟨b9,o9,rfl,k9⟩:=hs'.out.args.toI.at out.length hja
     have k9':=keep_cell hBi.out k9
     have hnj:okI (nth args out.length):=hs'.out.args.toI.wf _ (nth_mem hja)
     have hl66:=hid hss.out.2.1
     clear k9
     generalize nth args out.length=x at *
     go_upto_region 11 with fail
     go_cut [47] from 40 to 47 (fun v47 wc=>(∃bb:Bool,(bb=true→0<ids.length)∧v47 = .bool bb)∧wc=wr)
     case first=>
      cases raw
      case true=>
       go_wp2
       go_meet
       case rel=>exact⟨⟨false,fun h=>(by cases h),rfl⟩,rfl⟩
      case false=>
       by_cases hid0:0<ids.length
       case neg=>
        have hid0i:¬(0:Int)<ids.length:=by omega
        have hid0d:decide ((0:Int)<ids.length)=false:=decide_eq_false hid0i
        go_wp2
        go_meet
        case rel=>exact⟨⟨false,fun h=>(by cases h),rfl⟩,rfl⟩
       case pos=>
        have hid0i:(0:Int)<ids.length:=by omega
        go_wp2
        go_meet
        case rel=>exact⟨⟨true,fun _=>hid0,rfl⟩,rfl⟩
     obtain ⟨⟨bb,hbb,rfl⟩,rfl⟩:=hcut
     obtain ⟨wr,rfl⟩:∃wr,wr=wc:=⟨_,rfl⟩
     have hbb':=hid hbb
     clear hbb
     go_upto_if 47 with fail
     go_cut [13] from 48 to 54 (fun v13 wc=>(∃x,okI x∧v13 = .int .i64 x)∧wc=wr)
     case first=>
      cases bb
      case false=>
       go_wp2
       go_meet
       case rel=>exact⟨⟨x,hnj,rfl⟩,rfl⟩
      case true=>
        have hid0:=hbb'.out rfl
        have hid0i:(0:Int)<ids.length:=by omega
        obtain ⟨g8,c8',hv8,_,_⟩:=hO.out.form hid0
        cases hv8
        have hcl:=hO.out.cells (g:=g8) rfl
        have hrn:=hid (rnd_any x ids.length wr hid0i (by omega))
        have hbd:=rndZ_bd x ids.length hid0i
        obtain ⟨t,ht⟩:=Int.eq_ofNat_of_zero_le hbd.1
        rw [ht] at hrn hbd
        have htn:t<ids.length:=by omega
        have hti:(t:Int)<ids.length:=hbd.2
        have hct:=keep_cell hBi.out (hcl t (.int .i64 (nth ids t)) (by rw [List.getElem?_map,List.getElem?_eq_getElem htn,nth_eq htn];rfl))
        have hnt:okI (nth ids t):=by have:=hok.out _ (nth_mem htn);have:=hM.out.g.ok.sm.le;unfold okI;omega
        clear hcl hbd ht
        generalize nth ids t=y at *
        go_wp2_with fail
        refine hrn.out.mono ?_;rintro e w2 ⟨rfl,rfl⟩
        go_wp2
        go_meet
        case rel=>exact⟨⟨y,hnt,rfl⟩,rfl⟩
     case rest=>
      obtain ⟨⟨y,hy,rfl⟩,rfl⟩:=hcut
      obtain ⟨i0,hi0,hz0,hz1,hz2⟩:=info_parts info_int
      have hl66':=hl66.out
      dsimp only at hl66'
      go_wp2_with (at_builtin;refine wpList_append_C rfl (.tmp 55) (.tmp 57) rfl Tryz.underlying23 hi0 hz0 hz1 hz2 rfl (by decide) rfl rfl (hO2.out.alloc _) (Src.one (b:=wc.heap.size) (news:=[.int .i64 y]) rfl ?c1) ?c2 ?c3 ?c4 ?c5 ?_)
      (try case c1=>intro j u hu;rw [World.cell?_alloc_new];simpa using hu)
      case c2=>first | rfl | (intro u hu;simp at hu;subst hu;rfl)
      case c3=>unfold maxLen;omega
      case c4=>omega
      case c5=>have:=hB2.out.size;have:=hzA.out;first | omega | (simp;omega)
      intro v' w6 ho6 hg6 hl6
      have B6:=hid (show Below (wa.heap.size+1) _ w6 from hB2.out.trans (((Below.refl _ _).alloc (by have:=hB2.out.size;have:=hzA.out;omega) _).trans ((Below.refl _ _).grown hg6 (by have:=hB2.out.size;have:=hzA.out;first | omega | (simp;omega)) (fun k hk=>(hO2.out.lt k hk).1))))
      have O6:=hid (show OwnC w6 (wa.heap.size+1) 3 1 v' (out ++ [y]).length ((out ++ [y]).map (Value.int .i64)) from by rw [List.length_append,List.length_singleton,List.map_append];exact ho6)
      clear ho6 hg6 hl6
      go_wp2
      go_roundw
      case rel=>exact⟨out.length+1,out ++ [y],by omega,by go_num,by simp,fun i hi=>by
       rcases List.mem_append.1 hi with hi | hi
       ·exact hoo.out i hi
       ·obtain rfl:=List.mem_singleton.1 hi;exact hy,O6.out,B6.out⟩
      case measure=>first | (simp [intOf];done) | (simp [intOf];omega)
    case neg=>
     have hja':¬(out.length:Int)<args.length:=by omega
     obtain ⟨a8,c8,rfl,_,_⟩:=hO.out.slice
     obtain ⟨a11,c11,rfl,hc11,hd11⟩:=hO2.out.slice
     have hXf:=(Array.getElem?_eq_some_iff.1 hXi.out).1
     have T1:=hid (hT.out.more (Y:=fun k=>rowB (.slice a8 ids.length c8) k∨rowB (.slice a11 out.length c11) k) hBi.out (fun k hk=>hk.imp (fun h=>h) fun h=>⟨by have:=(hO2.out.lt k h).1;omega,hO2.out.ty k h⟩))
     have O8:=hid (hO.out.same fun k hk=>hBi.out.block k (hO.out.lt k hk).2)
     have N1:=hid (hs'.out.num.lowB (hBi.out.mono hT.out.st.b.size))
     have D1:=hid (hs'.out.den.lowB (hBi.out.mono hT.out.st.b.size))
     have hmk:=make_any w0.heap.size p { T with X:=fun k=>rowB (.slice a8 ids.length c8) k∨rowB (.slice a11 out.length c11) k } op nm ⟨ng,nu,de⟩ out a' b' a11 c' d' c11 wr T1.out.st.t (hM.out.g.ok.sm.X _) (T1.out.st.env hE'.out) ⟨N1.out.mono fun _ _ _=>trivial,D1.out.mono fun _ _ _=>trivial,OwnC.datX hO2.out hoo.out,hs'.out.nc,hs'.out.dc,⟨hc11,hd11⟩,by have:=hss.out.2.2.1;dsimp only at this ⊢;omega,by have:=hss.out.1;dsimp only at this ⊢;omega,hs'.out.op,fun _=>by have:=hss.out.2.2.2;dsimp only at this ⊢;omega⟩
     unfold MakePost at hmk
     rw [makeD_X] at hmk
     have hrk:=fun(W:World) (m2:RTm (fun k=>rowB (.slice a8 ids.length c8) k∨rowB (.slice a11 out.length c11) k) w0.heap.size r q T.S T.nodes W) (ra:RArgs w0.heap.size (fun k=>rowB (.slice a8 ids.length c8) k∨rowB (.slice a11 out.length c11) k) W ⟨ng,nu,de⟩ out op a' b' a11 c' d' c11)=>rmake_any T op nm ⟨ng,nu,de⟩ out a' b' a11 c' d' c11 W m2 hM.out.ti T1.out.st.t.srts.1 T1.out.st.t.srts.2 ra
     unfold RMakePost at hrk
     have M3:=hid (hM.out.make op nm ⟨ng,nu,de⟩ out hss.out.2.2.1 hss.out.2.2.2 hss.out.1)
     have hid3:=hid (make_has hM.out.ti (op:=op) (nm:=nm) (val:=⟨ng,nu,de⟩) (args:=out))
     have hgl3:=hid (hM.out.g.make op (nm:=nm) (val:=⟨ng,nu,de⟩) out (by have:=hss.out.2.2.1;dsimp only at this ⊢;omega) (by have:=hss.out.2.2.2;dsimp only at this ⊢;omega) (by have:=hss.out.1;dsimp only at this ⊢;omega)).len
     have hwz:=hid hT.out.st.b.size
     have hmk':=hid hmk
     have hrk':=hid hrk
     clear hmk hrk
     generalize makeD T op nm ⟨ng,nu,de⟩ out=M at *
     obtain ⟨⟨id,er⟩,T3⟩:=M
     dsimp only at hmk' hrk' M3 hid3 hgl3
     have hl66:=hid hss.out.2.1
     have hn8:=hid hss.out.2.2.1
     have hd8:=hid hss.out.2.2.2
     have hop:=hid hs'.out.op
     have hnc:=hid hs'.out.nc
     have hdc:=hid hs'.out.dc
     have hts:=hid (show T3.S=T.S from M3.out.s.trans hM.out.s.symm)
     clear hss hs' q0 q1 q2 q3 q4 q5 q6 hxi hBA hzA hM hsm' hx' lx hO hT hBi
     go_wp2_with fail
     refine hmk'.out.mono ?_;rintro e w2 ⟨rfl,t2,s2⟩
     have J2:=hid (T1.out.tstep s2)
     have S2:=hid (T1.out.st.step t2 s2)
     have hX2:=hid ((T1.out.st.t.stay s2 ⟨_,_,hXi.out⟩ (by decide) (by decide) (by decide)).trans hXi.out)
     have P8:=hid (OwnC.tstep O8.out T1.out.st (fun k hk=>.inl hk) s2)
     have P11:=hid (OwnC.tstep (hO2.out.lower (base':=w0.heap.size) (by have:=hwz.out;omega)) T1.out.st (fun k hk=>.inr hk) s2)
     have N2:=hid (N1.out.lowB (T1.out.st.t.stepBelow s2))
     have D2:=hid (D1.out.lowB (T1.out.st.t.stepBelow s2))
     clear t2 s2 hmk' T1 O8 hO2 N1 D1 hXi hB2 x0 x1 x2 x3 x4 x5 x6
     have x0:=cell_p hX2.out 0
     have x1:=cell_p hX2.out 1
     have x2:=cell_p hX2.out 2
     have x3:=cell_p hX2.out 3
     have x4:=cell_p hX2.out 4
     have x5:=cell_p hX2.out 5
     have x6:=cell_p hX2.out 6
     simp only [List.getElem?_toArray,List.getElem?_cons_succ,List.getElem?_cons_zero] at x0 x1 x2 x3 x4 x5 x6
     have hrm:=hid (hrk'.out w2 J2.out.1 ⟨N2.out.mono fun _ _ h=>.inl h,D2.out.mono fun _ _ h=>.inl h,OwnC.rdX P11.out hoo.out,hnc.out,hdc.out,⟨hc11,hd11⟩,by have:=hn8.out;dsimp only at this ⊢;omega,by have:=hd8.out;dsimp only at this ⊢;omega,by have:=hl66.out;change args.length≤66 at this;show out.length≤_;omega,hop.out⟩)
     clear hrk'
     go_wp2_with fail
     refine hrm.out.mono ?_;rintro e w3 ⟨rfl,m3,s3⟩
     have Q3:=hid (Two.rstep (T':={ T with X:=fun k=>rowB (.slice a8 ids.length c8) k∨rowB (.slice a11 out.length c11) k }) S2.out J2.out.1 J2.out.2.1 J2.out.2.2 s3 (by show RTm _ _ _ _ T3.S _ _;rw [hts.out];exact m3))
     have R8:=hid (P8.out.rstep J2.out.1.hd s3)
     clear m3 s3 hrm S2 J2 N2 D2 P8 P11 hX2 x0 x1 x2 x3 x4 x5 x6
     have hln:=hid (fun(W:World) (hb:Below w3.heap.size w3 W)=>show Calls Tryz.prog 46 #[.pointer (some ⟨p,0,none⟩)] W fun e w'=>e = .returned (.int .i64 T3.nodes.length)∧w'=W from(len_any w0.heap.size p _ W (Q3.out.st.t.all hb)).mono fun _ _ h=>⟨h.1,h.2.symm⟩)
     obtain ⟨u1,aL,cL,b9,hcr,_⟩:=Q3.out.m.rd
     have hcl:=cell_p hcr 1
     simp only [List.getElem?_toArray,List.getElem?_cons_succ,List.getElem?_cons_zero] at hcl
     (try dsimp only at hcl)
     clear hcr
     go_wp2
     go_quiet ((go_at_call 46;exact Calls.quiet_of_same (hln.out _ ((Below.refl _ _).drewN _))))
     have Q4:=hid ((Q3.out.all ((Below.refl _ _).drewN nq)).sameX (T:=T3) (Y:=rowB (.slice a8 ids.length c8)) fun k hk=>.inl hk)
     have R4:=hid (R8.out.drewN nq)
     clear Q3 R8 hln hcl
     generalize w3.drewN nq=w4 at *
     have hw4:=hid Q4.out.st.b.size
     obtain ⟨i0,hi0,hz0,hz1,hz2⟩:=info_parts info_int
     by_cases her:er=0
     case pos=>
      subst her
      go_wp2_with (at_builtin;refine wpList_append_C rfl (.tmp 103) (.tmp 105) rfl Tryz.underlying23 hi0 hz0 hz1 hz2 rfl (by decide) rfl rfl (R4.out.alloc _) (Src.one (b:=w4.heap.size) (news:=[.int .i64 id]) rfl ?y1) ?y2 ?y3 ?y4 ?y5 ?_)
      (try case y1=>intro j u hu;rw [World.cell?_alloc_new];simpa using hu)
      (try case y2=>first | rfl | (intro u hu;simp at hu;subst hu;rfl))
      (try case y3=>unfold maxLen;omega)
      (try case y4=>omega)
      (try case y5=>have:=hw4.out;first | omega | (simp;omega))
      intro v' w6 ho6 hg6 hl6
      have B5:Below w4.heap.size w4 (w4.alloc (.cells #[.int .i64 id] 3)):=(Below.refl _ _).alloc (Nat.le_refl _) _
      have O6:=hid (show OwnC w6 w0.heap.size 3 1 v' (ids ++ [id]).length ((ids ++ [id]).map (Value.int .i64)) from by rw [List.length_append,List.length_singleton,List.map_append];exact ho6)
      have Q6:=hid ((Q4.out.all B5).push (R4.out.alloc _) hg6 ho6 (hl6.imp (fun h=>h) fun h k hk=>by rw [World.size_alloc];exact h k hk))
      clear ho6 hg6 hl6 B5
      go_wp2
      go_roundw
      case rel=>exact⟨ids.length+1,T3,ids ++ [id],by omega,by go_num,Q6.out,M3.out,by simp,fun i hi=>by
       rcases List.mem_append.1 hi with hi | hi
       ·have:=hok.out i hi;have:=hgl3.out;omega
       ·obtain rfl:=List.mem_singleton.1 hi;have:=hasT_iff.1 (hid3.out (by first | rfl | trivial));omega,O6.out⟩
      case measure=>first | (simp [intOf];done) | (simp [intOf];omega)
     case neg=>
      have heb:(er == 0)=false:=by simpa using her
      go_wp2_with (at_builtin;refine wpList_append_C rfl (.tmp 103) (.tmp 105) rfl Tryz.underlying23 hi0 hz0 hz1 hz2 rfl (by decide) rfl rfl (R4.out.alloc _) (Src.one (b:=w4.heap.size) (news:=[.int .i64 (-1)]) rfl ?z1) ?z2 ?z3 ?z4 ?z5 ?_)
      (try case z1=>intro j u hu;rw [World.cell?_alloc_new];simpa using hu)
      (try case z2=>first | rfl | (intro u hu;simp at hu;subst hu;rfl))
      (try case z3=>unfold maxLen;omega)
      (try case z4=>omega)
      (try case z5=>have:=hw4.out;first | omega | (simp;omega))
      intro v' w6 ho6 hg6 hl6
      have B5:Below w4.heap.size w4 (w4.alloc (.cells #[.int .i64 (-1)] 3)):=(Below.refl _ _).alloc (Nat.le_refl _) _
      have O6:=hid (show OwnC w6 w0.heap.size 3 1 v' (ids ++ [(-1)]).length ((ids ++ [(-1)]).map (Value.int .i64)) from by rw [List.length_append,List.length_singleton,List.map_append];exact ho6)
      have Q6:=hid ((Q4.out.all B5).push (R4.out.alloc _) hg6 ho6 (hl6.imp (fun h=>h) fun h k hk=>by rw [World.size_alloc];exact h k hk))
      clear ho6 hg6 hl6 B5
      go_wp2
      go_roundw
      case rel=>exact⟨ids.length+1,T3,ids ++ [(-1)],by omega,by go_num,Q6.out,M3.out,by simp,fun i hi=>by
       rcases List.mem_append.1 hi with hi | hi
       ·have:=hok.out i hi;have:=hgl3.out;omega
       ·obtain rfl:=List.mem_singleton.1 hi;omega,O6.out⟩
      case measure=>first | (simp [intOf];done) | (simp [intOf];omega)
end Go.Proofs.YtgoojkiccdjplaaGreatDoor
