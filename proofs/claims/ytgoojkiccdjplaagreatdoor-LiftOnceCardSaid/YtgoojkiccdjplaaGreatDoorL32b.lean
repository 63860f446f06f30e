/-
  Parts of this claim's texts, one behind the other: DT. No condition.
-/
import Derived.Test.YtgoojkiccdjplaaGreatDoorL32
set_option linter.unusedVariables false
set_option linter.unusedSimpArgs false
set_option maxRecDepth 100000
set_option maxHeartbeats 16000000
namespace Go.Proofs.YtgoojkiccdjplaaGreatDoor
open Go.RowKit Go.Sort Go.Lib
theorem within16_any (B p:Nat) (T:TermD) (a:Option Addr) (n c:Nat) (ids:List Int) (w:World) (hT:TermX B p T w) (hG:TermG T) (hx:RdI w a n ids) (hn:n≤1000000) :
  Calls Tryz.prog 19 #[.pointer (some ⟨p,0,none⟩),.slice a n c] w fun e w'=>WithinP T ids w e w':=by
 have hle:=hG.ok.sm.le
 obtain ⟨w1,hmk,o1,b1⟩:=make_bools T.nodes.length w.heap.size w (by omega) (Nat.le_refl _)
 have hT':=hid hT
 have hG':=hid hG
 have hlx:=hid hx.len
 have S1:=hid (hx.src.keep b1)
 have I1:=hid (WiI.start (T:=T) hx.wf)
 have O1:=hid o1
 have B1:=hid b1
 have hln:=hid (len_any B p T w hT)
 clear hT hG hx o1 b1
 go_enter Tryz.func19,Tryz.ntmps19
 go_wp2_with fail
 refine hln.out.mono ?_;rintro e w2 ⟨rfl,hww⟩
 subst hww
 clear hln
 obtain ⟨i0,hi0,hz0,hz1,hz2⟩:=info_parts info_int
 go_wp2_with (at_builtin;refine wpList_append_C rfl (.tmp 14) (.tmp 15) rfl Tryz.underlying23 hi0 hz0 hz1 hz2 rfl (by decide) rfl rfl (OwnC.lit0 (base:=w1.heap.size) rfl (Nat.le_refl _)) (S1.out.keep ((Below.refl _ _).alloc (Nat.le_refl _) _)) ?c2 ?c3 ?c4 ?c5 ?_)
 case c2=>intro u hu;obtain ⟨x,_,rfl⟩:=List.mem_map.1 hu;rfl
 case c3=>unfold maxLen;omega
 case c4=>omega
 case c5=>first | omega | (simp;omega) | simp
 intro v' w3 ho3 hg3 hl3
 have B3:Below w1.heap.size w1 w3:=((Below.refl _ _).alloc (Nat.le_refl _) _).trans ((Below.refl _ _).grown hg3 (by simp) (fun k hk=>by simp [Value.ownBlock] at hk;omega))
 have O3:=hid (O1.out.same (B3.block _ O1.out.lt))
 have P3:=hid (show OwnC w3 w.heap.size 3 1 v' ids.length (ids.map (Value.int .i64)) from by rw [hlx.out];first | exact ho3.lower B1.out.size | (rw [Nat.zero_add,List.nil_append] at ho3;exact ho3.lower B1.out.size))
 have B3':=hid (B1.out.trans (B3.mono B1.out.size))
 obtain ⟨a7,c7,rfl,_,_⟩:=P3.out.slice
 clear ho3 hg3 hl3 B3 O1 B1 S1
 go_wp2
 go_loopw [6,7,8,9,10] (fun v6 v7 _ _ _ wr=>∃(out td:List Int) (n7:Nat) (a6:Option Addr) (c6:Nat) (a7:Option Addr) (c7:Nat),v6 = .slice a6 out.length c6∧v7 = .slice a7 n7 c7∧Hid (td.length=n7)∧Hid (OwnC wr w.heap.size 3 1 (.slice a6 out.length c6) out.length (out.map (Value.int .i64)))∧Hid (OwnC wr w.heap.size 3 1 (.slice a7 n7 c7) n7 (td.map (Value.int .i64)))∧Hid (∀k,(Value.slice a6 out.length c6).ownBlock=some k→(Value.slice a7 n7 c7).ownBlock≠some k)∧Hid (OwnF wr w.heap.size w.heap.size T.nodes.length (fun j=>out.contains (j:Int)))∧Hid (Below w.heap.size w wr)∧Hid (WiI T ids out td)) (fun v6 v7 _ _ _ _=>65 * (T.nodes.length - lenV v6)+lenV v7)
 case atStart=>exact⟨[],ids,ids.length,none,0,a7,c7,rfl,by rfl,rfl,OwnC.nil _ _ _ _,P3.out,fun k hk=>by simp [Value.ownBlock] at hk,O3.out.congr fun j _=>by simp,B3'.out,I1.out⟩
 case round=>
  obtain ⟨out,td,n7,a6,c6,a7,c7,rfl,rfl,hl7,hO,hP,hA,hF,hB,hI⟩:=hrel
  clear P3 O3 B3' I1 hmk
  by_cases hz:0<n7
  case neg=>
   obtain rfl:n7=0:=by omega
   have:=hl7.out
   obtain rfl:td = []:=List.eq_nil_of_length_eq_zero this
   clear this
   go_wp2
   go_ret
   exact⟨out,_,_,rfl,hO.out,hB.out,hI.out.done⟩
  case pos=>
   obtain ⟨m,rfl⟩:∃m,n7=m+1:=⟨n7 - 1,by omega⟩
   obtain ⟨t2,x,rfl⟩:∃t2 x,td=t2 ++ [x]:=by
    rcases List.eq_nil_or_concat td with h | ⟨t2,x,h⟩
    ·have:=hl7.out;rw [h] at this;simp at this
    ·exact⟨t2,x,by rw [h];simp⟩
   have hm:=hid (show t2.length=m from by have:=hl7.out;rw [List.length_append,List.length_singleton] at this;omega)
   obtain ⟨g7,c7',hv7,_,_⟩:=hP.out.form hz
   cases hv7
   have hcx:=hP.out.cells (g:=g7) rfl m (.int .i64 x) (by rw [List.getElem?_map,←hm.out,List.getElem?_append_right (Nat.le_refl _),Nat.sub_self];rfl)
   have hc7:m+1≤c7:=hP.out.slice.elim fun a h=>h.elim fun c h=>by obtain ⟨h1,h2,_⟩:=h;cases h1;exact h2
   have hP2:=hid (show OwnC wr w.heap.size 3 1 (.slice (some ⟨g7,0,none⟩) m c7) m (t2.map (Value.int .i64)) from by
    have:=hP.out.cut (k:=m) (c':=c7) (by omega) (by omega) (Nat.le_refl _)
    rw [Nat.mul_one,List.map_append,List.take_append_of_le_length (by rw [List.length_map,hm.out];exact Nat.le_refl _),List.take_of_length_le (by rw [List.length_map,hm.out];exact Nat.le_refl _)] at this
    exact this)
   have hA2:=hid (show ∀k,(Value.slice a6 out.length c6).ownBlock=some k→k≠g7 from fun k hk e=>hA.out k hk (by rw [e];rfl))
   have hxo:=hI.out.ok x (by simp)
   have hmb:m≤3000000:=by
    have h1:=hI.out.ln
    have h2:=hI.out.few
    have h3:=hl7.out
    have h4:=hlx.out
    omega
   clear hl7 hP hA
   by_cases hx0:x<0
   case pos=>
    have hI2:=hid (hI.out.skip (.inl (by cases hh:hasT T x with | false=>rfl | true=>have:=hasT_iff.1 hh;omega)) hG'.out.ok.ord)
    go_wp2
    go_roundw
    case rel=>exact⟨out,t2,m,a6,c6,_,c7,rfl,rfl,hm.out,hO.out,hP2.out,fun k hk e=>hA2.out k hk (by injection e with e;exact e.symm),hF.out,hB.out,hI2.out⟩
    case measure=>simp only [lenV];omega
   case neg=>
   obtain ⟨j,rfl⟩:=Int.eq_ofNat_of_zero_le (show 0≤x by omega)
   by_cases hjN:j<T.nodes.length
   case neg=>
    have hI2:=hid (hI.out.skip (.inl (by cases hh:hasT T (j:Int) with | false=>rfl | true=>have:=hasT_iff.1 hh;omega)) hG'.out.ok.ord)
    have hjNi:(T.nodes.length:Int)≤j:=by omega
    go_wp2
    go_roundw
    case rel=>exact⟨out,t2,m,a6,c6,_,c7,rfl,rfl,hm.out,hO.out,hP2.out,fun k hk e=>hA2.out k hk (by injection e with e;exact e.symm),hF.out,hB.out,hI2.out⟩
    case measure=>simp only [lenV];omega
   case pos=>
    have hjNi:¬(T.nodes.length:Int)≤j:=by omega
    have hjNj:(j:Int)<T.nodes.length:=by omega
    have hjNd:decide ((T.nodes.length:Int)≤j)=false:=decide_eq_false hjNi
    have hFj:=hF.out.cell hjN
    have hFz:=hF.out.frz j
    cases hcon:out.contains (j:Int)
    case true=>
     have hI2:=hid (hI.out.skip (.inr (by simpa using hcon)) hG'.out.ok.ord)
     rw [hcon] at hFj
     clear hcon
     go_wp2
     go_roundw
     case rel=>exact⟨out,t2,m,a6,c6,_,c7,rfl,rfl,hm.out,hO.out,hP2.out,fun k hk e=>hA2.out k hk (by injection e with e;exact e.symm),hF.out,hB.out,hI2.out⟩
     case measure=>simp only [lenV];omega
    case false=>
     have hhas:hasT T (j:Int)=true:=hasT_iff.2 ⟨by omega,by omega⟩
     have hng:=hG'.out.at hjN
     have hnj:=nodeAt_nat hjN
     have hI2:=hid (hI.out.take hhas (by simpa using hcon) hng.args (fun a ha=>by
      have h1:=ord_at hG'.out.ok.ord ha
      have h2:=h1.2 (by omega)
      unfold okI;omega))
     have hal:=hid hng.args
     rw [hcon] at hFj
     have hne6:=hid (show ∀k,(Value.slice a6 out.length c6).ownBlock=some k→k≠w.heap.size from fun k hk e=>by
      obtain ⟨cs,f,hc⟩:=hO.out.ty k hk
      obtain ⟨_,cur,hc2,_⟩:=hF.out
      subst e
      rw [hc] at hc2
      injection hc2 with hc2;injection hc2 with _ hc2;exact absurd hc2 (by decide))
     have hne7:=hid (show g7≠w.heap.size from fun e=>by
      obtain ⟨cs,f,hc⟩:=hP2.out.ty g7 rfl
      obtain ⟨_,cur,hc2,_⟩:=hF.out
      subst e
      rw [hc] at hc2
      injection hc2 with hc2;injection hc2 with _ hc2;exact absurd hc2 (by decide))
     have FS:=hid ((hF.out.set (j:=j) true).congr (f':=fun i=>(out ++ [(j:Int)]).contains (i:Int)) fun i _=>by
      by_cases e:i=j
      ·subst e;simp
      ·have:¬(i:Int)=j:=by omega
       simp [e,this])
     have BS:=hid (hB.out.setCell (p:=⟨w.heap.size,j,none⟩) (Nat.le_refl _) (.bool true))
     have OS:=hid (hO.out.same (w':=wr.setCell ⟨w.heap.size,j,none⟩ (.bool true)) fun k hk=>Below.heap_setCell _ _ _ _ (fun e=>hne6.out k hk e))
     have PS:=hid (hP2.out.same (w':=wr.setCell ⟨w.heap.size,j,none⟩ (.bool true)) fun k hk=>Below.heap_setCell _ _ _ _ (fun e=>by injection hk with hk;exact hne7.out (hk.trans e)))
     have hfew:=hI.out.few
     clear hcon hng hnj hF hB hO hP2 hI
     go_upto_region 9 with fail
     generalize wr.setCell ⟨w.heap.size,j,none⟩ (.bool true)=ws at *
     go_wp2_with (at_builtin;refine wpList_append_C rfl (.tmp 48) (.tmp 50) rfl Tryz.underlying23 hi0 hz0 hz1 hz2 rfl (by decide) rfl rfl (OS.out.alloc _) (Src.one (b:=ws.heap.size) (news:=[.int .i64 j]) rfl ?d1) ?d2 ?d3 ?d4 ?d5 ?_)
     (try case d1=>intro j u hu;rw [World.cell?_alloc_new];simpa using hu)
     (try case d2=>first | rfl | (intro u hu;simp at hu;subst hu;rfl))
     (try case d3=>unfold maxLen;omega)
     (try case d4=>omega)
     (try case d5=>have:=BS.out.size;first | omega | (simp;omega))
     intro v6 w6 ho6 hg6 hl6
     have hzS:=BS.out.size
     have hA5:Below ws.heap.size ws (ws.alloc (.cells #[.int .i64 j] 3)):=(Below.refl _ _).alloc (Nat.le_refl _) _
     have g7l:=(PS.out.lt g7 rfl).2
     have b6:Below w.heap.size ws w6:=(hA5.mono hzS).trans ((Below.refl _ _).grown hg6 (by simp;omega) (fun k hk=>(OS.out.lt k hk).1))
     have O6:OwnC w6 w.heap.size 3 1 v6 (out ++ [(j:Int)]).length ((out ++ [(j:Int)]).map (Value.int .i64)):=by rw [List.length_append,List.length_singleton,List.map_append];exact ho6
     obtain ⟨a6',c6',rfl,_,_⟩:=O6.slice
     have P6:=PS.out.same (w':=w6) fun k hk=>by
      injection hk with hk
      subst hk
      exact(hg6.block _ (by simp;omega) (fun e=>hA2.out _ e.symm rfl)).trans (hA5.block _ g7l)
     have F6:=FS.out.same (w':=w6) ((hg6.block _ (by have:=FS.out.lt;simp;omega) (fun e=>hne6.out _ e.symm rfl)).trans (hA5.block _ FS.out.lt))
     have A6:∀k,(Value.slice a6' (out ++ [(j:Int)]).length c6').ownBlock=some k→k≠g7:=fun k hk=>by
      rcases hl6 with h | h
      ·exact hA2.out k (h ▸ hk)
      ·have:=h k hk;(try rw [World.size_alloc] at this);omega
     have B6:=BS.out.trans b6
     have hnd:=hid (node_any B p T j w6 (hT'.out.all B6) hjN hG'.out.ok.sn)
     have O6':=hid O6
     have P6':=hid P6
     have F6':=hid F6
     have A6':=hid A6
     have B6':=hid B6
     have g76:=hid (P6.lt g7 rfl).2
     clear ho6 hg6 hl6 hzS hA5 g7l b6 O6 P6 F6 A6 B6 OS PS FS BS hA2 hne6 hne7
     generalize nodeAt T (j:Int)=x at *
     obtain ⟨op,nm,⟨ng,nu,de⟩,args,so⟩:=x
     dsimp only at hI2 hal
     go_wp2_with fail
     refine hnd.out.mono ?_;rintro e w7 ⟨a9,c9,b9,d9,g9,e9,rfl,n9,hb9⟩
     have hbA:Below w7.heap.size w7 (w7.alloc (.cells #[.int .i64 op,.string nm,.bool ng,.slice a9 nu.length c9,.slice b9 de.length d9,.slice g9 args.length e9,.int .i64 so] 38)):=(Below.refl _ _).alloc (Nat.le_refl _) _
     have S9:=hid (n9.args.toI.src.keep hbA)
     have XA:=hid (heap_alloc_new w7 (.cells #[.int .i64 op,.string nm,.bool ng,.slice a9 nu.length c9,.slice b9 de.length d9,.slice g9 args.length e9,.int .i64 so] 38))
     have b7:Below w6.heap.size w6 (w7.alloc (.cells #[.int .i64 op,.string nm,.bool ng,.slice a9 nu.length c9,.slice b9 de.length d9,.slice g9 args.length e9,.int .i64 so] 38)):=hb9.trans (hbA.mono hb9.size)
     have O7:=hid (O6'.out.same fun k hk=>b7.block k (O6'.out.lt k hk).2)
     have P7:=hid (P6'.out.same fun k hk=>b7.block k (P6'.out.lt k hk).2)
     have F7:=hid (F6'.out.same (b7.block _ F6'.out.lt))
     have B7:=hid (B6'.out.trans (b7.mono B6'.out.size))
     clear n9 hb9 hbA b7 O6' P6' F6' B6' hnd
     go_upto_region 11 with fail
     generalize hw7:(w7.alloc (.cells #[.int .i64 op,.string nm,.bool ng,.slice a9 nu.length c9,.slice b9 de.length d9,.slice g9 args.length e9,.int .i64 so] 38))=wA at *
     have y5:wA.cell? ⟨w7.heap.size,5,none⟩=some (.slice g9 args.length e9):=cell_p XA.out 5
     clear hw7 XA
     have hal':=hal.out
     go_wp2_with (at_builtin;refine wpList_append_C rfl (.tmp 58) (.tmp 60) rfl Tryz.underlying23 hi0 hz0 hz1 hz2 rfl (by decide) rfl rfl P7.out S9.out ?e2 ?e3 ?e4 ?e5 ?_)
     (try case e2=>intro u hu;obtain ⟨x,_,rfl⟩:=List.mem_map.1 hu;rfl)
     (try case e3=>unfold maxLen;omega)
     (try case e4=>omega)
     (try case e5=>exact B7.out.size)
     intro v7 w8 ho8 hg8 hl8
     obtain ⟨a7',c7',rfl,_,_⟩:=ho8.slice
     have b8:Below w.heap.size wA w8:=(Below.refl _ _).grown hg8 B7.out.size (fun k hk=>(P7.out.lt k hk).1)
     have O8:=hid (O7.out.same (w':=w8) fun k hk=>hg8.block k (O7.out.lt k hk).2 (fun e=>A6'.out k hk (Option.some.inj (show some k=some g7 from e))))
     have F8:=hid (F7.out.same (w':=w8) (hg8.block _ F7.out.lt (fun e=>by
      obtain ⟨cs,f,hc⟩:=P7.out.ty g7 rfl
      obtain ⟨_,cur,hc2,_⟩:=F7.out
      have e:g7=w.heap.size:=(Option.some.inj (show some w.heap.size=some g7 from e)).symm
      rw [e] at hc
      rw [hc] at hc2
      injection hc2 with hc2;injection hc2 with _ hc2;exact absurd hc2 (by decide))))
     have B8:=hid (B7.out.trans b8)
     have P8:=hid (show OwnC w8 w.heap.size 3 1 (.slice a7' (m+args.length) c7') (m+args.length) ((t2++args).map (Value.int .i64)) from by rw [List.map_append];exact ho8)
     have A8:=hid (show ∀k,(Value.slice a6' (out ++ [(j:Int)]).length c6').ownBlock=some k→(Value.slice a7' (m+args.length) c7').ownBlock≠some k from fun k hk e=>by
      rcases hl8 with h | h
      ·rw [h] at e;injection e with e;exact A6'.out k hk e.symm
      ·have:=h k e;have:=(O7.out.lt k hk).2;omega)
     clear ho8 hg8 hl8 b8 O7 P7 F7 B7 S9
     go_wp2
     go_roundw
     case rel=>exact⟨out ++ [(j:Int)],t2++args,m+args.length,a6',c6',a7',c7',by first | rfl | (congr 1;simp),rfl,(by rw [List.length_append,hm.out];exact hid rfl),O8.out,P8.out,A8.out,F8.out,B8.out,hI2.out⟩
     case measure=>have hf2:=hI2.out.few;rw [List.length_append,List.length_singleton] at hf2;simp only [lenV,List.length_append,List.length_singleton] at *;omega
end Go.Proofs.YtgoojkiccdjplaaGreatDoor
