/-
  Parts of this claim's texts, one behind the other: UM DO. No condition.
-/
import Derived.Test.YtgoojkiccdjplaaGreatDoorL22
import Derived.Test.YtgoojkiccdjplaaGreatDoorL27
set_option linter.unusedVariables false
set_option linter.unusedSimpArgs false
set_option maxRecDepth 100000
set_option maxHeartbeats 16000000
namespace Go.Proofs.YtgoojkiccdjplaaGreatDoor
open Go.RowKit Go.Sort Go.Lib
theorem declared16_any (w:World):Calls Tryz.prog 65 #[] w fun e w'=>DeclPost w e w':=by
 go_enter Tryz.func65,Tryz.ntmps65
 go_wp2
 go_ret
 have i1:=RdI.lit [1] 3 w (by simp)
 generalize h1:w.alloc (.cells #[.int .i64 1] 3)=w1 at *
 have i1':RdI w1 (some ⟨w.heap.size,0,none⟩) 1 [1]:=by rw [←h1];exact i1
 have s1:w1.heap.size=w.heap.size+1:=by rw [←h1];simp
 have b1:Below w.heap.size w w1:=by rw [←h1];exact(Below.refl _ _).alloc (Nat.le_refl _) _
 have i2:=RdI.lit [2,1] 3 w1 (by simp)
 generalize h2:w1.alloc (.cells #[.int .i64 2,.int .i64 1] 3)=w2 at *
 have i2':RdI w2 (some ⟨w.heap.size+1,0,none⟩) 2 [2,1]:=by rw [←h2,←s1];exact i2
 have s2:w2.heap.size=w.heap.size+1+1:=by rw [←h2];simp [s1]
 have b2:Below w1.heap.size w1 w2:=by rw [←h2];exact(Below.refl _ _).alloc (Nat.le_refl _) _
 have i3:=RdI.lit [2] 3 w2 (by simp)
 generalize h3:w2.alloc (.cells #[.int .i64 2] 3)=w3 at *
 have i3':RdI w3 (some ⟨w.heap.size+2,0,none⟩) 1 [2]:=by rw [←h3,show w.heap.size+2=w2.heap.size by omega];exact i3
 have s3:w3.heap.size=w.heap.size+1+1+1:=by rw [←h3];simp [s2]
 have b3:Below w2.heap.size w2 w3:=by rw [←h3];exact(Below.refl _ _).alloc (Nat.le_refl _) _
 have b4:Below w3.heap.size w3 (w3.alloc (.cells (declC w.heap.size).flatten.toArray 114)):=(Below.refl _ _).alloc (Nat.le_refl _) _
 have hg:=heap_alloc_new w3 (.cells (declC w.heap.size).flatten.toArray 114)
 rw [s3] at hg
 have b34:=b3.trans (b4.mono b3.size)
 have b24:=b2.trans (b34.mono b2.size)
 have hS:∀(k o:Nat) (n:Nat) (x:Addr),0<n→some (⟨w.heap.size+k,o,none⟩:Addr)=some x→w.heap.size≤x.block:=fun k o n x _ e=>by injection e with e;rw [←e];exact Nat.le_add_right _ _
 refine⟨rfl,SlR.ofCss (css:=declC w.heap.size) hg (by show w.heap.size≤_;omega) rfl (decl_rd (SlR.ofI (i1'.below b24 (Nat.le_refl _)) (fun x h e=>hS 0 0 1 x h e)) (SlR.ofI (i2'.below b34 (Nat.le_refl _)) (fun x h e=>hS 1 0 2 x h e)) (SlR.ofI (i3'.below b4 (Nat.le_refl _)) (fun x h e=>hS 2 0 1 x h e))),?_,?_⟩
 ·exact b1.trans (b24.mono b1.size)
 ·show(w3.heap.push _).size=_
  rw [Array.size_push,s3]
theorem tables16_any (w:World) (hE:Env w):Calls Tryz.prog 15 #[] w fun e w'=>TabsPost w e w':=by
 have hE':=hid hE
 have pos0:=hE.pos
 have htn:=hid (tnew_any w)
 clear hE
 go_enter Tryz.func15,Tryz.ntmps15
 go_wp2_with fail
 refine htn.out.mono ?_;rintro e w1 ⟨p,rfl,t1,b1⟩
 have I0:=hid (show Duo w p w1.heap.size ⟨[],[],[]⟩ (w1.alloc (.cells #[.slice none 0 0,.slice none 0 0,.slice none 0 0] 107)) from by
  have hB1:Below w1.heap.size w1 (w1.alloc (.cells #[.slice none 0 0,.slice none 0 0,.slice none 0 0] 107)):=(Below.refl _ _).alloc (Nat.le_refl _) _
  have hbq:=heap_alloc_new w1 (.cells #[.slice none 0 0,.slice none 0 0,.slice none 0 0] 107)
  refine⟨t1.all hB1,⟨b1.size,fun _ h=>h.elim,_,_,_,hbq,OwnR.nil _ _ _ _ _,OwnR.nil _ _ _ _ _,OwnR.nil _ _ _ _ _⟩,fun j hj=>?_,b1.trans (hB1.mono b1.size),hE'.out.all (b1.trans (hB1.mono b1.size))⟩
  have hjq:j=w1.heap.size:=by
   rcases (own3 hbq).1 hj with h | h | h | h
   ·exact h
   ·simp [Value.ownBlock] at h
   ·simp [Value.ownBlock] at h
   ·simp [Value.ownBlock] at h
  subst hjq
  refine⟨by simp,fun e=>?_⟩
  have:=(t1.ownB ((ownOf.same (hB1.block p t1.plt)).1 e)).2
  omega)
 clear t1 b1 htn
 go_wp2_with fail
 generalize (w1.alloc (.cells #[.slice none 0 0,.slice none 0 0,.slice none 0 0] 107))=w2 at *
 generalize w1.heap.size=q at *
 have hsp:=hid (sort_any w.heap.size p ⟨[],[],[]⟩ sU w2 I0.out.t I0.out.e (by decide))
 refine hsp.out.mono ?_;rintro e w3 h3
 obtain ⟨rfl,t3,s3⟩:=h3.yes bad7
 obtain ⟨r3,ap3,b3,e3⟩:=I0.out.step pos0 s3
 have J3:=hid (And.intro t3 (And.intro ap3 (And.intro b3 e3)))
 have R3:=hid r3
 have hrs:=hid (rsort_any w.heap.size q ⟨[],[],[]⟩ sU w3 r3 (by decide))
 clear h3 t3 s3 r3 ap3 b3 e3 hsp
 go_wp2_with fail
 refine hrs.out.mono ?_;rintro e w4 h4
 have h4y:e = .returned (.tuple #[.int .i64 2,.int .i64 0])∧RefX (fun _=>False) w.heap.size q (T7 0) w4∧PStep q w3 w4:=by
  unfold RSortPost at h4
  rw [if_neg (by rw [bad7];decide)] at h4
  exact⟨h4.1.1,h4.1.2,h4.2⟩
 obtain ⟨rfl,r4,s4⟩:=h4y
 have I4:=hid (Duo.step2 (T':=T7 0) pos0 J3.out.1 R3.out J3.out.2.1 J3.out.2.2.1 J3.out.2.2.2 r4 s4)
 have hdc:=hid (declared16_any w4)
 clear h4 r4 s4 J3 R3 hrs
 go_wp2_with fail
 refine hdc.out.mono ?_;rintro e w5 ⟨rfl,hl5,b5,z5⟩
 have I5:=hid (I4.out.all b5)
 have F5:=hid (show FreeS (fun k=>w4.heap.size≤k∧k<w5.heap.size) p q w5 from fun k hk=>⟨hk.2,fun e=>by
  have:=(I4.out.t.ownB ((ownOf.same (b5.block p I4.out.t.plt)).1 e)).2
  omega,fun e=>by
  have:=(I4.out.r.ownB ((ownOf.same (b5.block q I4.out.r.plt)).1 e)).2
  omega⟩)
 have L5:=hid (show SlR repF (fun k=>w4.heap.size≤k∧k<w5.heap.size) w5 (some ⟨w4.heap.size+3,0,none⟩) 10 declL from hl5.mono fun b hb hk=>⟨hk,hb⟩)
 clear hl5 b5 z5 hdc I0 I4
 go_wp2
 generalize w4.heap.size+3=g at *
 generalize hSS:(fun k=>w4.heap.size≤k∧k<w5.heap.size)=SS at *
 clear hSS
 go_loopw [5] (fun i wr=>∃k:Nat,k≤10∧i = .int .i64 k∧Hid (Duo w p q (T7 k) wr)∧Hid (FreeS SS p q wr)∧Hid (SlR repF SS wr (some ⟨g,0,none⟩) 10 declL)) (fun i _=>10 - (intOf i).toNat)
 case atStart=>exact⟨0,by omega,rfl,I5.out,F5.out,L5.out⟩
 case round=>
  obtain ⟨k,hk,rfl,hI,hF,hL⟩:=hrel
  by_cases hlt:k<10
  ·have hf:declL[k]? = some (declL[k]'(by show k<10;omega)):=List.getElem?_eq_getElem _
   generalize (declL[k]'(by show k<10;omega))=f at *
   obtain ⟨b,o,a',c',hgo,k0,k1,k2,ra,or,nc,_⟩:=hL.out.funAt hf
   cases hgo
   simp only [Nat.zero_add] at k0 k1 k2
   have hfa:f.args.length≤2:=by
    have:f∈declL:=List.mem_of_getElem? hf
    simp [declL] at this
    rcases this with rfl | rfl | rfl | rfl | rfl | rfl | rfl | rfl | rfl | rfl <;> decide
   obtain ⟨he,hadd⟩:=add7 hlt f hf
   have hki:(k:Int)<10:=by omega
   have hfn:=hid (fun_any w.heap.size p (T7 k) f a' c' wr hI.out.t (small7 k) hI.out.e ra.toI (by omega))
   have hadd':=hid hadd
   have he':=hid he
   have hf':=hid hf
   clear hf he hadd or
   go_wp2_with fail
   refine hfn.out.mono ?_;rintro e w6 ⟨rfl,t6,s6⟩
   rw [hadd'.out] at t6
   obtain ⟨r6,ap6,b6,e6⟩:=hI.out.step pos0 s6
   have hq6:=(s6.block q (hI.out.ap q (.inl rfl)).1 (hI.out.ap q (.inl rfl)).2).1
   obtain ⟨F6,K6⟩:=hF.out.stepP s6 hq6
   have L6:=hL.out.keep (fun b _ hb=>K6 b hb) s6.size
   obtain ⟨b',o',a6,c6,hgo,q0,q1,q2,ra6,_,nc6,_⟩:=L6.funAt hf'.out
   cases hgo
   simp only [Nat.zero_add] at q0 q1 q2
   have J6:=hid (And.intro t6 (And.intro ap6 (And.intro b6 e6)))
   have R6:=hid r6
   have F6':=hid F6
   have L6':=hid L6
   have hrf:=hid (rfun_any w.heap.size q (T7 k) f a6 c6 w6 r6 (small7 k) ra6.toI (by omega) nc6)
   clear t6 s6 r6 ap6 b6 e6 hq6 F6 K6 L6 hfn k0 k1 k2 ra
   go_wp2_with fail
   refine hrf.out.mono ?_;rintro e w7 ⟨rfl,r7,s7⟩
   rw [hadd'.out] at r7
   have I7:=hid (Duo.step2 (T':=T7 (k+1)) pos0 J6.out.1 R6.out J6.out.2.1 J6.out.2.2.1 J6.out.2.2.2 r7 s7)
   have hap:=J6.out.2.1.symm fun j hj=>(J6.out.1.ownB hj).2
   have hp7:=(s7.block p (hap p (.inl rfl)).1 (hap p (.inl rfl)).2).1
   obtain ⟨F7,K7⟩:=F6'.out.stepQ s7 hp7
   have F7':=hid F7
   have L7:=hid (L6'.out.keep (fun b _ hb=>K7 b hb) s7.size)
   clear r7 s7 hap hp7 F7 K7
   go_wp2
   go_roundw
   case rel=>exact⟨k+1,by omega,by go_num,I7.out,F7'.out,L7.out⟩
   case measure=>simp [intOf];omega
  ·have hk10:k=10:=by omega
   subst hk10
   have hnw:=hid (new_any w.heap.size p (T7 10) wr hI.out.t)
   go_wp2_with fail
   refine hnw.out.mono ?_;rintro e w8 ⟨rfl,hT8,b8⟩
   have T8:=hid hT8
   have B8:=hid (hI.out.b.trans (b8.mono hI.out.b.size))
   have hsz:=hI.out.b.size
   clear hT8 b8
   go_wp2
   go_ret2
   have hBA:Below w8.heap.size w8 (w8.alloc (.cells #[.pointer (some ⟨q,0,none⟩),.slice none 0 0,.int .i64 0] 51)):=(Below.refl _ _).alloc (Nat.le_refl _) _
   exact⟨_,_,rfl,(T8.out.lower hsz).all hBA,B8.out.trans (hBA.mono B8.out.size)⟩
theorem opens_step16:Opens Tryz.prog 120 repStep:=
 .map (fun s:StepD=>(s.op,s.name,s.val,s.args,s.raw)) (fun x=>⟨x.1,x.2.1,x.2.2.1,x.2.2.2.1,x.2.2.2.2⟩) (fun _=>rfl)
  (.struct Tryz.underlying120 (by kernel_rfl)
   (OpensF.cons rfl (.int Tryz.underlying3 (by kernel_rfl)) rfl
    (OpensF.cons rfl (.str Tryz.underlying9 (by kernel_rfl)) rfl
     (OpensF.cons rfl opens_rat rfl
      (OpensF.cons rfl (.slice (.int Tryz.underlying3 (by kernel_rfl)) Tryz.underlying23 (by kernel_rfl) (by decide)) rfl
       (OpensF.one rfl (.bool Tryz.underlying4 (by kernel_rfl))))))))
theorem opens_step16s:Opens Tryz.prog 22 (.slice repStep):=.slice opens_step16 Tryz.underlying22 (by kernel_rfl) (by decide)
theorem few16_any (a:Option Addr) (n c:Nat) (xs:List StepD) (w:World) (hx:SlR repStep (fun _=>True) w a n xs) (hn:n≤9223372036854775807) :
  Calls Tryz.prog 13 #[.slice a n c] w fun e w'=>FewP xs w e w':=by
 have hx':=hid hx
 have lx:=hid hx.1
 clear hx
 go_enter Tryz.func13,Tryz.ntmps13
 go_wp2
 go_loopw [2,3] (fun v2 v3 wr=>∃k:Nat,k≤n∧k≤70∧v2 = .bool false∧v3 = .int .i64 k∧Hid (∀j s,j<k→xs[j]? = some s→SmallS s)∧Hid (Below w.heap.size w wr)) (fun _ v3 _=>70 - (intOf v3).toNat)
 case atStart=>exact⟨0,Nat.zero_le _,by omega,rfl,rfl,fun j s hj=>absurd hj (by omega),Below.refl _ _⟩
 case round=>
  obtain ⟨k,hk,hk7,rfl,rfl,hall,hB⟩:=hrel
  by_cases hkn:k<n
  case neg=>
   obtain rfl:k=n:=by omega
   have h60:((k:Int)≤60)∨¬((k:Int)≤60):=by omega
   have hv:=hid (fun(h:decide ((k:Int)≤60)=true)=>show xs.length≤60∧∀s∈xs,SmallS s from by
    have h:=of_decide_eq_true h
    refine⟨by rw [lx.out];omega,fun s hs=>?_⟩
    obtain ⟨j,hj,rfl⟩:=List.getElem_of_mem hs
    exact hall.out j _ (by rw [lx.out] at hj;exact hj) (List.getElem?_eq_getElem hj))
   have hni:¬(k:Int)<k:=by omega
   go_wp2
   go_ret
   exact⟨_,rfl,fun h=>hv.out h,hB.out⟩
  case pos=>
   have hki:(k:Int)<n:=by omega
   by_cases hk70:k<70
   case neg=>
    have hki7:¬(k:Int)<70:=by omega
    have hk7d:decide ((k:Int)<70)=false:=decide_eq_false hki7
    have hn60:¬(n:Int)≤60:=by omega
    have hn60d:decide ((n:Int)≤60)=false:=decide_eq_false hn60
    go_wp2
    go_ret
    exact⟨false,rfl,fun h=>(by cases h),hB.out⟩
   case pos=>
    have hki7:(k:Int)<70:=by omega
    have hkx:k<xs.length:=by rw [lx.out];exact hkn
    have hxk:=List.getElem?_eq_getElem hkx
    obtain ⟨b1,o1,a',c',b',d',g',e',rfl,hs,hcs⟩:=hx'.out.stepAt hxk
    have q1:=keep_cell hB.out (hcs 1 _ rfl)
    have q2:=keep_cell hB.out (hcs 2 _ rfl)
    have q3:=keep_cell hB.out (hcs 3 _ rfl)
    have q4:=keep_cell hB.out (hcs 4 _ rfl)
    have q5:=keep_cell hB.out (hcs 5 _ rfl)
    have hnx:=hid (fun(h:SmallS xs[k])=>show ∀j s,j<k+1→xs[j]? = some s→SmallS s from fun j s hj hjs=>by
     by_cases e:j=k
     ·rw [e,hxk] at hjs;cases hjs;exact h
     ·exact hall.out j s (by omega) hjs)
    have hrt:=hid (alikeRat_any xs[k].val a' b' c' d' wr)
    clear hs hcs hxk
    generalize xs[k]=sd at *
    obtain ⟨op,nm,⟨ng,nu,de⟩,args,raw⟩:=sd
    dsimp only at *
    by_cases h1:nm.size≤100
    case neg=>
     have h1i:(100:Int)<nm.size:=by omega
     go_wp2
     go_ret
     exact⟨false,rfl,fun h=>(by cases h),hB.out⟩
    have h1i:¬(100:Int)<nm.size:=by omega
    have h1d:decide ((100:Int)<nm.size)=false:=decide_eq_false h1i
    by_cases h2:args.length≤66
    case neg=>
     have h2i:(66:Int)<args.length:=by omega
     go_wp2
     go_ret
     exact⟨false,rfl,fun h=>(by cases h),hB.out⟩
    have h2i:¬(66:Int)<args.length:=by omega
    have h2d:decide ((66:Int)<args.length)=false:=decide_eq_false h2i
    cases h3:(decide (nu.length≤8) && decide (de.length≤8))
    case false=>
     rw [h3] at hrt
     go_wp2_with fail
     refine hrt.out.mono ?_;rintro e w2 ⟨rfl,hb2⟩
     have B2:=hid (hB.out.trans (hb2.mono hB.out.size))
     clear hb2
     go_wp2
     go_ret
     exact⟨false,rfl,fun h=>(by cases h),B2.out⟩
    case true=>
     rw [h3] at hrt
     have hv:=hid (hnx.out ⟨h1,h2,by simp at h3;exact h3.1,by simp at h3;exact h3.2⟩)
     clear hnx h3
     go_wp2_with fail
     refine hrt.out.mono ?_;rintro e w2 ⟨rfl,hb2⟩
     have B2:=hid (hB.out.trans (hb2.mono hB.out.size))
     clear hb2
     go_wp2
     go_roundw
     case rel=>exact⟨k+1,by omega,by omega,rfl,by go_num,hv.out,B2.out⟩
     case measure=>first | (simp [intOf];done) | (simp [intOf];omega)
theorem tables16b_any (w:World) (hE:Env w):Calls Tryz.prog 15 #[] w fun e w'=>Tabs2 w e w':=by
 have hE':=hid hE
 have pos0:=hE.pos
 have htn:=hid (tnew_any w)
 clear hE
 go_enter Tryz.func15,Tryz.ntmps15
 go_wp2_with fail
 refine htn.out.mono ?_;rintro e w1 ⟨p,rfl,t1,b1⟩
 have I0:=hid (show Duo w p w1.heap.size ⟨[],[],[]⟩ (w1.alloc (.cells #[.slice none 0 0,.slice none 0 0,.slice none 0 0] 107)) from by
  have hB1:Below w1.heap.size w1 (w1.alloc (.cells #[.slice none 0 0,.slice none 0 0,.slice none 0 0] 107)):=(Below.refl _ _).alloc (Nat.le_refl _) _
  have hbq:=heap_alloc_new w1 (.cells #[.slice none 0 0,.slice none 0 0,.slice none 0 0] 107)
  refine⟨t1.all hB1,⟨b1.size,fun _ h=>h.elim,_,_,_,hbq,OwnR.nil _ _ _ _ _,OwnR.nil _ _ _ _ _,OwnR.nil _ _ _ _ _⟩,fun j hj=>?_,b1.trans (hB1.mono b1.size),hE'.out.all (b1.trans (hB1.mono b1.size))⟩
  have hjq:j=w1.heap.size:=by
   rcases (own3 hbq).1 hj with h | h | h | h
   ·exact h
   ·simp [Value.ownBlock] at h
   ·simp [Value.ownBlock] at h
   ·simp [Value.ownBlock] at h
  subst hjq
  refine⟨by simp,fun e=>?_⟩
  have:=(t1.ownB ((ownOf.same (hB1.block p t1.plt)).1 e)).2
  omega)
 clear t1 b1 htn
 go_wp2_with fail
 generalize (w1.alloc (.cells #[.slice none 0 0,.slice none 0 0,.slice none 0 0] 107))=w2 at *
 generalize w1.heap.size=q at *
 have hsp:=hid (sort_any w.heap.size p ⟨[],[],[]⟩ sU w2 I0.out.t I0.out.e (by decide))
 refine hsp.out.mono ?_;rintro e w3 h3
 obtain ⟨rfl,t3,s3⟩:=h3.yes bad7
 obtain ⟨r3,ap3,b3,e3⟩:=I0.out.step pos0 s3
 have J3:=hid (And.intro t3 (And.intro ap3 (And.intro b3 e3)))
 have R3:=hid r3
 have hrs:=hid (rsort_any w.heap.size q ⟨[],[],[]⟩ sU w3 r3 (by decide))
 clear h3 t3 s3 r3 ap3 b3 e3 hsp
 go_wp2_with fail
 refine hrs.out.mono ?_;rintro e w4 h4
 have h4y:e = .returned (.tuple #[.int .i64 2,.int .i64 0])∧RefX (fun _=>False) w.heap.size q (T7 0) w4∧PStep q w3 w4:=by
  unfold RSortPost at h4
  rw [if_neg (by rw [bad7];decide)] at h4
  exact⟨h4.1.1,h4.1.2,h4.2⟩
 obtain ⟨rfl,r4,s4⟩:=h4y
 have I4:=hid (Duo.step2 (T':=T7 0) pos0 J3.out.1 R3.out J3.out.2.1 J3.out.2.2.1 J3.out.2.2.2 r4 s4)
 have hdc:=hid (declared16_any w4)
 clear h4 r4 s4 J3 R3 hrs
 go_wp2_with fail
 refine hdc.out.mono ?_;rintro e w5 ⟨rfl,hl5,b5,z5⟩
 have I5:=hid (I4.out.all b5)
 have F5:=hid (show FreeS (fun k=>w4.heap.size≤k∧k<w5.heap.size) p q w5 from fun k hk=>⟨hk.2,fun e=>by
  have:=(I4.out.t.ownB ((ownOf.same (b5.block p I4.out.t.plt)).1 e)).2
  omega,fun e=>by
  have:=(I4.out.r.ownB ((ownOf.same (b5.block q I4.out.r.plt)).1 e)).2
  omega⟩)
 have L5:=hid (show SlR repF (fun k=>w4.heap.size≤k∧k<w5.heap.size) w5 (some ⟨w4.heap.size+3,0,none⟩) 10 declL from hl5.mono fun b hb hk=>⟨hk,hb⟩)
 clear hl5 b5 z5 hdc I0 I4
 go_wp2
 generalize w4.heap.size+3=g at *
 generalize hSS:(fun k=>w4.heap.size≤k∧k<w5.heap.size)=SS at *
 clear hSS
 go_loopw [5] (fun i wr=>∃k:Nat,k≤10∧i = .int .i64 k∧Hid (Duo w p q (T7 k) wr)∧Hid (FreeS SS p q wr)∧Hid (SlR repF SS wr (some ⟨g,0,none⟩) 10 declL)) (fun i _=>10 - (intOf i).toNat)
 case atStart=>exact⟨0,by omega,rfl,I5.out,F5.out,L5.out⟩
 case round=>
  obtain ⟨k,hk,rfl,hI,hF,hL⟩:=hrel
  by_cases hlt:k<10
  ·have hf:declL[k]? = some (declL[k]'(by show k<10;omega)):=List.getElem?_eq_getElem _
   generalize (declL[k]'(by show k<10;omega))=f at *
   obtain ⟨b,o,a',c',hgo,k0,k1,k2,ra,or,nc,_⟩:=hL.out.funAt hf
   cases hgo
   simp only [Nat.zero_add] at k0 k1 k2
   have hfa:f.args.length≤2:=by
    have:f∈declL:=List.mem_of_getElem? hf
    simp [declL] at this
    rcases this with rfl | rfl | rfl | rfl | rfl | rfl | rfl | rfl | rfl | rfl <;> decide
   obtain ⟨he,hadd⟩:=add7 hlt f hf
   have hki:(k:Int)<10:=by omega
   have hfn:=hid (fun_any w.heap.size p (T7 k) f a' c' wr hI.out.t (small7 k) hI.out.e ra.toI (by omega))
   have hadd':=hid hadd
   have he':=hid he
   have hf':=hid hf
   clear hf he hadd or
   go_wp2_with fail
   refine hfn.out.mono ?_;rintro e w6 ⟨rfl,t6,s6⟩
   rw [hadd'.out] at t6
   obtain ⟨r6,ap6,b6,e6⟩:=hI.out.step pos0 s6
   have hq6:=(s6.block q (hI.out.ap q (.inl rfl)).1 (hI.out.ap q (.inl rfl)).2).1
   obtain ⟨F6,K6⟩:=hF.out.stepP s6 hq6
   have L6:=hL.out.keep (fun b _ hb=>K6 b hb) s6.size
   obtain ⟨b',o',a6,c6,hgo,q0,q1,q2,ra6,_,nc6,_⟩:=L6.funAt hf'.out
   cases hgo
   simp only [Nat.zero_add] at q0 q1 q2
   have J6:=hid (And.intro t6 (And.intro ap6 (And.intro b6 e6)))
   have R6:=hid r6
   have F6':=hid F6
   have L6':=hid L6
   have hrf:=hid (rfun_any w.heap.size q (T7 k) f a6 c6 w6 r6 (small7 k) ra6.toI (by omega) nc6)
   clear t6 s6 r6 ap6 b6 e6 hq6 F6 K6 L6 hfn k0 k1 k2 ra
   go_wp2_with fail
   refine hrf.out.mono ?_;rintro e w7 ⟨rfl,r7,s7⟩
   rw [hadd'.out] at r7
   have I7:=hid (Duo.step2 (T':=T7 (k+1)) pos0 J6.out.1 R6.out J6.out.2.1 J6.out.2.2.1 J6.out.2.2.2 r7 s7)
   have hap:=J6.out.2.1.symm fun j hj=>(J6.out.1.ownB hj).2
   have hp7:=(s7.block p (hap p (.inl rfl)).1 (hap p (.inl rfl)).2).1
   obtain ⟨F7,K7⟩:=F6'.out.stepQ s7 hp7
   have F7':=hid F7
   have L7:=hid (L6'.out.keep (fun b _ hb=>K7 b hb) s7.size)
   clear r7 s7 hap hp7 F7 K7
   go_wp2
   go_roundw
   case rel=>exact⟨k+1,by omega,by go_num,I7.out,F7'.out,L7.out⟩
   case measure=>simp [intOf];omega
  ·have hk10:k=10:=by omega
   subst hk10
   have hnw:=hid (new_any w.heap.size p (T7 10) wr hI.out.t)
   go_wp2_with fail
   refine hnw.out.mono ?_;rintro e w8 ⟨rfl,hT8,b8⟩
   have T8:=hid hT8
   have R8:=hid (hI.out.r.all b8)
   have B8:=hid (hI.out.b.trans (b8.mono hI.out.b.size))
   have hsz:=hI.out.b.size
   clear hT8 b8
   go_wp2
   go_ret2
   have hBA:Below w8.heap.size w8 (w8.alloc (.cells #[.pointer (some ⟨q,0,none⟩),.slice none 0 0,.int .i64 0] 51)):=(Below.refl _ _).alloc (Nat.le_refl _) _
   have hBr:=heap_alloc_new w8 (.cells #[.pointer (some ⟨q,0,none⟩),.slice none 0 0,.int .i64 0] 51)
   have B9:=B8.out.trans (hBA.mono B8.out.size)
   refine⟨_,_,q,rfl,⟨⟨(T8.out.lower hsz).all hBA,B9⟩,⟨B8.out.size,⟨_,hBr,OwnR.nil _ _ _ _ _⟩,(R8.out.all hBA)⟩,fun k hk=>?_,fun k hk=>hk.elim⟩⟩
   obtain ⟨u,v,x,t,f,e,hv⟩:=hk
   rw [hBr] at e
   cases e
   simp [Value.ownBlock] at hv
end Go.Proofs.YtgoojkiccdjplaaGreatDoor
