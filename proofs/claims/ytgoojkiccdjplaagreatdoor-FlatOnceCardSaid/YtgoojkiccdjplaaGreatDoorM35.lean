/-
  Parts of this claim's texts, one behind the other: CT UE UF UG UH UI. No condition.
-/
import Derived.Test.YtgoojkiccdjplaaGreatDoorM32
set_option linter.unusedVariables false
set_option linter.unusedSimpArgs false
set_option maxRecDepth 100000
set_option maxHeartbeats 16000000
namespace Go.Proofs.YtgoojkiccdjplaaGreatDoor
open Go.RowKit Go.Sort Go.Lib
section
variable {w0 w w' : World} {p : Nat} {T : TermD} {X : Nat → Prop} {v v' : Value}
theorem St.push (h:St w0 p { T with X:=fun q=>X q∨rowB v q } w) (hg:w.grownBy w' v.ownBlock) (hlt:∀k,v.ownBlock=some k→w0.heap.size≤k) (hl:v'.ownBlock=v.ownBlock∨∀k,v'.ownBlock=some k→w.heap.size≤k) (hlt':∀k,v'.ownBlock=some k→k<w'.heap.size) :
  St w0 p { T with X:=fun q=>X q∨rowB v' q } w':=by
 have hb:Below w0.heap.size w w':=(Below.refl _ _).grown hg h.b.size hlt
 refine h.excl (X':=fun q=>X q∨rowB v' q) hb (fun k _ hn=>hg.block k ‹_› (fun e=>hn (.inr e.symm))) (fun k e=>?_)
 rcases e with e | e
 ·obtain ⟨q,v1,v2,m,ha⟩:=h.t
  exact⟨.inl (.inl e),Nat.lt_of_lt_of_le (ha.xlt k (.inl e)).1 hg.size⟩
 ·refine⟨?_,hlt' k e⟩
  rcases hl with hl | hl
  ·exact .inl (.inr (by show v.ownBlock=some k;rw [←hl];exact e))
  ·exact .inr (hl k e)
theorem St.fewer {Y:Nat→Prop} (h:St w0 p { T with X:=X } w) (hY:∀k,Y k→X k):St w0 p { T with X:=Y } w:=
 h.excl (X':=Y) (Below.refl _ _) (fun _ _ _=>rfl) fun k hk=>by
  obtain ⟨q,v1,v2,m,ha⟩:=h.t
  exact⟨.inl (hY k hk),(ha.xlt k (hY k hk)).1⟩
theorem St.more {Y:Nat→Prop} (h:St w0 p { T with X:=X } w) (hb:Below w.heap.size w w') (hY:∀k,Y k→X k∨(w.heap.size≤k∧k<w'.heap.size)):St w0 p { T with X:=Y } w':=
 h.excl (X':=Y) (hb.mono h.b.size) (fun k hk _=>hb.block k hk) fun k hk=>by
  obtain ⟨q,v1,v2,m,ha⟩:=h.t
  rcases hY k hk with e | e
  ·exact⟨.inl e,Nat.lt_of_lt_of_le (ha.xlt k e).1 hb.size⟩
  ·exact⟨.inr e.1,e.2⟩
end
def ChoicePost (w0:World) (p:Nat) (X:Nat→Prop) (R:(List Int × Int) × TermD) (w:World) (e:Ending) (w':World):Prop:=
 ∃a c,e = .returned (.tuple #[.slice a R.1.1.length c,.int .i64 R.1.2])∧OwnC w' w.heap.size 3 1 (.slice a R.1.1.length c) R.1.1.length (R.1.1.map (Value.int .i64))∧St w0 p { R.2 with X:=X } w'∧TStep p w w'
theorem mk2_grow {T:TermD} (h:TermG T) (op a b:Int):TermG (mk2 T op a b).2:=(h.make op (nm:=⟨#[]⟩) (val:=noRat) [a,b] (by decide) (by decide) (by decide)).g
theorem mk1_grow {T:TermD} (h:TermG T) (op a:Int):TermG (mk1 T op a).2:=(h.make op (nm:=⟨#[]⟩) (val:=noRat) [a] (by decide) (by decide) (by decide)).g
theorem mk2_bd {T:TermD} (h:TermG T) (op a b:Int):okI (mk2 T op a b).1.1:=by have:=make_bdU h.ok.sm op ⟨#[]⟩ noRat [a,b];unfold okI;unfold mk2;omega
theorem mk1_bd {T:TermD} (h:TermG T) (op a:Int):okI (mk1 T op a).1.1:=by have:=make_bdU h.ok.sm op ⟨#[]⟩ noRat [a];unfold okI;unfold mk1;omega
theorem mk1_call {w0 w:World} {p:Nat} {T:TermD} {X:Nat→Prop} (hE:EnvT w0) (h:St w0 p { T with X:=X } w) (hG:TermG T) (op a:Int) (ho:okI op) (h11:op≠11) (ha:okI a) :
  Calls Tryz.prog 33 #[.pointer (some ⟨p,0,none⟩),.int .i64 op,.string ⟨#[]⟩,.agg #[.bool false,.slice none 0 0,.slice none 0 0],.slice (some ⟨w.heap.size,0,none⟩) 1 1] (w.alloc (.cells #[.int .i64 a] 3)) fun e w'=>
   e = .returned (.tuple #[.int .i64 (mk1 T op a).1.1,.int .i64 (mk1 T op a).1.2])∧St w0 p { (mk1 T op a).2 with X:=X } w'∧TStep p w w':=by
 have hl:=h.lit (.cells #[.int .i64 a] 3)
 have hm:=make_any w0.heap.size p { T with X:=X } op ⟨#[]⟩ noRat [a] none none (some ⟨w.heap.size,0,none⟩) 0 0 1 _ hl.t (hG.ok.sm.X X) (hl.env hE) (lit_args w op [a] ho (by intro x hx;simp at hx;subst hx;exact ha) (by show 1≤maxLen;decide) h11)
 unfold MakePost at hm
 rw [makeD_X] at hm
 refine hm.mono ?_
 rintro e w' ⟨rfl,t,s⟩
 exact⟨rfl,hl.step t s,(TStep.of_below h.t.plt ((Below.refl _ _).alloc (Nat.le_refl _) _)).trans s⟩
theorem mk2_call {w0 w:World} {p:Nat} {T:TermD} {X:Nat→Prop} (hE:EnvT w0) (h:St w0 p { T with X:=X } w) (hG:TermG T) (op a b:Int) (ho:okI op) (h11:op≠11) (ha:okI a) (hb:okI b) :
  Calls Tryz.prog 33 #[.pointer (some ⟨p,0,none⟩),.int .i64 op,.string ⟨#[]⟩,.agg #[.bool false,.slice none 0 0,.slice none 0 0],.slice (some ⟨w.heap.size,0,none⟩) 2 2] (w.alloc (.cells #[.int .i64 a,.int .i64 b] 3)) fun e w'=>
   e = .returned (.tuple #[.int .i64 (mk2 T op a b).1.1,.int .i64 (mk2 T op a b).1.2])∧St w0 p { (mk2 T op a b).2 with X:=X } w'∧TStep p w w':=by
 have hl:=h.lit (.cells #[.int .i64 a,.int .i64 b] 3)
 have hm:=make_any w0.heap.size p { T with X:=X } op ⟨#[]⟩ noRat [a,b] none none (some ⟨w.heap.size,0,none⟩) 0 0 2 _ hl.t (hG.ok.sm.X X) (hl.env hE) (lit_args w op [a,b] ho (by intro x hx;simp at hx;rcases hx with rfl | rfl <;> assumption) (by show 2≤maxLen;decide) h11)
 unfold MakePost at hm
 rw [makeD_X] at hm
 refine hm.mono ?_
 rintro e w' ⟨rfl,t,s⟩
 exact⟨rfl,hl.step t s,(TStep.of_below h.t.plt ((Below.refl _ _).alloc (Nat.le_refl _) _)).trans s⟩
theorem half_grow {T:TermD} (h:TermG T) (k b x:Int):TermG (halfD T k b x).2∧okI (halfD T k b x).1.1:=by
 unfold halfD
 split
 ·exact⟨mk2_grow (mk2_grow h _ _ _) _ _ _,mk2_bd (mk2_grow h _ _ _) _ _ _⟩
 ·exact⟨mk2_grow h _ _ _,mk2_bd h _ _ _⟩
section
variable {α : Type} {R : Rep α} {B p z : Nat} {T : TermD} {w w' : World} {a : Option Addr} {n : Nat} {xs : List α}
theorem SlR.tstepZ (h:SlR R (fun q=>DatB w q∧q<z) w a n xs) (t:TermX B p T w) (s:TStep p w w'):SlR R (fun q=>DatB w' q∧q<z) w' a n xs:=
 (h.keep (fun _ _ hk=>t.dat s hk.1) s.size).mono fun _ _ hk=>⟨hk.1.same (t.dat s hk.1),hk.2⟩
theorem SlR.belowZ {B:Nat} (h:SlR R (fun q=>DatB w q∧q<z) w a n xs) (hb:Below B w w') (hz:z≤B):SlR R (fun q=>DatB w' q∧q<z) w' a n xs:=
 (h.keep (fun q _ hk=>hb.block q (Nat.lt_of_lt_of_le hk.2 hz)) hb.size).mono fun q _ hk=>⟨hk.1.same (hb.block q (Nat.lt_of_lt_of_le hk.2 hz)),hk.2⟩
end
theorem TStep.thenBelow {p B:Nat} {w w1 w2:World} (h:TStep p w w1) (hb:Below B w1 w2) (hB:w.heap.size≤B) (hp:p<w.heap.size):TStep p w w2:=
 ⟨hb.os.trans h.os,hb.tape.trans h.tape,hb.output.trans h.output,Nat.le_trans h.size hb.size,fun k hk hn=>by
  obtain ⟨e1,n1⟩:=h.block k hk hn
  exact⟨(hb.block k (by omega)).trans e1,fun e=>n1 ((ownT.same (hb.block p (by omega))).1 e)⟩⟩
theorem choice_any {w0:World} (hE:EnvT w0) (p:Nat) (X:Nat→Prop) (T:TermD) (k:Int) (n:NodeD) (a b g:Option Addr) (c d e:Nat) (w:World) (h:St w0 p { T with X:=X } w) (hG:TermG T) (hk:okI k) (hn:NodeS (DatB w) w n a c b d g e) (h3:n.args.length=3) :
  Calls Tryz.prog 75 #[.pointer (some ⟨p,0,none⟩),.int .i64 k,nodeV n a c b d g e] w fun e w'=>ChoicePost w0 p X (choiceD T k n.args) w e w':=by
 have hE':=hid hE
 obtain ⟨op,nm,⟨ng,nu,de⟩,args,so⟩:=n
 dsimp only at h3
 have h3':=hid h3
 clear h3
 have hb0:Below w.heap.size w (w.alloc (.cells #[.int .i64 op,.string nm,.bool ng,.slice a nu.length c,.slice b de.length d,.slice g args.length e,.int .i64 so] 38)):=(Below.refl _ _).alloc (Nat.le_refl _) _
 have hX0:=heap_alloc_new w (.cells #[.int .i64 op,.string nm,.bool ng,.slice a nu.length c,.slice b de.length d,.slice g args.length e,.int .i64 so] 38)
 have R1:SlR Rep.int (fun q=>DatB (w.alloc (.cells #[.int .i64 op,.string nm,.bool ng,.slice a nu.length c,.slice b de.length d,.slice g args.length e,.int .i64 so] 38)) q∧q<w.heap.size) (w.alloc (.cells #[.int .i64 op,.string nm,.bool ng,.slice a nu.length c,.slice b de.length d,.slice g args.length e,.int .i64 so] 38)) g args.length args:=(hn.args.mono fun q _ hd=>⟨hd,hd.lt⟩:SlR Rep.int (fun q=>DatB w q∧q<w.heap.size) w g args.length args).belowZ hb0 (Nat.le_refl _)
 have hwf:=hid (show ∀j,j<3→okI (nth args j) from fun j hj=>hn.args.toI.wf _ (nth_mem (by have:=h3'.out;show j<args.length;omega)))
 have I1:=h.more (Y:=fun q=>X q∨q=w.heap.size) hb0 (fun k hk=>by
  rcases hk with hk | rfl
  ·exact .inl hk
  ·exact .inr ⟨Nat.le_refl _,by simp⟩)
 have S1:=hid (TStep.of_below h.t.plt hb0)
 have hsz1:w.heap.size<(w.alloc (.cells #[.int .i64 op,.string nm,.bool ng,.slice a nu.length c,.slice b de.length d,.slice g args.length e,.int .i64 so] 38)).heap.size:=by simp
 have hpw:=hid (show p<w.heap.size from h.t.plt)
 have hBw:=hid (show w0.heap.size≤w.heap.size from h.b.size)
 generalize hw1:w.alloc (.cells #[.int .i64 op,.string nm,.bool ng,.slice a nu.length c,.slice b de.length d,.slice g args.length e,.int .i64 so] 38)=w1 at *
 have q5:w1.cell? ⟨w.heap.size,5,none⟩=some (.slice g args.length e):=cell_p hX0 5
 obtain ⟨b1,o1,rfl,k0⟩:=R1.toI.at 0 (by have:=h3'.out;omega)
 rw [Nat.add_zero] at k0
 have hc1:=hid (mk1_call hE I1 hG 3 (nth args 0) ⟨by decide,by decide⟩ (by decide) (hwf.out 0 (by omega)))
 have hG1:=hid (mk1_grow hG 3 (nth args 0))
 have hd1:=hid (mk1_bd hG 3 (nth args 0))
 have hdef:=@hid (choiceD T k args=if (mk1 T 3 (nth args 0)).1.2=0 then choiceL (mk1 T 3 (nth args 0)).2 k [(nth args 0,nth args 1),((mk1 T 3 (nth args 0)).1.1,nth args 2)] [] else(([],(mk1 T 3 (nth args 0)).1.2),(mk1 T 3 (nth args 0)).2)) rfl
 have R1':=hid R1
 have I1':=hid I1
 have hX0':=hid hX0
 have h3i:(0:Int)<args.length:=by have:=h3'.out;omega
 generalize mk1 T 3 (nth args 0)=M at *
 obtain ⟨⟨nt,en⟩,T1⟩:=M
 dsimp only at hc1 hG1 hd1 hdef
 clear h hE hG hn hb0 R1 I1 hX0
 go_enter Tryz.func75,Tryz.ntmps75
 go_wp2_with fail
 refine hc1.out.mono ?_;rintro e1 w2 ⟨rfl,i2,s2⟩
 have I2:=hid i2
 have S2:=hid (S1.out.trans s2)
 have R2:=hid (R1'.out.tstepZ I1'.out.t s2)
 have X2:=hid ((I1'.out.own (.inr rfl) s2).trans hX0'.out)
 clear i2 s2 hc1 S1 R1' I1' hX0' q5 k0 hw1
 by_cases hen:en=0
 case neg=>
  rw [if_neg hen] at hdef
  go_wp2
  go_ret2
  rw [hdef.out]
  exact⟨none,0,rfl,OwnC.nil _ _ _ _,I2.out.fewer (fun k hk=>.inl hk),S2.out⟩
 case pos=>
  subst hen
  rw [if_pos rfl] at hdef
  have q5:w2.cell? ⟨w.heap.size,5,none⟩=some (.slice (some ⟨b1,o1,none⟩) args.length e):=cell_p X2.out 5
  obtain ⟨b2,o2,hbo,k0⟩:=R2.out.toI.at 0 (by have:=h3'.out;omega)
  injection hbo with hbo
  injection hbo with h1 h2 h9
  subst h1 h2
  rw [Nat.add_zero] at k0
  have hb3:Below w2.heap.size w2 (w2.alloc (.cells #[.int .i64 (nth args 0),.int .i64 nt] 3)):=(Below.refl _ _).alloc (Nat.le_refl _) _
  have I3:=hid (I2.out.more (Y:=fun q=>((X q∨q=w.heap.size)∨q=w2.heap.size)∨rowB (.slice none 0 0) q) hb3 (fun k hk=>by
   rcases hk with (hk | rfl) | hk
   ·exact .inl hk
   ·exact .inr ⟨Nat.le_refl _,by simp⟩
   ·cases hk))
  have S3:=hid (S2.out.trans (TStep.of_below I2.out.t.plt hb3))
  have R3:=hid (R2.out.belowZ hb3 (Nat.le_of_lt (Array.getElem?_eq_some_iff.1 X2.out).1))
  have X3:=hid ((hb3.block _ (Array.getElem?_eq_some_iff.1 X2.out).1).trans X2.out)
  have Y3:=hid (heap_alloc_new w2 (.cells #[.int .i64 (nth args 0),.int .i64 nt] 3))
  have hwz:=hid (show w.heap.size<w2.heap.size from(Array.getElem?_eq_some_iff.1 X2.out).1)
  have hwz':=hwz.out
  have hz23:w2.heap.size<(w2.alloc (.cells #[.int .i64 (nth args 0),.int .i64 nt] 3)).heap.size:=by simp
  obtain ⟨i0,hi0,hz0,hz1,hz2⟩:=info_parts info_int
  clear hb3 I2 S2 R2
  go_wp2
  generalize hw3:w2.alloc (.cells #[.int .i64 (nth args 0),.int .i64 nt] 3)=w3 at *
  clear hw3
  go_loopw [6,7,9,10,11,12,13,35] (fun v6 v7 _ _ _ _ _ v35 wr=>∃(j:Nat) (T':TermD) (out:List Int),j≤2∧v35 = .int .i64 j∧v7 = .int .i64 0∧Hid (choiceD T k args=choiceL T' k ([(nth args 0,nth args 1),(nt,nth args 2)].drop j) out)∧out.length≤j∧Hid (St w0 p { T' with X:=fun q=>((X q∨q=w.heap.size)∨q=w2.heap.size)∨rowB v6 q } wr)∧Hid (TermG T')∧w3.heap.size≤wr.heap.size∧Hid (OwnC wr w3.heap.size 3 1 v6 out.length (out.map (Value.int .i64)))∧Hid (TStep p w wr)∧Hid (SlR Rep.int (fun q=>DatB wr q∧q<w.heap.size) wr (some ⟨b1,o1,none⟩) args.length args)∧Hid (wr.heap[w.heap.size]? = some (.cells #[.int .i64 op,.string nm,.bool ng,.slice a nu.length c,.slice b de.length d,.slice (some ⟨b1,o1,none⟩) args.length e,.int .i64 so] 38 (0,0)))∧Hid (wr.heap[w2.heap.size]? = some (.cells #[.int .i64 (nth args 0),.int .i64 nt] 3 (0,0)))) (fun _ _ _ _ _ _ _ v35 _=>2 - (intOf v35).toNat)
  case atStart=>exact⟨0,T1,[],Nat.zero_le _,rfl,rfl,hdef.out,Nat.le_refl _,I3.out,hG1.out,Nat.le_refl _,OwnC.nil _ _ _ _,S3.out,R3.out,X3.out,Y3.out⟩
  case round=>
   obtain ⟨j,T',out,hj,rfl,rfl,hCL,hol,hI,hGT,hz3,hO,hS,hR,hX,hL⟩:=hrel
   obtain ⟨ao,co,rfl,hcc1,hcc2⟩:=hO.out.slice
   by_cases hlt:j<2
   ·obtain ⟨bj,xj,hdrop,hbj,hxj,hbo,hxo⟩:∃bj xj,[(nth args 0,nth args 1),(nt,nth args 2)].drop j=(bj,xj) :: [(nth args 0,nth args 1),(nt,nth args 2)].drop (j+1) ∧ #[Value.int .i64 (nth args 0),.int .i64 nt][j]? = some (.int .i64 bj)∧nth args (1+j)=xj∧okI bj∧okI xj:=by
     have:j=0∨j=1:=by omega
     rcases this with rfl | rfl
     ·exact⟨_,_,rfl,rfl,rfl,hwf.out 0 (by omega),hwf.out 1 (by omega)⟩
     ·exact⟨_,_,rfl,rfl,rfl,hd1.out,hwf.out 2 (by omega)⟩
    have kj:wr.cell? ⟨w2.heap.size,j,none⟩=some (.int .i64 bj):=(cell_p hL.out j).trans hbj
    have q5:wr.cell? ⟨w.heap.size,5,none⟩=some (.slice (some ⟨b1,o1,none⟩) args.length e):=cell_p hX.out 5
    obtain ⟨b2,o2,hbo2,k1⟩:=hR.out.toI.at (1+j) (by have:=h3'.out;omega)
    injection hbo2 with hbo2
    injection hbo2 with h1 h2 h4
    subst h1 h2
    rw [hxj] at k1
    have hm1:=hid (mk2_call hE'.out hI.out hGT.out 8 k xj ⟨by decide,by decide⟩ (by decide) hk hxo)
    have hG2:=hid (mk2_grow hGT.out 8 k xj)
    have hd2:=hid (mk2_bd hGT.out 8 k xj)
    have hhf:=@hid (halfD T' k bj xj=if (mk2 T' 8 k xj).1.2=0 then mk2 (mk2 T' 8 k xj).2 6 bj (mk2 T' 8 k xj).1.1 else(mk2 T' 8 k xj)) rfl
    have hCL2:=hCL.out
    rw [hdrop] at hCL2
    unfold choiceL at hCL2
    have hCL3:=hid hCL2
    have hbo':=hid hbo
    have hji:(1:Int)+j<args.length:=by have:=h3'.out;omega
    have hj2:(j:Int)<2:=by omega
    clear hCL hCL2 hdrop hbj hxj hbo hxo
    generalize mk2 T' 8 k xj=M at *
    obtain ⟨⟨is,e1⟩,T2⟩:=M
    dsimp only at hm1 hG2 hd2 hhf
    go_wp2_with fail
    refine hm1.out.mono ?_;rintro e2 w4 ⟨rfl,i4,s4⟩
    have hlit:∀k,k<wr.heap.size→k<wr.heap.size:=fun _ h=>h
    have I4:=hid i4
    have X4:=hid ((hI.out.own (.inl (.inl (.inr rfl))) s4).trans hX.out)
    have L4:=hid ((hI.out.own (.inl (.inr rfl)) s4).trans hL.out)
    have R4:=hid (hR.out.tstepZ hI.out.t s4)
    have O4:=hid (hO.out.same fun k hk=>hI.out.own (.inr hk) s4)
    have S4:=hid (hS.out.trans s4)
    have hz4:w3.heap.size≤w4.heap.size:=Nat.le_trans hz3 s4.size
    clear hlit i4 s4 hm1 hI hX hL hR hO hS kj q5 k1
    by_cases he1:e1=0
    case neg=>
     rw [if_neg he1] at hhf
     have hfin:=hCL3.out
     rw [hhf.out,if_neg he1] at hfin
     have hfin':=hid hfin
     clear hfin
     go_wp2
     go_ret2
     rw [hfin'.out]
     exact⟨none,0,rfl,OwnC.nil _ _ _ _,I4.out.fewer (fun k hk=>.inl (.inl (.inl hk))),S4.out⟩
    case pos=>
     subst he1
     rw [if_pos rfl] at hhf
     have hm2:=hid (mk2_call hE'.out I4.out hG2.out 6 bj is ⟨by decide,by decide⟩ (by decide) hbo'.out hd2.out)
     have hG3:=hid (mk2_grow hG2.out 6 bj is)
     have hd3:=hid (mk2_bd hG2.out 6 bj is)
     generalize mk2 T2 6 bj is=M at *
     obtain ⟨⟨id,e2⟩,T3⟩:=M
     dsimp only at hm2 hG3 hd3
     have hfin:=hCL3.out
     rw [hhf.out] at hfin
     dsimp only at hfin
     go_wp2_with fail
     refine hm2.out.mono ?_;rintro e3 w5 ⟨rfl,i5,s5⟩
     have I5:=hid i5
     have X5:=hid ((I4.out.own (.inl (.inl (.inr rfl))) s5).trans X4.out)
     have L5:=hid ((I4.out.own (.inl (.inr rfl)) s5).trans L4.out)
     have R5:=hid (R4.out.tstepZ I4.out.t s5)
     have O5:=hid (O4.out.same fun k hk=>I4.out.own (.inr hk) s5)
     have S5:=hid (S4.out.trans s5)
     have hz5:w3.heap.size≤w5.heap.size:=Nat.le_trans hz4 s5.size
     clear i5 s5 hm2 I4 X4 L4 R4 O4 S4
     by_cases he2:e2=0
     case neg=>
      rw [if_neg he2] at hfin
      have hfin':=hid hfin
      clear hfin
      go_wp2
      go_ret2
      rw [hfin'.out]
      exact⟨none,0,rfl,OwnC.nil _ _ _ _,I5.out.fewer (fun k hk=>.inl (.inl (.inl hk))),S5.out⟩
     case pos=>
      subst he2
      rw [if_pos rfl] at hfin
      have hfin':=hid hfin
      have hwz5:w.heap.size<w5.heap.size:=(Array.getElem?_eq_some_iff.1 X5.out).1
      clear hfin
      go_wp2_with (at_builtin;refine wpList_append_C rfl (.tmp 69) (.tmp 71) rfl Tryz.underlying23 hi0 hz0 hz1 hz2 rfl (by decide) rfl rfl (O5.out.alloc _) (Src.one (b:=w5.heap.size) (news:=[.int .i64 id]) rfl ?c1) ?c2 ?c3 ?c4 ?c5 ?_)
      case c1=>intro j u hu;rw [World.cell?_alloc_new];simpa using hu
      case c2=>intro u hu;simp at hu;subst hu;rfl
      case c3=>unfold maxLen;omega
      case c4=>omega
      case c5=>first | omega | (simp;omega)
      intro v' w6 ho6 hg6 hl6
      have hb6:Below w5.heap.size w5 (w5.alloc (.cells #[.int .i64 id] 3)):=(Below.refl _ _).alloc (Nat.le_refl _) _
      have I5a:=I5.out.all hb6
      have I6:=hid (I5a.push hg6 (fun k hk=>by have:=(O5.out.lt k hk).1;have:=hBw.out;omega) (hl6.imp (fun h=>h) fun h k hk=>by rw [World.size_alloc];exact h k hk) (fun k hk=>(ho6.lt k hk).2))
      have hne:∀q,q<w3.heap.size→(Value.slice ao out.length co).ownBlock≠some q:=fun q hq e=>by have:=(O5.out.lt q e).1;omega
      have X6:=hid ((hg6.block w.heap.size (by simp;omega) (fun e=>hne _ (by omega) e.symm)).trans ((hb6.block _ hwz5).trans X5.out))
      have L6:=hid ((hg6.block w2.heap.size (by simp;omega) (fun e=>hne _ (by omega) e.symm)).trans ((hb6.block _ (by omega)).trans L5.out))
      have B6:Below w3.heap.size w5 w6:=(hb6.mono hz5).trans ((Below.refl _ _).grown hg6 (by simp;omega) (fun k hk=>(O5.out.lt k hk).1))
      have R6:=hid (R5.out.belowZ B6 (by omega))
      have S6:=hid (S5.out.thenBelow B6 (by omega) hpw.out)
      have O6:=hid (show OwnC w6 w3.heap.size 3 1 v' (out ++ [id]).length ((out ++ [id]).map (Value.int .i64)) from by rw [List.length_append,List.length_singleton,List.map_append];exact ho6)
      have hz6:w3.heap.size≤w6.heap.size:=Nat.le_trans hz5 B6.size
      clear hb6 I5a hne B6 ho6 hg6 hl6 I5 X5 L5 R5 O5 S5
      go_wp2
      go_roundw
      case rel=>exact⟨j+1,T3,out ++ [id],by omega,by go_num,rfl,hfin'.out,by simp;omega,I6.out,hG3.out,hz6,O6.out,S6.out,R6.out,X6.out,L6.out⟩
      case measure=>simp [intOf];omega
   ·obtain rfl:j=2:=by omega
    have hfin:=hCL.out
    rw [show [(nth args 0,nth args 1),(nt,nth args 2)].drop 2 = [] from rfl] at hfin
    unfold choiceL at hfin
    have hfin':=hid hfin
    have O7:=hid (hO.out.lower (base':=w.heap.size) (by omega))
    clear hfin
    go_wp2
    go_ret2
    rw [hfin'.out]
    exact⟨ao,co,rfl,O7.out,hI.out.fewer (fun k hk=>.inl (.inl (.inl hk))),hS.out⟩
structure LiftJ (w0:World) (p bt bm:Nat) (s:List Int) (w:World):Prop where
 lt:w0.heap.size≤bt∧w0.heap.size≤bm∧bt≠bm
 t:w.heap[bt]? = some (.cells #[.pointer (some ⟨p,0,none⟩)] 26 (0,0))
 m:∃v,w.heap[bm]? = some (.cells #[v] 23 (0,0))∧OwnC w bm 3 1 v s.length (s.map (Value.int .i64))
def LiftD (bt bm:Nat) (_s:List Int) (w:World) (k:Nat):Prop:=k=bt∨k=bm∨∃v,w.heap[bm]? = some (.cells #[v] 23 (0,0))∧v.ownBlock=some k
section
variable {w0 w w' : World} {p bt bm : Nat} {s : List Int}
theorem LiftD.iff {v:Value} (hv:w.heap[bm]? = some (.cells #[v] 23 (0,0))) (k:Nat):LiftD bt bm s w k↔k=bt∨k=bm∨v.ownBlock=some k:=by
 unfold LiftD
 constructor
 ·rintro (h | h | ⟨u,hu,h⟩)
  ·exact .inl h
  ·exact .inr (.inl h)
  ·rw [hv] at hu
   injection hu with hu
   injection hu with hu
   have:v=u:=by simpa using hu
   exact .inr (.inr (this ▸ h))
 ·rintro (h | h | h)
  ·exact .inl h
  ·exact .inr (.inl h)
  ·exact .inr (.inr ⟨v,hv,h⟩)
theorem LiftJ.ltD (h:LiftJ w0 p bt bm s w) (k:Nat) (hk:LiftD bt bm s w k):w0.heap.size≤k∧k<w.heap.size:=by
 obtain ⟨v,hv,ho⟩:=h.m
 rcases (LiftD.iff hv k).1 hk with rfl | rfl | hk
 ·exact⟨h.lt.1,(Array.getElem?_eq_some_iff.1 h.t).1⟩
 ·exact⟨h.lt.2.1,(Array.getElem?_eq_some_iff.1 hv).1⟩
 ·exact⟨Nat.le_trans h.lt.2.1 (ho.lt k hk).1,(ho.lt k hk).2⟩
theorem LiftJ.keep (h:LiftJ w0 p bt bm s w) (hk:∀k,LiftD bt bm s w k→w'.heap[k]? = w.heap[k]?):LiftJ w0 p bt bm s w'∧∀k,LiftD bt bm s w' k↔LiftD bt bm s w k:=by
 obtain ⟨v,hv,ho⟩:=h.m
 have hv':=(hk bm (.inr (.inl rfl))).trans hv
 refine⟨⟨h.lt,(hk bt (.inl rfl)).trans h.t,⟨v,hv',ho.same fun k e=>hk k ((LiftD.iff hv k).2 (.inr (.inr e)))⟩⟩,fun k=>?_⟩
 rw [LiftD.iff hv',LiftD.iff hv]
end
theorem choiceL_grow {k : Int} : ∀ (l : List (Int × Int)) {T : TermD} (_ : TermG T) (out : List Int), GrowT T (choiceL T k l out).2 0 ∧ (choiceL T k l out).1.1.length ≤ out.length + l.length ∧ ((∀ x ∈ out, okI x) → ∀ x ∈ (choiceL T k l out).1.1, okI x)
  | [], T, h, out => ⟨.refl h, Nat.le_refl _, fun h => h⟩
  | (b, x) :: l, T, h, out => by
    have hg : GrowT T (halfD T k b x).2 0 := by
      have g1 := h.make 8 (nm := ⟨#[]⟩) (val := noRat) [k, x] (by decide) (by decide) (by decide)
      unfold halfD
      split
      · exact g1.trans (g1.g.make 6 (nm := ⟨#[]⟩) (val := noRat) _ (by decide) (by decide) (by decide))
      · exact g1
    unfold choiceL
    split
    · obtain ⟨r1, r2, r3⟩ := choiceL_grow l hg.g (out ++ [(halfD T k b x).1.1])
      refine ⟨hg.trans r1, by rw [List.length_append, List.length_singleton] at r2; rw [List.length_cons]; omega, fun ho => r3 fun y hy => ?_⟩
      rcases List.mem_append.1 hy with hy | hy
      · exact ho y hy
      · obtain rfl := List.mem_singleton.1 hy
        exact (half_grow h k b x).2
    · exact ⟨hg, Nat.zero_le _, fun _ y hy => by simp at hy⟩
theorem choice_grow {T:TermD} (h:TermG T) (k:Int) (args:List Int):GrowT T (choiceD T k args).2 0∧(choiceD T k args).1.1.length≤2∧∀x∈(choiceD T k args).1.1,okI x:=by
 have g1:=h.make 3 (nm:=⟨#[]⟩) (val:=noRat) [nth args 0] (by decide) (by decide) (by decide)
 unfold choiceD
 split
 ·obtain ⟨r1,r2,r3⟩:=choiceL_grow (k:=k) [(nth args 0,nth args 1),((mk1 T 3 (nth args 0)).1.1,nth args 2)] g1.g []
  exact⟨g1.trans r1,r2,r3 (by simp)⟩
 ·exact⟨g1,Nat.zero_le _,by simp⟩
theorem okI_0:okI 0:=⟨by decide,by decide⟩
theorem put_bdF {T:TermD} (h:TermG T) (s:Int):okI (freshD T s).1.1:=by
 have:=put_bdU h.ok.sm (freshNode T s)
 unfold freshD
 split
 ·split
  ·unfold okI;dsimp only;omega
  ·unfold okI;omega
 ·exact okI_0
theorem liftF_grow (T:TermD) (s:List Int) (id:Int) (n:NodeD) (h:TermG T) (hf:T.fresh≤1000000000000):GrowT T (liftF T s id n).2.1 100∧okI (liftF T s id n).1.1∧(liftF T s id n).2.2.length≤s.length+100:=by
 have g1:=h.fresh n.sort (by omega)
 unfold liftF
 split
 ·split
  ·obtain ⟨r1,r2,_⟩:=choice_grow g1.g (freshD T n.sort).1.1 n.args
   exact⟨(g1.trans r1).mono (by decide),put_bdF h n.sort,by dsimp only;rw [List.length_append];omega⟩
  ·exact⟨g1.mono (by decide),okI_0,Nat.le_add_right _ _⟩
 ·exact⟨(GrowT.refl h).mono (by decide),okI_0,Nat.le_add_right _ _⟩
section
variable {w0 w w1 w3 w4 : World} {p bt bm : Nat} {s l : List Int} {T T' : TermD} {Y : Nat → Prop} {v v' : Value}
theorem lift_same (h:Cx w0 p (LiftJ w0 p bt bm) (LiftD bt bm) Y T s w) (I:St w0 p { T' with X:=fun k=>LiftD bt bm s w k∨Y k } w3) (S:TStep p w w3) (hD:∀k,LiftD bt bm s w k→w3.heap[k]? = w.heap[k]?) :
  Cx w0 p (LiftJ w0 p bt bm) (LiftD bt bm) Y T' s w3∧OStep p (LiftD bt bm s w) (LiftD bt bm s w3) w w3:=by
 obtain ⟨hj,hd⟩:=h.j.keep hD
 refine⟨⟨?_,I.b,hj⟩,OStep.ofT S fun k e=>(hd k).1 e⟩
 have e:(fun k=>LiftD bt bm s w3 k∨Y k)=(fun k=>LiftD bt bm s w k∨Y k):=funext fun k=>propext (or_congr (hd k) Iff.rfl)
 rw [e]
 exact I.t
theorem lift_push (h:Cx w0 p (LiftJ w0 p bt bm) (LiftD bt bm) Y T s w) (I:St w0 p { T' with X:=fun k=>LiftD bt bm s w k∨Y k } w3) (S:TStep p w w3) (hD:∀k,LiftD bt bm s w k→w3.heap[k]? = w.heap[k]?)
  (hv:w3.heap[bm]? = some (.cells #[v] 23 (0,0))) (hv3:OwnC w3 bm 3 1 v s.length (s.map (Value.int .i64))) (hg:w3.grownBy w4 v.ownBlock) (hl:v'.ownBlock=v.ownBlock∨∀k,v'.ownBlock=some k→w3.heap.size≤k)
  (ho:OwnC w4 bm 3 1 v' (s++l).length ((s++l).map (Value.int .i64))) :
  Cx w0 p (LiftJ w0 p bt bm) (LiftD bt bm) Y T' (s++l) (w4.setCell ⟨bm,0,none⟩ v')∧OStep p (LiftD bt bm s w) (LiftD bt bm (s++l) (w4.setCell ⟨bm,0,none⟩ v')) w (w4.setCell ⟨bm,0,none⟩ v'):=by
 obtain ⟨hj,hd⟩:=h.j.keep hD
 have ht3:=hj.t
 have hbt:bt<w3.heap.size:=(Array.getElem?_eq_some_iff.1 ht3).1
 have hbm:bm<w3.heap.size:=(Array.getElem?_eq_some_iff.1 hv).1
 have n1:v.ownBlock≠some bt:=fun e=>ty_ne (by decide) (hv3.ty bt e) ⟨_,_,ht3⟩
 have n2:v.ownBlock≠some bm:=fun e=>ty_ne (by decide) (hv3.ty bm e) ⟨_,_,hv⟩
 have hv4:w4.heap[bm]? = some (.cells #[v] 23 (0,0)):=(hg.block bm hbm n2.symm).trans hv
 have n3:v'.ownBlock≠some bm:=fun e=>ty_ne (by decide) (ho.ty bm e) ⟨_,_,hv4⟩
 generalize hw5:w4.setCell ⟨bm,0,none⟩ v'=w5
 have s5:∀k,k≠bm→w5.heap[k]? = w4.heap[k]?:=fun k hk=>by subst hw5;exact Below.heap_setCell _ _ _ _ (fun e=>hk e)
 have z5:w5.heap.size=w4.heap.size:=by subst hw5;exact size_set
 have m5:w5.heap[bm]? = some (.cells #[v'] 23 (0,0)):=by
  subst hw5
  unfold World.setCell
  rw [Array.getElem?_modify,if_pos rfl,hv4]
  rfl
 have o5:w5.os=w4.os∧w5.tape=w4.tape∧w5.output=w4.output:=by subst hw5;exact⟨rfl,rfl,rfl⟩
 have k5:∀k,k<w3.heap.size→v.ownBlock≠some k→k≠bm→w5.heap[k]? = w3.heap[k]?:=fun k h1 h2 h3=>(s5 k h3).trans (hg.block k h1 h2.symm)
 have hDi:∀k,LiftD bt bm s w k↔k=bt∨k=bm∨v.ownBlock=some k:=fun k=>(hd k).symm.trans (LiftD.iff hv k)
 have hD5:∀k,LiftD bt bm (s++l) w5 k↔k=bt∨k=bm∨v'.ownBlock=some k:=fun k=>LiftD.iff m5 k
 have hX:∀k,LiftD bt bm s w k∨Y k→k<w3.heap.size∧¬ownT p w3 k:=fun k hk=>by
  obtain ⟨q,v1,v2,m,ha⟩:=I.t
  exact⟨(ha.xlt k hk).1,(ha.xlt k hk).2.1⟩
 have hB5:Below w0.heap.size w3 w5:=by
  refine⟨o5.1.trans hg.os,o5.2.1.trans hg.tape,o5.2.2.trans hg.output,by rw [z5];exact hg.size,fun k hk=>k5 k (Nat.lt_of_lt_of_le hk I.b.size) (fun e=>?_) (fun e=>?_)⟩
  ·have:=(hv3.lt k e).1;have:=h.j.lt.2.1;omega
  ·have:=h.j.lt.2.1;omega
 have hp:w5.heap[p]? = w3.heap[p]?:=k5 p I.t.plt (fun e=>(hX p (.inl ((hDi p).2 (.inr (.inr e))))).2 (.inl (.inl rfl))) (fun e=>(hX p (.inl ((hDi p).2 (.inr (.inl e))))).2 (.inl (.inl rfl)))
 refine⟨⟨?_,I.b.trans hB5,⟨h.j.lt,(k5 bt hbt n1 h.j.lt.2.2).trans ht3,⟨v',m5,ho.same fun k e=>s5 k fun e2=>n3 (e2 ▸ e)⟩⟩⟩,⟨?_,?_,?_,?_,fun k h1 h2 h3=>⟨?_,?_,?_⟩⟩⟩
 ·refine(I.excl (X':=fun k=>LiftD bt bm (s++l) w5 k∨Y k) hB5 (fun k hk hn=>k5 k hk (fun e=>hn (.inl ((hDi k).2 (.inr (.inr e))))) (fun e=>hn (.inl ((hDi k).2 (.inr (.inl e)))))) (fun k hk=>?_)).t
  rcases hk with hk | hk
  ·rcases (hD5 k).1 hk with hk | hk | hk
   ·have hx:LiftD bt bm s w k:=(hDi k).2 (.inl hk)
    exact⟨.inl (.inl hx),by rw [z5];exact Nat.lt_of_lt_of_le (hX k (.inl hx)).1 hg.size⟩
   ·have hx:LiftD bt bm s w k:=(hDi k).2 (.inr (.inl hk))
    exact⟨.inl (.inl hx),by rw [z5];exact Nat.lt_of_lt_of_le (hX k (.inl hx)).1 hg.size⟩
   ·refine⟨?_,by rw [z5];exact(ho.lt k hk).2⟩
    rcases hl with hl | hl
    ·exact .inl (.inl ((hDi k).2 (.inr (.inr (by rw [←hl];exact hk)))))
    ·exact .inr (hl k hk)
  ·exact⟨.inl (.inr hk),by rw [z5];exact Nat.lt_of_lt_of_le (hX k (.inr hk)).1 hg.size⟩
 ·exact(o5.1.trans hg.os).trans S.os
 ·exact(o5.2.1.trans hg.tape).trans S.tape
 ·exact(o5.2.2.trans hg.output).trans S.output
 ·rw [z5];exact Nat.le_trans S.size hg.size
 ·exact(k5 k (Nat.lt_of_lt_of_le h1 S.size) (fun e=>h3 ((hDi k).2 (.inr (.inr e)))) (fun e=>h3 ((hDi k).2 (.inr (.inl e))))).trans (S.block k h1 h2).1
 ·exact fun e=>(S.block k h1 h2).2 ((ownT.same hp).1 e)
 ·intro e
  rcases (hD5 k).1 e with e | e | e
  ·exact h3 ((hDi k).2 (.inl e))
  ·exact h3 ((hDi k).2 (.inr (.inl e)))
  ·rcases hl with hl | hl
   ·exact h3 ((hDi k).2 (.inr (.inr (by rw [←hl];exact e))))
   ·have:=hl k e;have:=S.size;omega
end
theorem Src.own {w:World} {base n c:Nat} {t:TypeId} {a:Option Addr} {xs:List Value} (h:OwnC w base t 1 (.slice a n c) n xs):Src w 1 a n xs:=by
 refine⟨h.1,fun hn=>?_⟩
 obtain ⟨g,cap,hv,_⟩:=h.form hn
 injection hv with h1 h2 h3
 subst h1
 exact⟨_,rfl,fun j u hu=>by rw [Addr.add_lit,Nat.zero_add];exact h.cells rfl j u hu⟩
theorem NodeS.datM {w w':World} {x:NodeD} {a b g:Option Addr} {c d e:Nat} (h:NodeS (DatB w) w x a c b d g e) (hk:∀k,DatB w k→w'.heap[k]? = w.heap[k]?) (hs:w.heap.size≤w'.heap.size):NodeS (DatB w') w' x a c b d g e:=
 (h.keep (fun k _ hd=>hk k hd) hs).mono fun k _ hd=>hd.same (hk k hd)
def LiftPost (w0:World) (p bt bm:Nat) (Y:Nat→Prop) (s:List Int) (R:(Int × Bool × Int) × TermD × List Int) (w:World) (e:Ending) (w':World):Prop:=
 e = .returned (.tuple #[.int .i64 R.1.1,.bool R.1.2.1,.int .i64 R.1.2.2])∧Cx w0 p (LiftJ w0 p bt bm) (LiftD bt bm) Y R.2.1 R.2.2 w'∧OStep p (LiftD bt bm s w) (LiftD bt bm R.2.2 w') w w'
theorem lift1_any {w0:World} (hE:EnvT w0) (p bt bm:Nat) (Y:Nat→Prop) (T:TermD) (s:List Int) (w:World) (id:Int) (n:NodeD) (a b g:Option Addr) (c d e:Nat) (h:Cx w0 p (LiftJ w0 p bt bm) (LiftD bt bm) Y T s w) (hG:TermG T) (hF:T.fresh≤1000000000000) (hZ:s.length≤1000000000000) (hN:NodeG n) (hn:NodeS (DatB w) w n a c b d g e) :
  Calls Tryz.prog 73 #[.int .i64 id,nodeV n a c b d g e,.pointer (some ⟨bt,0,none⟩),.pointer (some ⟨bm,0,none⟩)] w fun e w'=>LiftPost w0 p bt bm Y s (liftF T s id n) w e w':=by
 have hE':=hid hE
 have hC:=hid h
 have hG':=hid hG
 have hite:=hid hN.ite
 have hdef:=@hid (liftF T s id n=if n.op=10∧n.sort≠0 then
  if (freshD T n.sort).1.2=0 then
   (((freshD T n.sort).1.1,true,(choiceD (freshD T n.sort).2 (freshD T n.sort).1.1 n.args).1.2),(choiceD (freshD T n.sort).2 (freshD T n.sort).1.1 n.args).2,s++(choiceD (freshD T n.sort).2 (freshD T n.sort).1.1 n.args).1.1)
  else((0,false,(freshD T n.sort).1.2),(freshD T n.sort).2,s)
 else((0,false,0),T,s)) rfl
 have I0:St w0 p { T with X:=fun q=>LiftD bt bm s w q∨Y q } w:=⟨h.t,h.b⟩
 obtain ⟨op,nm,⟨ng,nu,de⟩,args,so⟩:=n
 dsimp only at hdef hite
 have hb0:Below w.heap.size w (w.alloc (.cells #[.int .i64 op,.string nm,.bool ng,.slice a nu.length c,.slice b de.length d,.slice g args.length e,.int .i64 so] 38)):=(Below.refl _ _).alloc (Nat.le_refl _) _
 have hX0:=heap_alloc_new w (.cells #[.int .i64 op,.string nm,.bool ng,.slice a nu.length c,.slice b de.length d,.slice g args.length e,.int .i64 so] 38)
 have hso:okI so:=hn.sort
 have N1:=hn.datM (Below.dat hb0) hb0.size
 have hD1:∀k,LiftD bt bm s w k→(w.alloc (.cells #[.int .i64 op,.string nm,.bool ng,.slice a nu.length c,.slice b de.length d,.slice g args.length e,.int .i64 so] 38)).heap[k]? = w.heap[k]?:=fun k hk=>hb0.block k (h.j.ltD k hk).2
 have I1:=I0.more (Y:=fun q=>(LiftD bt bm s w q∨Y q)∨q=w.heap.size) hb0 (fun k hk=>by
  rcases hk with hk | rfl
  ·exact .inl hk
  ·exact .inr ⟨Nat.le_refl _,by simp⟩)
 have S1:=hid (TStep.of_below h.t.plt hb0)
 have hbt:=(hD1 bt (.inl rfl)).trans h.j.t
 generalize hw1:w.alloc (.cells #[.int .i64 op,.string nm,.bool ng,.slice a nu.length c,.slice b de.length d,.slice g args.length e,.int .i64 so] 38)=w1 at *
 have r0:=cell_p hX0 0
 have r1:=cell_p hX0 1
 have r2:=cell_p hX0 2
 have r3:=cell_p hX0 3
 have r4:=cell_p hX0 4
 have r5:=cell_p hX0 5
 have r6:=cell_p hX0 6
 simp only [List.getElem?_toArray,List.getElem?_cons_succ,List.getElem?_cons_zero] at r0 r1 r2 r3 r4 r5 r6
 have qt:w1.cell? ⟨bt,0,none⟩=some (.pointer (some ⟨p,0,none⟩)):=cell_p hbt 0
 have I1':=hid I1
 have N1':=hid N1
 have hD1':=hid hD1
 have hX0':=hid hX0
 have hso':=hid hso
 by_cases hop:op=10
 case neg=>
  have hv:=@hid (liftF T s id ⟨op,nm,⟨ng,nu,de⟩,args,so⟩=((0,false,0),T,s)) (by rw [hdef.out,if_neg (fun e=>hop e.1)])
  have hopd:decide (op=10)=false:=decide_eq_false hop
  clear h hE hG hn hN I0 I1 N1 hD1 hX0 hb0 hbt hdef hso hite
  go_enter Tryz.func73,Tryz.ntmps73
  go_wp2
  go_ret3
  obtain ⟨z1,z2⟩:=lift_same hC.out (I1'.out.fewer (fun k hk=>.inl hk)) S1.out hD1'.out
  exact⟨by rw [hv.out];rfl,by rw [hv.out];exact z1,by rw [hv.out];exact z2⟩
 subst hop
 have hl3:=@hid (args.length=3) (hite.out rfl)
 clear hite
 by_cases hs0:so=0
 case pos=>
  subst hs0
  have hv:=@hid (liftF T s id ⟨10,nm,⟨ng,nu,de⟩,args,0⟩=((0,false,0),T,s)) (by rw [hdef.out,if_neg (fun e=>e.2 rfl)])
  clear h hE hG hn hN I0 I1 N1 hD1 hX0 hb0 hbt hdef hso
  go_enter Tryz.func73,Tryz.ntmps73
  go_wp2
  go_ret3
  obtain ⟨z1,z2⟩:=lift_same hC.out (I1'.out.fewer (fun k hk=>.inl hk)) S1.out hD1'.out
  exact⟨by rw [hv.out];rfl,by rw [hv.out];exact z1,by rw [hv.out];exact z2⟩
 case neg=>
  have hd2:=@hid (liftF T s id ⟨10,nm,⟨ng,nu,de⟩,args,so⟩=if (freshD T so).1.2=0 then
   (((freshD T so).1.1,true,(choiceD (freshD T so).2 (freshD T so).1.1 args).1.2),(choiceD (freshD T so).2 (freshD T so).1.1 args).2,s++(choiceD (freshD T so).2 (freshD T so).1.1 args).1.1)
   else((0,false,(freshD T so).1.2),(freshD T so).2,s)) (by rw [hdef.out,if_pos ⟨rfl,hs0⟩])
  have hs0d:decide (so=0)=false:=decide_eq_false hs0
  have hfr:=fresh_any w0.heap.size p { T with X:=fun q=>(LiftD bt bm s w q∨Y q)∨q=w.heap.size } so w1 I1.t (hG.ok.sm.X _) (I1.env hE) hso
  unfold FreshPost at hfr
  rw [freshD_X] at hfr
  dsimp only at hfr
  have hfr':=hid hfr
  have hGf:=hid (hG.fresh so (by omega)).g
  have hbd:=hid (put_bdF hG so)
  generalize freshD T so=M at *
  obtain ⟨⟨k,er⟩,T1⟩:=M
  dsimp only at hfr' hGf hbd hd2
  clear h hE hG hn hN I0 I1 N1 hD1 hX0 hb0 hbt hdef hso hfr
  go_enter Tryz.func73,Tryz.ntmps73
  go_wp2_with fail
  refine hfr'.out.mono ?_;rintro e1 w2 ⟨rfl,t2,s2⟩
  have I2:=hid (I1'.out.step t2 s2)
  have S2:=hid (S1.out.trans s2)
  have D2:=hid (show ∀k,LiftD bt bm s w k→w2.heap[k]? = w.heap[k]? from fun k hk=>(I1'.out.own (.inl (.inl hk)) s2).trans (hD1'.out k hk))
  have X2:=hid ((I1'.out.own (.inr rfl) s2).trans hX0'.out)
  have N2:=hid (N1'.out.datM (fun k hk=>I1'.out.t.dat s2 hk) s2.size)
  clear t2 s2 hfr' I1' S1 hD1' hX0' N1' r0 r1 r2 r3 r4 r5 r6 qt hw1
  by_cases her:er=0
  case neg=>
   rw [if_neg her] at hd2
   go_wp2
   go_ret3
   obtain ⟨z1,z2⟩:=lift_same hC.out (I2.out.fewer (fun k hk=>.inl hk)) S2.out D2.out
   exact⟨by rw [hd2.out];rfl,by rw [hd2.out];exact z1,by rw [hd2.out];exact z2⟩
  case pos=>
   subst her
   rw [if_pos rfl] at hd2
   have hch:=choice_any hE'.out p (fun q=>(LiftD bt bm s w q∨Y q)∨q=w.heap.size) T1 k ⟨10,nm,⟨ng,nu,de⟩,args,so⟩ a b g c d e w2 I2.out hGf.out hbd.out N2.out hl3.out
   dsimp only at hch
   have hgr:=hid (choice_grow hGf.out k args)
   have hch':=hid hch
   generalize choiceD T1 k args=M at *
   obtain ⟨⟨l,ec⟩,T3⟩:=M
   dsimp only at hd2 hgr
   have r0:=cell_p X2.out 0
   have r1:=cell_p X2.out 1
   have r2:=cell_p X2.out 2
   have r3:=cell_p X2.out 3
   have r4:=cell_p X2.out 4
   have r5:=cell_p X2.out 5
   have r6:=cell_p X2.out 6
   simp only [List.getElem?_toArray,List.getElem?_cons_succ,List.getElem?_cons_zero] at r0 r1 r2 r3 r4 r5 r6
   have qt:w2.cell? ⟨bt,0,none⟩=some (.pointer (some ⟨p,0,none⟩)):=cell_p ((D2.out bt (.inl rfl)).trans hC.out.j.t) 0
   clear hch
   go_wp2_with fail
   refine hch'.out.mono ?_;rintro e1 w3 ⟨al,cl,rfl,ol,i3,s3⟩
   have D3:=hid (show ∀k,LiftD bt bm s w k→w3.heap[k]? = w.heap[k]? from fun k hk=>(I2.out.own (.inl (.inl hk)) s3).trans (D2.out k hk))
   obtain ⟨hj3,_⟩:=hC.out.j.keep D3.out
   obtain ⟨v,hv3,ho3⟩:=hj3.m
   have I3:=hid i3
   have S3:=hid (S2.out.trans s3)
   have OL:=hid ol
   have V3:=hid hv3
   have O3:=hid ho3
   obtain ⟨av,cv,rfl,hcv1,hcv2⟩:=ho3.slice
   have qm:w3.cell? ⟨bm,0,none⟩=some (.slice av s.length cv):=cell_p hv3 0
   have hll:=hgr.out.2.1
   obtain ⟨i0,hi0,hz0,hz1,hz2⟩:=info_parts info_int
   clear i3 s3 ol hv3 ho3 hj3 hch' I2 S2 D2 X2 N2 r0 r1 r2 r3 r4 r5 r6 qt
   go_wp2_with (at_builtin;refine wpList_append_C rfl (.tmp 37) (.tmp 38) rfl Tryz.underlying23 hi0 hz0 hz1 hz2 rfl (by decide) rfl rfl O3.out (Src.own OL.out) ?c2 ?c3 ?c4 ?c5 ?_)
   case c2=>intro u hu;obtain ⟨x,_,rfl⟩:=List.mem_map.1 hu;rfl
   case c3=>unfold maxLen;omega
   case c4=>omega
   case c5=>exact Nat.le_of_lt (Array.getElem?_eq_some_iff.1 V3.out).1
   intro v' w4 ho4 hg4 hl4
   obtain ⟨av',cv',rfl,_,_⟩:=ho4.slice
   have n2:(Value.slice av s.length cv).ownBlock≠some bm:=fun e=>ty_ne (by decide) (O3.out.ty bm e) ⟨_,_,V3.out⟩
   have V4:=(hg4.block bm (Array.getElem?_eq_some_iff.1 V3.out).1 n2.symm).trans V3.out
   have qm4:w4.cell? ⟨bm,0,none⟩=some (.slice av s.length cv):=cell_p V4 0
   have fm4:w4.frozen? ⟨bm,0,none⟩=false:=frz_p V4 0
   have Z:=hid (lift_push (l:=l) (T':=T3) hC.out (I3.out.fewer (fun k hk=>.inl hk)) S3.out D3.out V3.out O3.out hg4 hl4 (by rw [List.length_append,List.map_append];exact ho4))
   clear ho4 hg4 hl4 n2 V4
   go_wp2
   go_ret3
   exact⟨by rw [hd2.out];rfl,by rw [hd2.out];exact Z.out.1,by rw [hd2.out];exact Z.out.2⟩
theorem lift_ok {w0:World} (hE:EnvT w0) (p bt bm:Nat):OtherOk w0 p 73 [] [.pointer (some ⟨bt,0,none⟩),.pointer (some ⟨bm,0,none⟩)] liftF (LiftJ w0 p bt bm) (LiftD bt bm) List.length where
 enter:=enters_of Tryz.func73 (by kernel_rfl) rfl
 lt _ _ h k hk:=h.ltD k hk
 keep _ _ _ h hk _:=h.keep hk
 grow T s _ id n _ h hf _:=liftF_grow T s id n h hf
 call Y T s w id n a c b d g e h hG hF hZ hN _ hn:=lift1_any hE p bt bm Y T s w id n a b g c d e h hG hF hZ hN (hn.mono fun _ _ hk=>hk.1)
end Go.Proofs.YtgoojkiccdjplaaGreatDoor
