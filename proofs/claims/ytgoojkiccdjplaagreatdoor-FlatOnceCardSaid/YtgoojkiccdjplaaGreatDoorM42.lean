/-
  Parts of this claim's texts, one behind the other: VG. No condition.
-/
import Derived.Test.YtgoojkiccdjplaaGreatDoorM41
set_option linter.unusedVariables false
set_option linter.unusedSimpArgs false
set_option maxRecDepth 100000
set_option maxHeartbeats 16000000
namespace Go.Proofs.YtgoojkiccdjplaaGreatDoor
open Go.RowKit Go.Sort Go.Lib
theorem fall1_any (B p:Nat) (T:TermD) (id:Int) (x:Nat) (w:World) (h:TermX B p T w) (ht:TermOk T) (hid:okI id) (hx:w.cell? ⟨x,0,none⟩=some (.pointer (some ⟨p,0,none⟩))) :
  Calls Tryz.prog 81 #[.int .i64 id,.pointer (some ⟨x,0,none⟩)] w fun e w'=>e = .returned (.bool (anyT T choiceN id))∧Below w.heap.size w w':=by
 have hc:=Lib.hid (fchoice_any B p T id w h ht hid)
 clear h ht
 go_enter Tryz.func81,Tryz.ntmps81
 go_wp2_with fail
 refine hc.out.mono ?_;rintro e w1 ⟨rfl,hb⟩
 go_wp2
 go_ret
 exact⟨rfl,hb⟩
theorem anyT_X (T:TermD) (X:Nat→Prop) (so:NodeD→Bool):anyT { T with X:=X } so=anyT T so:=funext fun id=>by
 unfold anyT
 rw [walkT_X]
 rfl
def AllFPost (w0:World) (p:Nat) (X:Nat→Prop) (T:TermD) (R:(List Int × List MadeD × List Int × Int) × TermD) (w:World) (e:Ending) (w':World):Prop:=
 ∃a1 c1 a2 c2 a3 c3,e = .returned (.tuple #[.slice a1 R.1.1.length c1,.slice a2 R.1.2.1.length c2,.slice a3 R.1.2.2.1.length c3,.int .i64 R.1.2.2.2])∧OwnC w' w.heap.size 3 1 (.slice a1 R.1.1.length c1) R.1.1.length (R.1.1.map (Value.int .i64))∧SlR repMd (fun k=>¬ownT p w' k) w' a2 R.1.2.1.length R.1.2.1∧RdI w' a3 R.1.2.2.1.length R.1.2.2.1 ∧
  (∀x∈R.1.1,okI x)∧St w0 p { R.2 with X:=X } w'∧TStep p w w'∧GrowT T R.2 1638400
theorem flatAll_any {w0:World} (hE:EnvT w0) (p:Nat) (X:Nat→Prop) (T:TermD) (a:Option Addr) (n c:Nat) (ids:List Int) (w:World) (h:St w0 p { T with X:=X } w) (hG:TermG T) (hF:T.fresh≤1000000000) (hx:RdI w a n ids) (hfr:0<n→∀x,a=some x→x.block<w.heap.size∧¬ownT p w x.block) (hn:n<1099511627776) :
  Calls Tryz.prog 29 #[.pointer (some ⟨p,0,none⟩),.slice a n c] w fun e w'=>AllFPost w0 p X T (allFlat T ids) w e w':=by
 have hmm:=@run_makeMap Tryz.prog
 have hb1:Below w.heap.size w (w.alloc (.cells #[.pointer (some ⟨p,0,none⟩)] 26)):=(Below.refl _ _).alloc (Nat.le_refl _) _
 have hX1:=heap_alloc_new w (.cells #[.pointer (some ⟨p,0,none⟩)] 26)
 have hz1:w.heap.size<(w.alloc (.cells #[.pointer (some ⟨p,0,none⟩)] 26)).heap.size:=by simp
 generalize hw1:w.alloc (.cells #[.pointer (some ⟨p,0,none⟩)] 26)=w1 at *
 have I1:=hid (h.all hb1)
 have X1:=hid hX1
 have qt:w1.cell? ⟨w.heap.size,0,none⟩=some (.pointer (some ⟨p,0,none⟩)):=cell_p hX1 0
 have hbo:=bools_any w0.heap.size p _ a n c ids w1 I1.out.t (hx.below hb1 (Nat.le_refl _)) hn
 rw [show boolsT { T with X:=X } ids=boolsT T ids from rfl] at hbo
 have hbo':=hid hbo
 have hdef:=@hid (allFlat T ids=if boolsT T ids && !ids.any (anyT T choiceN) then
  if (turnD flatF T flS0 ids).1.2=0 then(((turnD flatF T flS0 ids).1.1,(turnD flatF T flS0 ids).2.2.made,(turnD flatF T flS0 ids).2.2.more,0),(turnD flatF T flS0 ids).2.1)
  else(([],[],[],(turnD flatF T flS0 ids).1.2),(turnD flatF T flS0 ids).2.1)
 else(([],[],[],1),T)) rfl
 have B1:=hid hb1
 have hG':=hid hG
 have hE':=hid hE
 have hx':=hid hx
 have h':=hid h
 have hfr':=hid hfr
 have hfail:∀w3,Below w.heap.size w w3→allFlat T ids=(([],[],[],1),T)→AllFPost w0 p X T (allFlat T ids) w (.returned (.tuple #[.slice none 0 0,.slice none 0 0,.slice none 0 0,.int .i64 1])) w3:=fun w3 hb hv=>by
  rw [hv]
  exact⟨none,0,none,0,none,0,rfl,OwnC.nil _ _ _ _,SlR.nil _ _ _ _,⟨rfl,fun x hx=>(by simp at hx),fun h0=>absurd h0 (Nat.lt_irrefl _)⟩,fun x hx=>(by simp at hx),h'.out.all hb,TStep.of_below h'.out.t.plt hb,(GrowT.refl hG'.out).mono (by decide)⟩
 have hfail':=hid hfail
 cases hb:boolsT T ids
 case false=>
  rw [hb] at hbo' hdef
  have hv:=@hid (allFlat T ids=(([],[],[],1),T)) hdef.out
  clear hbo hb hdef hb1 hX1 hG hE hx h hfr hfail
  go_enter Tryz.func29,Tryz.ntmps29
  go_wp2_with fail
  refine hbo'.out.mono ?_;rintro e w3 ⟨rfl,hb3⟩
  have B3:=hid (B1.out.trans (hb3.mono B1.out.size))
  clear hb3
  go_wp2
  refine bodyPost_ret (v:=.tuple #[.slice none 0 0,.slice none 0 0,.slice none 0 0,.int .i64 1]) (by simp [results,Tryz.results29,go_sem, *]) rfl ?_
  exact hfail'.out _ B3.out hv.out
 case true=>
  rw [hb] at hbo' hdef
  have hhas:∀w2,Below w1.heap.size w1 w2→Calls Tryz.prog 80 #[.slice a n c,.func (.func 81) #[] [Value.pointer (some ⟨w.heap.size,0,none⟩)].toArray] w2 fun e w'=>e = .returned (.bool (ids.any (anyT T choiceN)))∧Below w2.heap.size w2 w':=fun w2 hb2=>
   hasG_any (anyT T choiceN) 81 [.pointer (some ⟨w.heap.size,0,none⟩)] a n c ids w2 ((hx'.out.below B1.out (Nat.le_refl _)).below hb2 (Nat.le_refl _)) hn
    (enters_of Tryz.func81 (by kernel_rfl) rfl) (fun w3 hb3 x hxm=>(anyT_X T X choiceN) ▸ fall1_any w0.heap.size p { T with X:=X } x w.heap.size w3 ((I1.out.t.all hb2).all hb3) (hG'.out.ok.X _) (hx'.out.wf x hxm) (cell_p ((hb3.block _ (Nat.lt_of_lt_of_le hz1 hb2.size)).trans ((hb2.block _ hz1).trans X1.out)) 0))
  have hhas':=hid hhas
  cases hc:ids.any (anyT T choiceN)
  case true=>
   rw [hc] at hhas' hdef
   have hv:=@hid (allFlat T ids=(([],[],[],1),T)) hdef.out
   clear hbo hb hc hdef hb1 hX1 hG hE hx h hfr hfail hhas
   go_enter Tryz.func29,Tryz.ntmps29
   go_wp2_with fail
   refine hbo'.out.mono ?_;rintro e w2 ⟨rfl,hb2⟩
   have hh2:=hid (hhas'.out w2 hb2)
   have B2:=hid (B1.out.trans (hb2.mono B1.out.size))
   clear hb2 hhas' hbo'
   go_wp2_with fail
   refine hh2.out.mono ?_;rintro e w3 ⟨rfl,hb3⟩
   have B3:=hid (B2.out.trans (hb3.mono B2.out.size))
   clear hb3 hh2
   go_wp2
   refine bodyPost_ret (v:=.tuple #[.slice none 0 0,.slice none 0 0,.slice none 0 0,.int .i64 1]) (by simp [results,Tryz.results29,go_sem, *]) rfl ?_
   exact hfail'.out _ B3.out hv.out
  case false=>
   rw [hc] at hhas' hdef
   have hdef2:=@hid (allFlat T ids=if (turnD flatF T flS0 ids).1.2=0 then(((turnD flatF T flS0 ids).1.1,(turnD flatF T flS0 ids).2.2.made,(turnD flatF T flS0 ids).2.2.more,0),(turnD flatF T flS0 ids).2.1) else(([],[],[],(turnD flatF T flS0 ids).1.2),(turnD flatF T flS0 ids).2.1)) hdef.out
   clear hbo hb hc hdef hb1 hX1 hG hE hx h hfr hfail hhas hfail'
   go_enter Tryz.func29,Tryz.ntmps29
   go_wp2_with fail
   refine hbo'.out.mono ?_;rintro e w2 ⟨rfl,hb2⟩
   have hh2:=hid (hhas'.out w2 hb2)
   have B2:=hid (B1.out.trans (hb2.mono B1.out.size))
   have X2:=hid ((hb2.block _ hz1).trans X1.out)
   have hz2:w.heap.size<w2.heap.size:=Nat.lt_of_lt_of_le hz1 hb2.size
   clear hb2 hhas' hbo' X1 I1
   go_wp2_with fail
   refine hh2.out.mono ?_;rintro e w3 ⟨rfl,hb3⟩
   have B3:=hid (B2.out.trans (hb3.mono B2.out.size))
   have X3:=(hb3.block _ hz2).trans X2.out
   have hz3:w.heap.size<w3.heap.size:=Nat.lt_of_lt_of_le hz2 hb3.size
   have qt:w3.cell? ⟨w.heap.size,0,none⟩=some (.pointer (some ⟨p,0,none⟩)):=cell_p X3 0
   have hb35:Below w3.heap.size w3 ((w3.alloc (.map #[] 0)).alloc (.cells #[.pointer (some ⟨p,0,none⟩),.map (some w3.heap.size),.slice none 0 0,.slice none 0 0] 145)):=below2 w3 _ _
   have X5:=(hb35.block _ hz3).trans X3
   have M5:=MapV.made (P:=Tryz.prog) (k:=3) w3
   have N5:=heap2b w3 (.map #[] 0) (.cells #[.pointer (some ⟨p,0,none⟩),.map (some w3.heap.size),.slice none 0 0,.slice none 0 0] 145)
   have M5:=M5.same (w':=(w3.alloc (.map #[] 0)).alloc (.cells #[.pointer (some ⟨p,0,none⟩),.map (some w3.heap.size),.slice none 0 0,.slice none 0 0] 145)) (Below.heap_alloc _ _ _ (by simp))
   have hb5:=B3.out.trans (hb35.mono B3.out.size)
   clear hb3 hh2 X2
   generalize hw5:(w3.alloc (.map #[] 0)).alloc (.cells #[.pointer (some ⟨p,0,none⟩),.map (some w3.heap.size),.slice none 0 0,.slice none 0 0] 145)=w5 at *
   have hs5:w3.heap.size+1<w5.heap.size:=(Array.getElem?_eq_some_iff.1 N5).1
   have FA:FlatAt w0 p (w3.heap.size+1) flS0 w5 w3.heap.size (.slice none 0 0) (.slice none 0 0):=by
    have hlo:w0.heap.size≤w3.heap.size:=Nat.le_trans h'.out.b.size B3.out.size
    refine⟨⟨Nat.le_succ_of_le hlo,hlo⟩,N5,⟨0,Nat.le_refl _,?_⟩,fun i x hi=>(by cases hi),OwnR.nil _ _ _ _ _,OwnC.nil _ _ _ _,Nat.le_refl _,fun x hx=>(by cases hx),fun k hk=>?_⟩
    ·rw [show mapI flS0.named=fun _=>none from rfl];exact M5
    ·obtain ⟨g,e,_⟩:=hk;cases e
   have hD5:∀k,FlatD p (w3.heap.size+1) flS0 w5 k→k=w3.heap.size+1∨k=w3.heap.size:=fun k hk=>by
    rcases (FlatD.iff N5 k).1 hk with e | e | e | e | e
    ·exact .inl e
    ·exact .inr e
    ·cases e
    ·cases e
    ·obtain ⟨g,e,_⟩:=e;cases e
   have C5:Cx w0 p (FlatJ w0 p (w3.heap.size+1)) (FlatD p (w3.heap.size+1)) X T flS0 w5:=by
    refine⟨(h'.out.more (Y:=fun k=>FlatD p (w3.heap.size+1) flS0 w5 k∨X k) hb5 fun k hk=>?_).t,h'.out.b.trans (hb5.mono h'.out.b.size),⟨_,_,_,FA⟩⟩
    rcases hk with hk | hk
    ·rcases hD5 k hk with e | e <;> exact .inr ⟨by omega,by omega⟩
    ·exact .inl hk
   have htn:=turn_any (flat_ok hE'.out p (w3.heap.size+1)) hE'.out X T flS0 a n c ids w5 C5 hG'.out hF (by decide) (hx'.out.below hb5 (Nat.le_refl _)) (fun h0 x e=>by
    obtain ⟨f1,f2⟩:=hfr'.out h0 x e
    refine⟨Nat.lt_of_lt_of_le f1 hb5.size,fun o=>f2 ((ownT.same (hb5.block p h'.out.t.plt)).1 o),fun o=>?_⟩
    rcases hD5 _ o with o | o <;> omega) hn
   unfold TurnPost at htn
   have htn':=hid htn
   have B5:=hid hb5
   have D5:=hid hD5
   have qt5:w5.cell? ⟨w.heap.size,0,none⟩=some (.pointer (some ⟨p,0,none⟩)):=cell_p X5 0
   generalize turnD flatF T flS0 ids=M at *
   obtain ⟨⟨l,er⟩,T4,s4⟩:=M
   dsimp only at hdef2 htn'
   clear htn hb35 X5 M5 N5 hb5 FA hD5 C5 X3
   go_wp2_with fail
   refine htn'.out.mono ?_;rintro e w6 ⟨a1,c1,rfl,o4,k4,c4,s4',g4,z4⟩
   have T6:=hid (show TStep p w w6 from⟨s4'.os.trans B5.out.os,s4'.tape.trans B5.out.tape,s4'.output.trans B5.out.output,Nat.le_trans B5.out.size s4'.size,fun k hk hno=>by
    have h3:=(TStep.of_below h'.out.t.plt B5.out).block k hk hno
    obtain ⟨e1,e2,_⟩:=s4'.block k (Nat.lt_of_lt_of_le hk B5.out.size) h3.2 (fun o=>by rcases D5.out k o with o | o <;> omega)
    exact⟨e1.trans h3.1,e2⟩⟩)
   have I6:=hid (c4.st.fewer (Y:=X) fun k hk=>.inr hk)
   have O6:=hid (o4.lower (base':=w.heap.size) (by have:=B5.out.size;omega))
   have K6:=hid k4
   have G6:=hid g4
   obtain ⟨bm,vm,vr,fa⟩:=c4.j
   obtain ⟨am,cm,rfl,_,_⟩:=fa.md.slice
   obtain ⟨ar,cr,rfl,_,_⟩:=fa.mr.slice
   have q2:w6.cell? ⟨w3.heap.size+1,2,none⟩=some (.slice am s4.made.length cm):=cell_p fa.blk 2
   have q3:w6.cell? ⟨w3.heap.size+1,3,none⟩=some (.slice ar s4.more.length cr):=cell_p fa.blk 3
   have FA6:=hid fa
   have ND6:=hid (show ∀k,((Value.slice am s4.made.length cm).ownBlock=some k∨RowB w6 (.slice am s4.made.length cm) s4.made.length k)→¬ownT p w6 k from fun k hk=>by
    refine(c4.x (.inl ((FlatD.iff fa.blk k).2 ?_))).2
    rcases hk with hk | hk
    ·exact .inr (.inr (.inl hk))
    ·exact .inr (.inr (.inr (.inr hk))))
   clear o4 k4 c4 s4' g4 z4 fa htn' qt qt5 hw5
   by_cases her:er=0
   case neg=>
    have hv:=@hid (allFlat T ids=(([],[],[],er),T4)) (by rw [hdef2.out,if_neg her])
    go_wp2
    refine bodyPost_ret (v:=.tuple #[.slice none 0 0,.slice none 0 0,.slice none 0 0,.int .i64 er]) (by simp [results,Tryz.results29,go_sem, *]) rfl ?_
    rw [hv.out]
    exact⟨none,0,none,0,none,0,rfl,OwnC.nil _ _ _ _,SlR.nil _ _ _ _,⟨rfl,fun x hx=>(by simp at hx),fun h0=>absurd h0 (Nat.lt_irrefl _)⟩,fun x hx=>(by simp at hx),I6.out,T6.out,G6.out⟩
   case pos=>
    subst her
    have hv:=@hid (allFlat T ids=((l,s4.made,s4.more,0),T4)) (by rw [hdef2.out,if_pos rfl])
    go_wp2
    refine wp_region_tt (S:=fun W=>Below w6.heap.size w6 W) 11 (by kernel_rfl) (by kernel_rfl) (keep_drew w6) (fun hHeld=>?_)
    refine tk (i:=0) (h:=?_)
    (try simp only [Act.put,sA,sB,sC])
    refine tk (i:=1) (h:=?_)
    (try simp only [Act.put,sA,sB,sC])
    refine tk (i:=2) (h:=?_)
    (try simp only [Act.put,sA,sB,sC])
    refine tk (i:=3) (h:=?_)
    (try simp only [Act.put,sA,sB,sC])
    refine tk (i:=4) (hy:=(Or.inl ⟨by rfl,by(intro W hSw;have hq1:=keep_cell hSw q2;go_simp <;> with_reducible rfl)⟩)) (h:=?_)
    (try simp only [Act.put,sA,sB,sC])
    refine tk (i:=5) (h:=?_)
    (try simp only [Act.put,sA,sB,sC])
    refine tk (i:=6) (h:=?_)
    (try simp only [Act.put,sA,sB,sC])
    refine tk (i:=7) (h:=?_)
    (try simp only [Act.put,sA,sB,sC])
    refine tk (i:=8) (hy:=(Or.inl ⟨by rfl,by(intro W hSw;have hq1:=keep_cell hSw q3;go_simp <;> with_reducible rfl)⟩)) (h:=?_)
    (try simp only [Act.put,sA,sB,sC])
    refine tk (i:=9) (h:=?_)
    (try simp only [Act.put,sA,sB,sC])
    refine tk (i:=10) (h:=?_)
    (try simp only [Act.put,sA,sB,sC])
    refine tt_tail (by decide +kernel) ?_
    simp only [List.drop_succ_cons,List.drop_zero]
    go_wp2
    refine bodyPost_ret (v:=.tuple #[.slice a1 l.length c1,.slice am s4.made.length cm,.slice ar s4.more.length cr,.int .i64 0]) (by simp [results,Tryz.results29,go_sem, *]) rfl ?_
    rw [hv.out]
    have hd:=keep_drew w6
    exact⟨a1,c1,am,cm,ar,cr,rfl,O6.out.same (fun _ _=>rfl),FA6.out.md.read (w:=w6) (fun k _ e=>ND6.out k (.inr e)) (fun k e=>ND6.out k (.inl e)),OwnC.rdX FA6.out.mr FA6.out.mo,K6.out,I6.out.all hd,T6.out.trans (TStep.of_below I6.out.t.plt hd),G6.out⟩
end Go.Proofs.YtgoojkiccdjplaaGreatDoor
