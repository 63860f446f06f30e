/-
  Parts of this claim's texts, one behind the other: UJ UK. No condition.
-/
import Derived.Test.YtgoojkiccdjplaaGreatDoorM35
set_option linter.unusedVariables false
set_option linter.unusedSimpArgs false
set_option maxRecDepth 100000
set_option maxHeartbeats 16000000
namespace Go.Proofs.YtgoojkiccdjplaaGreatDoor
open Go.RowKit Go.Sort Go.Lib
theorem drew_set4 {w:World} {b:Nat} {v:Value} {t:TypeId} (hb:w.heap[b]? = some (.cells #[v] t (0,0))):Below w.heap.size w (w.drew.setCell ⟨b,0,none⟩ v):=by
 refine⟨rfl,rfl,rfl,Nat.le_of_eq (size_set (w:=w.drew)).symm,fun k _=>?_⟩
 show((w.drew).setCell ⟨b,0,none⟩ v).heap[k]? = _
 unfold World.setCell
 rw [Array.getElem?_modify]
 by_cases e:b=k
 ·subst e
  rw [if_pos rfl,show(w.drew).heap[b]? = w.heap[b]? from rfl,hb]
  rfl
 ·rw [if_neg e];rfl
def AllPost (w0:World) (p:Nat) (X:Nat→Prop) (T:TermD) (R:(List Int × List Int × Int) × TermD) (w:World) (e:Ending) (w':World):Prop:=
 ∃a1 c1 a2 c2,e = .returned (.tuple #[.slice a1 R.1.1.length c1,.slice a2 R.1.2.1.length c2,.int .i64 R.1.2.2])∧OwnC w' w.heap.size 3 1 (.slice a1 R.1.1.length c1) R.1.1.length (R.1.1.map (Value.int .i64))∧OwnC w' w.heap.size 3 1 (.slice a2 R.1.2.1.length c2) R.1.2.1.length (R.1.2.1.map (Value.int .i64)) ∧
  (∀x∈R.1.1,okI x)∧St w0 p { R.2 with X:=X } w'∧TStep p w w'∧GrowT T R.2 1638400
theorem liftAll_any {w0:World} (hE:EnvT w0) (p:Nat) (X:Nat→Prop) (T:TermD) (a:Option Addr) (n c:Nat) (ids:List Int) (w:World) (h:St w0 p { T with X:=X } w) (hG:TermG T) (hF:T.fresh≤1000000000) (hx:RdI w a n ids) (hfr:0<n→∀x,a=some x→x.block<w.heap.size∧¬ownT p w x.block) (hn:n<1099511627776) :
  Calls Tryz.prog 21 #[.pointer (some ⟨p,0,none⟩),.slice a n c] w fun e w'=>AllPost w0 p X T (allLift T ids) w e w':=by
 have hb0:Below w.heap.size w ((w.alloc (.cells #[.pointer (some ⟨p,0,none⟩)] 26)).alloc (.cells #[.slice none 0 0] 23)):=below2 w _ _
 have ht2:=heap2a w (.cells #[.pointer (some ⟨p,0,none⟩)] 26) (.cells #[.slice none 0 0] 23)
 have hm2:=heap2b w (.cells #[.pointer (some ⟨p,0,none⟩)] 26) (.cells #[.slice none 0 0] 23)
 generalize hw2:(w.alloc (.cells #[.pointer (some ⟨p,0,none⟩)] 26)).alloc (.cells #[.slice none 0 0] 23)=w2 at *
 have hd0:∀k,LiftD w.heap.size (w.heap.size+1) [] w2 k↔k=w.heap.size∨k=w.heap.size+1:=fun k=>(LiftD.iff hm2 k).trans (by simp [Value.ownBlock])
 have hs2:w.heap.size+1<w2.heap.size:=(Array.getElem?_eq_some_iff.1 hm2).1
 have hC2:Cx w0 p (LiftJ w0 p w.heap.size (w.heap.size+1)) (LiftD w.heap.size (w.heap.size+1)) X T [] w2:=by
  refine⟨?_,h.b.trans (hb0.mono h.b.size),⟨⟨h.b.size,Nat.le_succ_of_le h.b.size,by omega⟩,ht2,_,hm2,OwnC.nil _ _ _ _⟩⟩
  have:=(h.more (Y:=fun k=>(k=w.heap.size∨k=w.heap.size+1)∨X k) hb0 (fun k hk=>by
   rcases hk with (rfl | rfl) | hk
   ·exact .inr ⟨Nat.le_refl _,by omega⟩
   ·exact .inr ⟨by omega,hs2⟩
   ·exact .inl hk)).t
  have e:(fun k=>LiftD w.heap.size (w.heap.size+1) [] w2 k∨X k)=(fun k=>(k=w.heap.size∨k=w.heap.size+1)∨X k):=funext fun k=>propext (or_congr (hd0 k) Iff.rfl)
  rw [e]
  exact this
 have hbo:=bools_any w0.heap.size p _ a n c ids w2 hC2.t (hx.below hb0 (Nat.le_refl _)) hn
 rw [show boolsT { T with X:=fun k=>LiftD w.heap.size (w.heap.size+1) [] w2 k∨X k } ids=boolsT T ids from rfl] at hbo
 have hbo':=hid hbo
 have hdef:=@hid (allLift T ids=if boolsT T ids then
  if (turnD liftF T [] ids).1.2=0 then(((turnD liftF T [] ids).1.1,(turnD liftF T [] ids).2.2,0),(turnD liftF T [] ids).2.1)
  else(([],[],(turnD liftF T [] ids).1.2),(turnD liftF T [] ids).2.1)
  else(([],[],1),T)) rfl
 have K:=hid (lift_ok hE p w.heap.size (w.heap.size+1))
 have hC2':=hid hC2
 have hT0:=hid (TStep.of_below h.t.plt hb0)
 have hB0:=hid hb0
 have hm2':=hid hm2
 have ht2':=hid ht2
 have hG':=hid hG
 have hE':=hid hE
 have hx':=hid hx
 have h':=hid h
 have hfr':=hid hfr
 have qt:w2.cell? ⟨w.heap.size,0,none⟩=some (.pointer (some ⟨p,0,none⟩)):=cell_p ht2 0
 have qm2:w2.cell? ⟨w.heap.size+1,0,none⟩=some (.slice none 0 0):=cell_p hm2 0
 have fm2:w2.frozen? ⟨w.heap.size+1,0,none⟩=false:=frz_p hm2 0
 cases hb:boolsT T ids
 case false=>
  rw [hb] at hbo' hdef
  have hv:=@hid (allLift T ids=(([],[],1),T)) hdef.out
  clear hbo hb hdef hb0 ht2 hm2 hC2 hG hE hx h hd0 hfr
  go_enter Tryz.func21,Tryz.ntmps21
  go_wp2_with fail
  refine hbo'.out.mono ?_;rintro e w3 ⟨rfl,hb3⟩
  have M3:=(hb3.block _ hs2).trans hm2'.out
  have qm:w3.cell? ⟨w.heap.size+1,0,none⟩=some (.slice none 0 0):=cell_p M3 0
  have fm:w3.frozen? ⟨w.heap.size+1,0,none⟩=false:=frz_p M3 0
  have B3:=hid (hB0.out.trans (hb3.mono hB0.out.size))
  have M3':=hid M3
  clear M3 hb3 qt qm2 fm2 hw2
  go_wp2
  refine bodyPost_ret (v:=.tuple #[.slice none 0 0,.slice none 0 0,.int .i64 1]) (by simp [results,Tryz.results21,go_sem, *]) rfl ?_
  rw [hv.out]
  have hb5:Below w.heap.size w (w3.setCell ⟨w.heap.size+1,0,none⟩ (.slice none 0 0)):=B3.out.setCell (Nat.le_succ _) _
  exact⟨none,0,none,0,rfl,OwnC.nil _ _ _ _,OwnC.nil _ _ _ _,fun x hx=>(by simp at hx),h'.out.all hb5,TStep.of_below h'.out.t.plt hb5,(GrowT.refl hG'.out).mono (by decide)⟩
 case true=>
  rw [hb] at hbo' hdef
  have hdef2:=@hid (allLift T ids=if (turnD liftF T [] ids).1.2=0 then(((turnD liftF T [] ids).1.1,(turnD liftF T [] ids).2.2,0),(turnD liftF T [] ids).2.1) else(([],[],(turnD liftF T [] ids).1.2),(turnD liftF T [] ids).2.1)) hdef.out
  clear hbo hb hdef hb0 ht2 hm2 hC2 hG hE hx h hd0 hfr
  go_enter Tryz.func21,Tryz.ntmps21
  go_wp2_with fail
  refine hbo'.out.mono ?_;rintro e w3 ⟨rfl,hb3⟩
  have M3:=hid ((hb3.block _ hs2).trans hm2'.out)
  have q3:w3.cell? ⟨w.heap.size,0,none⟩=some (.pointer (some ⟨p,0,none⟩)):=cell_p ((hb3.block _ (by omega)).trans ht2'.out) 0
  have B3:=hid (hB0.out.trans (hb3.mono hB0.out.size))
  have C3:=hid (hC2'.out.all K.out hb3)
  have hsz3:=hid (show w.heap.size+1<w3.heap.size from Nat.lt_of_lt_of_le hs2 hb3.size)
  have hD3:=hid (show ∀k,LiftD w.heap.size (w.heap.size+1) [] w3 k↔k=w.heap.size∨k=w.heap.size+1 from fun k=>(LiftD.iff M3.out k).trans (by simp [Value.ownBlock]))
  have htn:=turn_any K.out hE'.out X T [] a n c ids w3 C3.out.1 hG'.out hF (by decide) (hx'.out.below B3.out (Nat.le_refl _)) (fun hn x e=>by
   obtain ⟨f1,f2⟩:=hfr'.out hn x e
   refine⟨Nat.lt_of_lt_of_le f1 B3.out.size,fun o=>f2 ((ownT.same (B3.out.block p h'.out.t.plt)).1 o),fun o=>?_⟩
   rcases (hD3.out _).1 o with o | o <;> omega) hn
  unfold TurnPost at htn
  have htn':=hid htn
  clear htn hb3 qt qm2 fm2 hw2 hbo'
  generalize turnD liftF T [] ids=M at *
  obtain ⟨⟨l,er⟩,T4,s4⟩:=M
  dsimp only at hdef2 htn'
  go_wp2_with fail
  refine htn'.out.mono ?_;rintro e w4 ⟨a1,c1,rfl,o4,k4,c4,s4',g4,z4⟩
  obtain ⟨v,hv4,ho4⟩:=c4.j.m
  obtain ⟨a2,c2,rfl,hc1,hc2⟩:=ho4.slice
  have qm:w4.cell? ⟨w.heap.size+1,0,none⟩=some (.slice a2 s4.length c2):=cell_p hv4 0
  have fm:w4.frozen? ⟨w.heap.size+1,0,none⟩=false:=frz_p hv4 0
  have V4:=hid hv4
  have hI4:St w0 p { T4 with X:=fun k=>LiftD w.heap.size (w.heap.size+1) s4 w4 k∨X k } w4:=⟨c4.t,c4.b⟩
  have I4:=hid hI4
  have T4s:=hid (show TStep p w w4 from⟨s4'.os.trans B3.out.os,s4'.tape.trans B3.out.tape,s4'.output.trans B3.out.output,Nat.le_trans B3.out.size s4'.size,fun k hk hno=>by
   have h3:=(TStep.of_below h'.out.t.plt B3.out).block k hk hno
   obtain ⟨e1,e2,_⟩:=s4'.block k (Nat.lt_of_lt_of_le hk B3.out.size) h3.2 (fun o=>by rcases (hD3.out _).1 o with o | o <;> omega)
   exact⟨e1.trans h3.1,e2⟩⟩)
  have O4:=hid (o4.lower (base':=w.heap.size) (by have:=hsz3.out;omega))
  have O5:=hid (ho4.lower (base':=w.heap.size) (Nat.le_succ _))
  have K4:=hid k4
  have G4:=hid g4
  have hp4:=h'.out.t.plt
  clear o4 k4 c4 s4' g4 z4 hv4 ho4 hI4 hp4 htn'
  by_cases her:er=0
  case neg=>
   have hv:=@hid (allLift T ids=(([],[],er),T4)) (by rw [hdef2.out,if_neg her])
   go_wp2
   refine bodyPost_ret (v:=.tuple #[.slice none 0 0,.slice none 0 0,.int .i64 er]) (by simp [results,Tryz.results21,go_sem, *]) rfl ?_
   rw [hv.out]
   have hb5:Below (w.heap.size+1) w4 (w4.setCell ⟨w.heap.size+1,0,none⟩ (.slice none 0 0)):=(Below.refl (w.heap.size+1) w4).setCell (p:=⟨w.heap.size+1,0,none⟩) (Nat.le_refl (w.heap.size+1)) _
   refine⟨none,0,none,0,rfl,OwnC.nil _ _ _ _,OwnC.nil _ _ _ _,fun x hx=>(by simp at hx),?_,T4s.out.thenBelow hb5 (Nat.le_succ _) h'.out.t.plt,G4.out⟩
   refine I4.out.excl (X':=X) (hb5.mono (Nat.le_succ_of_le h'.out.b.size)) (fun k hk hn=>Below.heap_setCell _ _ _ _ (fun e=>hn (.inl ((LiftD.iff V4.out k).2 (.inr (.inl e)))))) (fun k hk=>?_)
   obtain ⟨q,u1,u2,m,ha⟩:=I4.out.t
   exact⟨.inl (.inr hk),by rw [size_set];exact(ha.xlt k (.inr hk)).1⟩
  case pos=>
   subst her
   have hv:=@hid (allLift T ids=((l,s4,0),T4)) (by rw [hdef2.out,if_pos rfl])
   have FIN:=hid (show ∀W,Below w4.heap.size w4 W→AllPost w0 p X T ((l,s4,0),T4) w (.returned (.tuple #[.slice a1 l.length c1,.slice a2 s4.length c2,.int .i64 0])) W from fun W hW=>
    ⟨a1,c1,a2,c2,rfl,O4.out.same (fun k hk=>hW.block k (O4.out.lt k hk).2),O5.out.same (fun k hk=>hW.block k (O5.out.lt k hk).2),K4.out,(I4.out.fewer (fun k hk=>.inr hk)).all hW,T4s.out.trans (TStep.of_below I4.out.t.plt hW),G4.out⟩)
   go_wp2
   refine wp_region_tt (S:=fun W=>Below w4.heap.size w4 W) 3 (by kernel_rfl) (by kernel_rfl) (keep_drew w4) (fun hHeld=>?_)
   refine tk (i:=0) (h:=?_)
   (try simp only [Act.put,sA,sB,sC])
   refine tk (i:=1) (hy:=(Or.inl ⟨by rfl,by(intro W hSw;have hq1:=keep_cell hSw qm;go_simp <;> with_reducible rfl)⟩)) (h:=?_)
   (try simp only [Act.put,sA,sB,sC])
   refine tk (i:=2) (h:=?_)
   (try simp only [Act.put,sA,sB,sC])
   refine tt_tail (by decide +kernel) ?_
   simp only [List.drop_succ_cons,List.drop_zero]
   go_wp2
   refine bodyPost_ret (v:=.tuple #[.slice a1 l.length c1,.slice a2 s4.length c2,.int .i64 0]) (by simp [results,Tryz.results21,go_sem, *]) rfl ?_
   rw [hv.out]
   exact FIN.out _ (drew_set4 V4.out)
end Go.Proofs.YtgoojkiccdjplaaGreatDoor
