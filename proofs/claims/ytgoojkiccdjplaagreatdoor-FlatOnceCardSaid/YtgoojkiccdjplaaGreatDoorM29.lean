/-
  Parts of this claim's texts, one behind the other: UC. No condition.
-/
import Derived.Test.YtgoojkiccdjplaaGreatDoorM28
set_option linter.unusedVariables false
set_option linter.unusedSimpArgs false
set_option maxRecDepth 100000
set_option maxHeartbeats 16000000
namespace Go.Proofs.YtgoojkiccdjplaaGreatDoor
open Go.RowKit Go.Sort Go.Lib
def rowB (v:Value) (k:Nat):Prop:=v.ownBlock=some k
structure OnlyB (S:Nat→Prop) (w w':World):Prop where
 os:w'.os=w.os
 tape:w'.tape=w.tape
 output:w'.output=w.output
 size:w'.heap.size=w.heap.size
 block:∀k,¬S k→w'.heap[k]? = w.heap[k]?
theorem OnlyB.refl (S:Nat→Prop) (w:World):OnlyB S w w:=⟨rfl,rfl,rfl,rfl,fun _ _=>rfl⟩
theorem OnlyB.set {S:Nat→Prop} {w w':World} (h:OnlyB S w w') {b:Nat} (hb:S b) (i:Nat) (v:Value):OnlyB S w (w'.setCell ⟨b,i,none⟩ v):=
 ⟨h.os,h.tape,h.output,size_set.trans h.size,fun k hk=>(Below.heap_setCell _ _ _ _ (fun e=>hk (by rw [show k=b from e];exact hb))).trans (h.block k hk)⟩
theorem OnlyB.below {S:Nat→Prop} {w w':World} (h:OnlyB S w w') {B:Nat} (hS:∀k,S k→B≤k):Below B w w':=
 ⟨h.os,h.tape,h.output,Nat.le_of_eq h.size.symm,fun k hk=>h.block k fun e=>by have:=hS k e;omega⟩
theorem OwnC.set {w:World} {base g c n:Nat} {e:TypeId} {xs:List Value} (h:OwnC w base e 1 (.slice (some ⟨g,0,none⟩) n c) n xs) {i:Nat} (hi:i<n) (v:Value):OwnC (w.setCell ⟨g,i,none⟩ v) base e 1 (.slice (some ⟨g,0,none⟩) n c) n (xs.set i v):=by
 refine⟨by rw [List.length_set];exact h.1,?_⟩
 rcases h.2 with ⟨hv,h0⟩ | ⟨g',cap,cur,hv,hb,hc,h1,h2,h3,h4⟩
 ·omega
 ·injection hv with e1 e2 e3
  injection e1 with e1
  injection e1 with e1
  subst e1 e3
  refine .inr ⟨g,c,cur.setIfInBounds i v,rfl,hb,?_,h1,h2,by rw [Array.size_setIfInBounds];exact h3,?_⟩
  ·unfold World.setCell
   rw [Array.getElem?_modify,if_pos rfl,hc]
   rfl
  ·rw [←h4,Array.toList_setIfInBounds,List.take_set]
theorem OwnC.ty0 {w:World} {base s n:Nat} {e:TypeId} {v:Value} {xs:List Value} (h:OwnC w base e s v n xs):∀k,v.ownBlock=some k→∃cs,w.heap[k]? = some (.cells cs e (0,0)):=fun k hk=>by
 rcases h.2 with ⟨hv,_⟩ | ⟨g,cap,cur,hv,_,hc,_⟩
 ·rw [hv] at hk;cases hk
 ·rw [hv] at hk;injection hk with hk;exact⟨cur,hk ▸ hc⟩
theorem OwnC.rdX {w:World} {base n c:Nat} {a:Option Addr} {xs:List Int} (h:OwnC w base 3 1 (.slice a n c) n (xs.map (Value.int .i64))) (hx:∀x∈xs,okI x):RdI w a n xs:=by
 have hl:=h.1
 have hl2:xs.length=n:=by simpa using hl
 refine⟨hl2,hx,fun hn=>?_⟩
 obtain ⟨g,cap,hv,h3,h4⟩:=h.form hn
 injection hv with e1 e2 e3
 subst e1
 refine⟨g,0,rfl,h4,fun j hj=>?_⟩
 rw [Nat.zero_add]
 refine h.cells rfl j _ ?_
 have hj2:j<xs.length:=by omega
 rw [List.getElem?_map,List.getElem?_eq_getElem hj2,nth_eq hj2];rfl
theorem toA_step {tm:Int→Option Int} {args:List Int} {i:Nat} (h:i<args.length):(toA tm (args.take i)++args.drop i).set i ((tm (nth args i)).getD 0)=toA tm (args.take (i+1))++args.drop (i+1):=by
 have hl:(toA tm (args.take i)).length=i:=by unfold toA;rw [List.length_map,List.length_take];omega
 rw [List.set_append_right _ _ (by omega),hl,Nat.sub_self,List.drop_eq_getElem_cons h,List.set_cons_zero,List.take_succ_eq_append_getElem h]
 unfold toA
 rw [List.map_append,List.append_assoc,nth_eq h]
 rfl
theorem sameA_step {tm:Int→Option Int} {args:List Int} {i:Nat} (h:i<args.length):sameA tm (args.take (i+1))=(sameA tm (args.take i) && ((tm (nth args i)).getD 0 == nth args i)):=by
 unfold sameA
 rw [List.take_succ_eq_append_getElem h,List.all_append,nth_eq h]
 simp
theorem toA_len (tm:Int→Option Int) (l:List Int):(toA tm l).length=l.length:=List.length_map _
theorem put_bdU {T : TermD} (h : SmT T) (n : NodeD) : 0 ≤ (putD T n).1.1 ∧ (putD T n).1.1 ≤ 16384 := by
  have hle := h.le
  cases hk : T.ids (keyB n) with
  | some i => rw [put_some hk]; have := h.ids _ _ hk; dsimp only; omega
  | none =>
    by_cases hl : 16384 ≤ T.nodes.length
    · rw [put_full hk hl]; dsimp only; omega
    · rw [put_addN hk (by omega)]; dsimp only; omega
theorem make_bdU {T:TermD} (h:SmT T) (op:Int) (nm:ByteArray) (val:RatD) (args:List Int):0≤(makeD T op nm val args).1.1∧(makeD T op nm val args).1.1≤16384:=by
 unfold makeD
 split
 ·dsimp only;omega
 ·split
  ·dsimp only;omega
  ·split
   ·dsimp only;omega
   ·split
    ·exact put_bdU h _
    ·dsimp only;omega
def TurnPost (w0:World) (p:Nat) {τ:Type} (J:τ→World→Prop) (D:τ→World→Nat→Prop) (sz:τ→Nat) (Y:Nat→Prop) (T:TermD) (s:τ) (R:(List Int × Int) × TermD × τ) (w:World) (e:Ending) (w':World):Prop:=
 ∃a c,e = .returned (.tuple #[.slice a R.1.1.length c,.int .i64 R.1.2])∧OwnC w' w.heap.size 3 1 (.slice a R.1.1.length c) R.1.1.length (R.1.1.map (Value.int .i64))∧(∀x∈R.1.1,okI x) ∧
  Cx w0 p J D Y R.2.1 R.2.2 w'∧OStep p (D s w) (D R.2.2 w') w w'∧GrowT T R.2.1 1638400∧sz R.2.2≤sz s+1638400
section
variable {τ : Type}
theorem turn_any {w0:World} {p fv:Nat} {pre caps:List Value} {f:OtherF τ} {J:τ→World→Prop} {D:τ→World→Nat→Prop} {sz:τ→Nat} (K:OtherOk w0 p fv pre caps f J D sz) (hE:EnvT w0) (Y:Nat→Prop) (T:TermD) (s:τ) (a:Option Addr) (n c:Nat) (ids:List Int) (w:World)
  (h:Cx w0 p J D Y T s w) (hG:TermG T) (hF:T.fresh≤1000000000) (hZ:sz s≤1000000000) (hx:RdI w a n ids) (hfr:0<n→∀x,a=some x→x.block<w.heap.size∧¬ownT p w x.block∧¬D s w x.block) (hn:n<1099511627776) :
  Calls Tryz.prog 72 #[.pointer (some ⟨p,0,none⟩),.slice a n c,.func (.func fv) pre.toArray caps.toArray] w fun e w'=>TurnPost w0 p J D sz Y T s (turnD f T s ids) w e w':=by
 have hmm:=@run_makeMap Tryz.prog
 have hK:=hid K
 have hE':=hid hE
 have hG':=hid hG
 have hx':=hid hx
 have hb1:Below w.heap.size w (w.alloc (.map #[] 0)):=(Below.refl _ _).alloc (Nat.le_refl _) _
 have hc1:=h.all K hb1
 have hwk:=walk_any w0.heap.size p _ a n c ids _ hc1.1.t (hG.ok.X _) (hx.below hb1 (Nat.le_refl _)) hn
 rw [walkT_X] at hwk
 have hwk':=hid hwk
 have hwo:=walkT_ok hG.ok.ord ids
 have hrange:=hid hwo.2
 have hlen:=hid hwo.1.small.2
 have hle:=hid hG.ok.sm.le
 have hTD:=@hid (turnD f T s ids=outT ids (turnL f (walkT T ids).2 ⟨fun _=>none,T,s⟩)) rfl
 have hC:=hid h
 have hFr:=hid hfr
 generalize turnD f T s ids=RR at *
 generalize (walkT T ids).2=L at *
 clear hwk hwo hc1 hb1 K hE hG hx h hfr
 go_enter Tryz.func72,Tryz.ntmps72
 go_wp2_with fail
 refine hwk'.out.mono ?_;rintro e w2 ⟨aL,cL,rfl,oL,b2⟩
 have hL2:LoopT w0 w p J D sz (sz s) Y T (D s w) w.heap.size n a ids L.length aL L 0 0 ⟨fun _=>none,T,s⟩ w2:=by
  have K:=hK.out
  have hb1:Below w.heap.size w (w.alloc (.map #[] 0)):=(Below.refl _ _).alloc (Nat.le_refl _) _
  have hb2:=hb1.trans (b2.mono hb1.size)
  obtain ⟨hc,hd⟩:=hC.out.excl K (w':=w2) (Y':=fun k=>Y k∨k=w.heap.size) (hb2.mono hC.out.b.size) (fun k hk _=>hb2.block k hk) (fun k hk=>hb2.block k (hC.out.x (.inl hk)).1) (fun k hk=>by
   rcases hk with hk | rfl
   ·exact⟨.inl hk,Nat.lt_of_lt_of_le (hC.out.x (.inr hk)).1 hb2.size⟩
   ·exact⟨.inr (Nat.le_refl _),Nat.lt_of_lt_of_le (by rw [World.size_alloc];omega) b2.size⟩)
  have hos:OStep p (D s w) (D s w2) w w2:=OStep.ofBelow hC.out.plt hb2 fun k _ e=>(hd k).1 e
  have hp2:w2.heap[p]? = w.heap[p]?:=hb2.block p hC.out.plt
  have hnew:∀k,w.heap.size≤k→k<w2.heap.size→k<w2.heap.size∧¬ownT p w2 k∧¬D s w2 k:=fun k h1 h2=>by
   refine⟨h2,fun e=>?_,fun e=>?_⟩
   ·obtain ⟨q,u1,u2,m,ha⟩:=hC.out.t
    have:=(ha.ownB ((ownT.same hp2).1 e)).2
    omega
   ·have:=(hC.out.x (.inl ((hd k).1 e))).1
    omega
  refine⟨hc,⟨hG'.out,Nat.le_refl _,by show T.fresh≤_;omega⟩,⟨0,Nat.le_refl _,(MapV.made (P:=Tryz.prog) (k:=3) w).same (b2.block _ (by rw [World.size_alloc];omega))⟩,fun i x hi=>(by cases hi),hos,fun k hk=>?_,hx'.out.below hb2 (Nat.le_refl _),(RdI.own oL (fun x hx=>by have:=hrange.out x hx;have:=hle.out;omega)).2.1,⟨hC.out.b.size,Nat.le_refl _⟩,Nat.le_add_right _ _⟩
  rcases hk with rfl | ⟨h1,x,hx,rfl⟩ | ⟨h1,x,hx,rfl⟩
  ·exact hnew _ (Nat.le_refl _) (Nat.lt_of_lt_of_le (by rw [World.size_alloc];omega) b2.size)
  ·obtain ⟨f1,f2,f3⟩:=hFr.out h1 x hx
   exact⟨Nat.lt_of_lt_of_le f1 hb2.size,(hos.block _ f1 f2 f3).2⟩
  ·obtain ⟨g1,g2⟩:=(RdI.own oL (fun x hx=>by have:=hrange.out x hx;have:=hle.out;omega)).2.2 x hx
   rw [World.size_alloc] at g1
   exact hnew _ (by omega) g2
 have HL:=hid hL2
 have hm1:=hid (show n=0∨∀y,a=some y→y.block≠w.heap.size from by
  by_cases h0:n=0
  ·exact .inl h0
  ·exact .inr fun y hy e=>by have:=(hFr.out (by omega) y hy).1;omega)
 have hm2:=hid (show L.length=0∨∀y,aL=some y→y.block≠w.heap.size from by
  refine .inr fun y hy e=>?_
  obtain ⟨g1,g2⟩:=(RdI.own oL (fun x hx=>by have:=hrange.out x hx;have:=hle.out;omega)).2.2 y hy
  rw [World.size_alloc] at g1
  omega)
 clear hL2 oL b2 hwk' hFr hx'
 go_wp2
 go_loopw [6,7,10,11,12,13,14,15,16,17,25] (fun v6 v7 _ _ _ _ _ _ _ _ v25 wr=>∃(k:Nat) (st:TS τ),k≤L.length∧v25 = .int .i64 k∧v6 = .slice none 0 0∧v7 = .int .i64 0∧Hid (turnL f (L.take k) ⟨fun _=>none,T,s⟩=(0,st))∧Hid (LoopT w0 w p J D sz (sz s) Y T (D s w) w.heap.size n a ids L.length aL L k (100 * k) st wr)) (fun _ _ _ _ _ _ _ _ _ _ v25 _=>L.length - (intOf v25).toNat)
 case atStart=>exact⟨0,_,Nat.zero_le _,rfl,rfl,rfl,rfl,HL.out⟩
 case round=>
  obtain ⟨k,st,hk,rfl,rfl,rfl,htl,hLp⟩:=hrel
  by_cases hlt:k<L.length
  ·obtain ⟨u,rfl⟩:∃u,u=wr:=⟨_,rfl⟩
   have hl16:k<16384:=by have:=hlen.out;have:=hle.out;omega
   obtain ⟨bL,oLL,rfl,kL⟩:=hLp.out.r2.at k hlt
   obtain ⟨g0,g1⟩:=hrange.out (nth L k) (nth_mem hlt)
   have hsn:=turnL_snoc f (L.take k) (nth L k) _ _ htl.out
   rw [show L.take k ++ [nth L k]=L.take (k+1) from by rw [List.take_succ_eq_append_getElem hlt,nth_eq hlt]] at hsn
   obtain ⟨i,hi⟩:=Int.eq_ofNat_of_zero_le g0
   rw [hi] at kL g1 hsn
   have hin:i<st.T.nodes.length:=by have:=hLp.out.g.len;omega
   have hng:=hLp.out.g.g.at hin
   have hsz:=hLp.out.g.g.ok.sn _ (List.mem_of_getElem? (nodeAt_nat hin))
   obtain ⟨q,va,vc,va2,vc2,mm,ha⟩:=hLp.out.cx.t.look
   have k1:u.cell? ⟨p,1,none⟩=some (.slice va st.T.nodes.length vc):=cell_p ha.blk 1
   obtain ⟨b,o,a',c',b',d,g,e,rfl,hnd,hc⟩:=(ha.nodes.read (S':=fun _=>True) (fun _ _ _=>trivial) (fun _ _=>trivial)).nodeAt (nodeAt_nat hin)
   have hown:=hid (own2_any (nodeAt st.T i) a' b' g c' d e u hnd hsz.1 hsz.2.1 hsz.2.2)
   have hc:∀(j:Nat) (v:Value),(nodeC (nodeAt st.T i) a' c' b' d g e)[j]? = some v→u.cell? ⟨b,o+i * 7+j,none⟩=some v:=hc
   have q0:=hc 0 _ rfl
   rw [Nat.add_zero] at q0
   have q1:=hc 1 _ rfl
   have q2:=hc 2 _ rfl
   have q3:=hc 3 _ rfl
   have q4:=hc 4 _ rfl
   have q5:=hc 5 _ rfl
   have q6:=hc 6 _ rfl
   have hki:(i:Int)<st.T.nodes.length:=by omega
   have hiI:okI (i:Int):=by have:=hLp.out.g.g.ok.sm.le;unfold okI;omega
   have hS1:=@hid (turnL f (L.take (k+1)) ⟨fun _=>none,T,s⟩=turnR st i (nodeAt st.T i) (f st.T st.s i (withArgs (nodeAt st.T i) (toA st.tm (nodeAt st.T i).args)))) hsn
   have hng':=hid hng
   have hal:(nodeAt st.T i).args.length≤64:=hng.args
   clear ha hnd hc hsz hsn hng hi g0 htl
   generalize nodeAt st.T i=x at *
   obtain ⟨op,nm,⟨ng,nu,de⟩,args,so⟩:=x
   dsimp only at q0 q1 q2 q3 q4 q5 q6 hown hal
   go_wp2_with fail
   refine hown.out.mono ?_;rintro e1 w3 ⟨a3,c3,b3,d3,g3,e3,rfl,n3,x3,hb3⟩
   have hB4:Below u.heap.size u (w3.alloc (.cells #[.int .i64 op,.string nm,.bool ng,.slice a3 nu.length c3,.slice b3 de.length d3,.slice g3 args.length e3,.int .i64 so] 38)):=hb3.alloc hb3.size _
   have B4:=hid hB4
   have X4:=hid (heap_alloc_new w3 (.cells #[.int .i64 op,.string nm,.bool ng,.slice a3 nu.length c3,.slice b3 de.length d3,.slice g3 args.length e3,.int .i64 so] 38))
   have hw34:Below w3.heap.size w3 (w3.alloc (.cells #[.int .i64 op,.string nm,.bool ng,.slice a3 nu.length c3,.slice b3 de.length d3,.slice g3 args.length e3,.int .i64 so] 38)):=(Below.refl _ _).alloc (Nat.le_refl _) _
   have E4:=hid (x3.move (Below.dat hw34) hw34.size)
   have N4:=hid (n3.move (Below.dat hw34) hw34.size)
   have hxs:u.heap.size≤w3.heap.size:=hb3.size
   obtain ⟨hg3,hg4⟩:args.length≤e3∧e3≤maxLen:=n3.ac
   clear hB4 hw34 n3 x3 hb3 hown q0 q1 q2 q3 q4 q5 q6 k1 kL
   go_wp2
   generalize hW4:w3.alloc (.cells #[.int .i64 op,.string nm,.bool ng,.slice a3 nu.length c3,.slice b3 de.length d3,.slice g3 args.length e3,.int .i64 so] 38)=w4 at *
   generalize hxb:w3.heap.size=xb at *
   clear hW4 hxb
   go_loopw [12,13,14,40] (fun v12 _ _ v40 ww=>∃j:Nat,j≤args.length∧v40 = .int .i64 j∧v12 = .bool (sameA st.tm (args.take j))∧Hid (OnlyB (rowB (.slice g3 args.length e3)) w4 ww)∧Hid (OwnC ww u.heap.size 3 1 (.slice g3 args.length e3) args.length ((toA st.tm (args.take j)++args.drop j).map (Value.int .i64)))) (fun _ _ _ v40 _=>args.length - (intOf v40).toNat)
   case atStart=>exact⟨0,Nat.zero_le _,rfl,rfl,OnlyB.refl _ _,E4.out.ow⟩
   case round=>
    obtain ⟨j,hj,rfl,rfl,hO,hR⟩:=hrel
    by_cases hlj:j<args.length
    ·obtain ⟨gb,cap3,hv3,hgl,hglt⟩:=hR.out.form (by omega)
     injection hv3 with hv3 _ hv4
     subst hv3 hv4
     have hRl:(toA st.tm (args.take j)++args.drop j)[j]? = some (nth args j):=by
      have hl:(toA st.tm (args.take j)).length=j:=by rw [toA_len,List.length_take];omega
      rw [List.getElem?_append_right (by omega),hl,Nat.sub_self,List.getElem?_drop,Nat.add_zero,List.getElem?_eq_getElem hlj,nth_eq hlj]
     have gj:wr.cell? ⟨gb,j,none⟩=some (.int .i64 (nth args j)):=hR.out.cells rfl j _ (by rw [List.getElem?_map,hRl];rfl)
     have gf:wr.frozen? ⟨gb,j,none⟩=false:=by
      obtain ⟨cs,hc⟩:=hR.out.ty0 gb rfl
      exact frz_p hc j
     have hxg:xb≠gb:=fun e=>by
      obtain ⟨cs,f,hc⟩:=E4.out.ow.ty gb rfl
      rw [←e,X4.out] at hc
      injection hc with hc
      injection hc with _ hc _
      exact absurd hc (by decide)
     have hX:=(hO.out.block xb (fun e=>hxg (by injection e with e;exact e.symm))).trans X4.out
     have bx:wr.cell? ⟨xb,5,none⟩=some (.slice (some ⟨gb,0,none⟩) args.length e3):=cell_p hX 5
     obtain ⟨cm,hcm,hm0⟩:=hLp.out.mp
     have hmu:=(hLp.out.fr w.heap.size (.inl rfl)).1
     have hmg:w.heap.size≠gb:=by omega
     have hm:=(hm0.same (B4.out.block _ hmu)).same (hO.out.block w.heap.size (fun e=>hmg (by injection e with e;exact e.symm)))
     have hao:okI (nth args j):=N4.out.args.toI.wf _ (nth_mem hlj)
     have hlk:=hm.look Tryz.underlying3 Tryz.underlying143 (zero_int wr) (x:=nth args j) hao
     have hlk2:=(hm.setCell (a:=⟨gb,j,none⟩) hmg (.int .i64 ((st.tm (nth args j)).getD 0))).look Tryz.underlying3 Tryz.underlying143 (zero_int _) (x:=nth args j) hao
     rw [mapI_get] at hlk hlk2
     have hO2:=hid (hO.out.set (b:=gb) (show rowB _ gb from rfl) j (.int .i64 ((st.tm (nth args j)).getD 0)))
     have hR2:=hid (show OwnC (wr.setCell ⟨gb,j,none⟩ (.int .i64 ((st.tm (nth args j)).getD 0))) u.heap.size 3 1 (.slice (some ⟨gb,0,none⟩) args.length e3) args.length ((toA st.tm (args.take (j+1))++args.drop (j+1)).map (Value.int .i64)) from by
      rw [←toA_step hlj,List.map_set]
      exact hR.out.set hlj _)
     have hss:=hid (sameA_step (tm:=st.tm) hlj)
     have hji:(j:Int)<args.length:=by omega
     clear hm hm0 hcm hao hX hO hR
     generalize (st.tm (nth args j)).getD 0=y at *
     generalize nth args j=z at *
     cases hsa:sameA st.tm (args.take j)
     all_goals
      rw [hsa] at hss
      go_wp2
      go_roundw
      case rel=>exact⟨j+1,by omega,by go_num,by rw [hss.out];rfl,hO2.out,hR2.out⟩
      case measure=>simp [intOf];omega
    ·obtain rfl:j=args.length:=by omega
     have hR':=hR.out
     rw [List.take_length,List.drop_length,List.append_nil] at hR'
     have hgne:∀b,DatU u.heap.size w4 b→¬rowB (.slice g3 args.length e3) b:=fun b hb e=>by
      obtain ⟨cs,f,hc⟩:=E4.out.ow.ty b e
      obtain ⟨⟨cs2,f2,hc2⟩,_⟩:=hb
      rw [hc] at hc2
      injection hc2 with hc2
      injection hc2 with _ hc2 _
      exact absurd hc2 (by decide)
     have hxg:¬rowB (.slice g3 args.length e3) xb:=fun e=>by
      obtain ⟨cs,f,hc⟩:=E4.out.ow.ty xb e
      rw [X4.out] at hc
      injection hc with hc
      injection hc with _ hc _
      exact absurd hc (by decide)
     have X5:=(hO.out.block xb hxg).trans X4.out
     have B5:Below u.heap.size u wr:=B4.out.trans (hO.out.below fun k hk=>(E4.out.ow.lt k hk).1)
     have hD5:=(hLp.out.cx.all hK.out B5).2
     have hnD:∀b,u.heap.size≤b→¬D st.s wr b:=fun b hb e=>by have:=(hLp.out.cx.x (.inl ((hD5 b).1 e))).1;omega
     have hnT:∀b,u.heap.size≤b→¬ownT p wr b:=fun b hb e=>by
      obtain ⟨q,v1,v2,m,ha⟩:=hLp.out.cx.t
      have:=(ha.ownB ((ownT.same (B5.block p hLp.out.cx.plt)).1 e)).2
      omega
     have hao:∀z∈toA st.tm args,okI z:=fun z hz=>by
      obtain ⟨y,_,rfl⟩:=List.mem_map.1 hz
      cases hy:st.tm y with
      | none=>exact⟨by decide,by decide⟩
      | some v=>exact hLp.out.ok y v hy
     have hargs:SlR Rep.int (fun k=>DatB wr k∧u.heap.size≤k) wr g3 args.length (toA st.tm args):=SlR.ofI (OwnC.rdX hR' hao) fun y hn e=>by
      obtain ⟨gb,cap,hv,hl,_⟩:=hR'.form hn
      injection hv with h1 h2 h3
      rw [h1] at e
      injection e with e
      subst e
      exact⟨hR'.dat gb (by rw [h1];rfl),hl⟩
     have hnum:SlR Rep.u64 (fun k=>DatB wr k∧u.heap.size≤k) wr a3 nu.length nu:=(E4.out.num.keep (fun b _ hb=>hO.out.block b (hgne b hb)) (Nat.le_of_eq hO.out.size.symm)).mono fun b _ hb=>⟨hb.dat.same (hO.out.block b (hgne b hb)),hb.2⟩
     have hden:SlR Rep.u64 (fun k=>DatB wr k∧u.heap.size≤k) wr b3 de.length de:=(E4.out.den.keep (fun b _ hb=>hO.out.block b (hgne b hb)) (Nat.le_of_eq hO.out.size.symm)).mono fun b _ hb=>⟨hb.dat.same (hO.out.block b (hgne b hb)),hb.2⟩
     have N5:NodeS (fun k=>DatB wr k∧u.heap.size≤k) wr (withArgs ⟨op,nm,⟨ng,nu,de⟩,args,so⟩ (toA st.tm args)) a3 c3 b3 d3 g3 e3:=
      ⟨hnum,N4.out.nc,hden,N4.out.dc,by show SlR _ _ _ _ (toA st.tm args).length _;rw [toA_len];exact hargs,by show(toA st.tm args).length≤_∧_;rw [toA_len];exact⟨hg3,hg4⟩,N4.out.op,N4.out.sort⟩
     have L5:=hid (hLp.out.all hK.out B5)
     have hnX:=hng'.out.withArgs (toA_len st.tm args)
     have hfr5:st.T.fresh≤1000000000000:=by have:=hLp.out.g.fr;omega
     have hzs5:sz st.s≤1000000000000:=by have:=hLp.out.ss;omega
     have e5:nodeV (withArgs ⟨op,nm,⟨ng,nu,de⟩,args,so⟩ (toA st.tm args)) a3 c3 b3 d3 g3 e3 = .agg #[.int .i64 op,.string nm,.bool ng,.slice a3 nu.length c3,.slice b3 de.length d3,.slice g3 args.length e3,.int .i64 so]:=by
      show Value.agg #[.int .i64 op,.string nm,.bool ng,.slice a3 nu.length c3,.slice b3 de.length d3,.slice g3 (toA st.tm args).length e3,.int .i64 so]=_
      rw [toA_len]
     have hcall:=(hK.out.call (fun k=>Y k∨k=w.heap.size) st.T st.s wr i _ a3 c3 b3 d3 g3 e3 L5.out.cx L5.out.g.g hfr5 hzs5 hnX hiI (N5.mono fun b _ hb=>⟨hb.1,hnD b hb.2⟩))
     rw [e5] at hcall
     have hcall':=hid hcall
     clear hcall e5
     have hgr:=hid (hK.out.grow st.T st.s wr i _ L5.out.cx.j L5.out.g.g hfr5 hnX)
     have hS1':=hS1.out
     generalize f st.T st.s i (withArgs ⟨op,nm,⟨ng,nu,de⟩,args,so⟩ (toA st.tm args))=r at *
     obtain ⟨⟨x,is,er⟩,T6,s6⟩:=r
     dsimp only at hcall' hgr
     unfold turnR at hS1'
     dsimp only at hS1'
     have N5':=hid N5
     have X5':=hid X5
     have hND:=hid hnD
     have hNT:=hid hnT
     have r0:=cell_p X5 0
     have r1:=cell_p X5 1
     have r2:=cell_p X5 2
     have r3:=cell_p X5 3
     have r4:=cell_p X5 4
     have r5:=cell_p X5 5
     have r6:=cell_p X5 6
     simp only [List.getElem?_toArray,List.getElem?_cons_succ,List.getElem?_cons_zero] at r0 r1 r2 r3 r4 r5 r6
     rw [List.take_length]
     clear hR hR' hgne hxg X5 B5 hD5 hnD hnT hao hargs hnum hden N5 hnX E4 N4 X4 B4 hO
     have heg:=hK.out.enter
     go_wp2_with fail
     refine hcall'.out.mono ?_;rintro e1 w6 ⟨rfl,cx6,os6⟩
     have L6:=hid (L5.out.ostep cx6 os6 hgr.out.1 hgr.out.2.2)
     have hxo:=hid hgr.out.2.1
     have kpt:∀b,u.heap.size≤b→b<wr.heap.size→w6.heap[b]? = wr.heap[b]?:=fun b h1 h2=>(os6.block b h2 (hNT.out b h1) (hND.out b h1)).1
     have hxb2:xb<wr.heap.size:=(Array.getElem?_eq_some_iff.1 X5'.out).1
     have X6:=hid ((kpt xb (by omega) hxb2).trans X5'.out)
     have hszw:wr.heap.size≤w6.heap.size:=os6.size
     have N6:=hid ((N5'.out.keep (fun y hy hS=>kpt y hS.2 hy) hszw).mono fun y _ hS=>(show DatB w6 y from hS.1.same (kpt y hS.2 hS.1.lt)))
     clear cx6 os6 hcall' r0 r1 r2 r3 r4 r5 r6 hgr kpt N5'
     have hzb:100 * k+100≤1638400:=by omega
     obtain ⟨cm,hcm,hm⟩:=L6.out.mp
     have hm':=hid hm
     clear hm
     by_cases her:er=0
     case neg=>
      rw [if_pos her] at hS1'
      have hfin:turnL f L ⟨fun _=>none,T,s⟩=(er,⟨st.tm,T6,s6⟩):=by
       have:=turnL_err f (L.take (k+1)) (L.drop (k+1)) _ _ er her hS1'
       rw [List.take_append_drop] at this
       exact this
      have hRR:=hTD.out
      rw [hfin] at hRR
      unfold outT at hRR
      dsimp only at hRR
      rw [if_neg her] at hRR
      have hRR':=hid hRR
      obtain ⟨d1,d2,d3⟩:=L6.out.done hK.out (by omega)
      have D1:=hid d1
      have D2:=hid d2
      have D3:=hid d3
      clear hRR hfin hS1' d1 d2 d3
      go_wp2
      go_ret2
      rw [hRR'.out]
      exact⟨none,0,rfl,OwnC.nil _ _ _ _,fun(z:Int) (hz:z∈([]:List Int))=>absurd hz (by simp),D1.out,D2.out,D3.out⟩
     case pos=>
      subst her
      rw [if_neg (by simp)] at hS1'
      cases is
      case true=>
       rw [if_pos rfl] at hS1'
       have hS2:=hid hS1'
       obtain ⟨w7,hst,hm7,ht7⟩:=hm'.out.store Tryz.underlying3 Tryz.underlying143 (by unfold maxLen;omega) (x:=(i:Int)) hiI (.int .i64 x)
       rw [mapI_upd] at hm7
       have L7:=hid ((L6.out.stored hK.out hxo.out hm1.out hm2.out ht7 ⟨_,by split <;> omega,hm7⟩).more (z':=100 * (k+1)) (by omega))
       clear hm7 ht7 hS1'
       go_wp2
       go_roundw
       case rel=>exact⟨k+1,_,by omega,by go_num,rfl,rfl,hS2.out,L7.out⟩
       case measure=>simp [intOf];omega
      case false=>
       rw [if_neg (by simp)] at hS1'
       cases hsa:sameA st.tm args
       case true=>
        rw [if_pos hsa] at hS1'
        have hS2:=hid hS1'
        obtain ⟨w7,hst,hm7,ht7⟩:=hm'.out.store Tryz.underlying3 Tryz.underlying143 (by unfold maxLen;omega) (x:=(i:Int)) hiI (.int .i64 i)
        rw [mapI_upd] at hm7
        have L7:=hid ((L6.out.stored hK.out hiI hm1.out hm2.out ht7 ⟨_,by split <;> omega,hm7⟩).more (z':=100 * (k+1)) (by omega))
        clear hm7 ht7 hS1'
        go_wp2
        go_roundw
        case rel=>exact⟨k+1,_,by omega,by go_num,rfl,rfl,hS2.out,L7.out⟩
        case measure=>simp [intOf];omega
       case false=>
        rw [if_neg (by rw [hsa];simp)] at hS1'
        have h11:op≠11:=fun e=>by
         have:=hng'.out.lit e
         change args = [] at this
         rw [this] at hsa
         cases hsa
        have hMA:MArgs w6 nm ⟨ng,nu,de⟩ (toA st.tm args) op a3 b3 g3 c3 d3 e3:=⟨N6.out.num.mono fun _ _ _=>trivial,N6.out.den.mono fun _ _ _=>trivial,N6.out.args,N6.out.nc,N6.out.dc,N6.out.ac,hng'.out.num,hng'.out.name,N6.out.op,fun e=>absurd e h11⟩
        have hmk:=make_any w0.heap.size p _ op nm ⟨ng,nu,de⟩ (toA st.tm args) a3 b3 g3 c3 d3 e3 w6 L6.out.cx.t (L6.out.g.g.ok.sm.X _) (hE'.out.all L6.out.cx.b) hMA
        unfold MakePost at hmk
        rw [makeD_X,toA_len] at hmk
        dsimp only at hmk
        have hmg:=hid (L6.out.g.g.make op (nm:=nm) (val:=⟨ng,nu,de⟩) (toA st.tm args) hng'.out.num hng'.out.den hng'.out.name)
        have hbd:=hid (make_bdU L6.out.g.g.ok.sm op nm ⟨ng,nu,de⟩ (toA st.tm args))
        generalize makeD T6 op nm ⟨ng,nu,de⟩ (toA st.tm args)=M at *
        obtain ⟨⟨mi,me⟩,T7⟩:=M
        dsimp only at hmk hmg hbd hS1'
        have hmk':=hid hmk
        have r0:=cell_p X6.out 0
        have r1:=cell_p X6.out 1
        have r2:=cell_p X6.out 2
        have r3:=cell_p X6.out 3
        have r4:=cell_p X6.out 4
        have r5:=cell_p X6.out 5
        have r6:=cell_p X6.out 6
        simp only [List.getElem?_toArray,List.getElem?_cons_succ,List.getElem?_cons_zero] at r0 r1 r2 r3 r4 r5 r6
        have hS2:=hid hS1'
        clear hmk hMA hS1'
        go_wp2_with fail
        refine hmk'.out.mono ?_;rintro e1 w7 ⟨rfl,t7,s7⟩
        have L7a:=hid (L6.out.ostep (L6.out.cx.tstep hK.out t7 s7).1 (OStep.ofT s7 fun k e=>((L6.out.cx.tstep hK.out t7 s7).2 k).1 e) hmg.out (Nat.le_refl _))
        obtain ⟨cn,hcn,hn7⟩:=L7a.out.mp
        obtain ⟨w8,hst,hm8,ht8⟩:=hn7.store Tryz.underlying3 Tryz.underlying143 (by unfold maxLen;omega) (x:=(i:Int)) hiI (.int .i64 mi)
        rw [mapI_upd] at hm8
        have L8:=hid ((L7a.out.stored hK.out (show okI mi from⟨by have:=hbd.out.1;omega,by have:=hbd.out.2;omega⟩) hm1.out hm2.out ht8 ⟨_,by split <;> omega,hm8⟩).more (z':=100 * (k+1)) (by omega))
        clear hm8 ht8 hn7 t7 s7 hmk' r0 r1 r2 r3 r4 r5 r6
        by_cases hme:me=0
        ·subst hme
         go_wp2
         go_roundw
         case rel=>exact⟨k+1,_,by omega,by go_num,rfl,rfl,hS2.out,L8.out⟩
         case measure=>simp [intOf];omega
        ·have hfin:=turnL_err f (L.take (k+1)) (L.drop (k+1)) _ _ me hme hS2.out
         rw [List.take_append_drop] at hfin
         have hRR:=hTD.out
         rw [hfin] at hRR
         unfold outT at hRR
         dsimp only at hRR
         rw [if_neg hme] at hRR
         have hRR':=hid hRR
         obtain ⟨d1,d2,d3⟩:=L8.out.done hK.out (by omega)
         have D1:=hid d1
         have D2:=hid d2
         have D3:=hid d3
         clear hRR hfin d1 d2 d3
         go_wp2
         go_ret2
         rw [hRR'.out]
         exact⟨none,0,rfl,OwnC.nil _ _ _ _,fun(z:Int) (hz:z∈([]:List Int))=>absurd hz (by simp),D1.out,D2.out,D3.out⟩
  ·obtain rfl:k=L.length:=by omega
   obtain ⟨u,rfl⟩:∃u,u=wr:=⟨_,rfl⟩
   have htl':=htl.out
   rw [List.take_length] at htl'
   have hRR:=hTD.out
   rw [htl'] at hRR
   unfold outT at hRR
   dsimp only at hRR
   rw [if_pos rfl] at hRR
   have hRR':=hid hRR
   have hln:=hLp.out.r1.len
   have hln':=hid hln
   have hoks:=hid (show ∀x:Int,okI ((st.tm x).getD 0) from fun x=>by
    cases hy:st.tm x with
    | none=>exact⟨by decide,by decide⟩
    | some v=>exact hLp.out.ok x v hy)
   obtain ⟨i0,hi0,hz0,hz1,hz2⟩:=info_parts info_int
   have hz16:100 * L.length≤1638400:=by have:=hlen.out;have:=hle.out;omega
   clear hRR htl htl' hTD hln
   go_wp2
   go_loopw [6,19,104] (fun v6 _ v104 ww=>∃j:Nat,j≤n∧v104 = .int .i64 j∧Hid (Below u.heap.size u ww)∧Hid (OwnC ww u.heap.size 3 1 v6 j (((ids.take j).map fun i=>(st.tm i).getD 0).map (Value.int .i64)))) (fun _ _ v104 _=>n - (intOf v104).toNat)
   case atStart=>exact⟨0,Nat.zero_le _,rfl,Below.refl _ _,OwnC.nil _ _ _ _⟩
   case round=>
    obtain ⟨j,hj,rfl,hB,hO⟩:=hrel
    by_cases hlj:j<n
    ·obtain ⟨b1,o1,rfl,k0⟩:=(hLp.out.r1.below hB.out (Nat.le_refl _)).at j hlj
     have hjl:j<ids.length:=by have:=hln'.out;omega
     have hao:okI (nth ids j):=hLp.out.r1.wf _ (nth_mem hjl)
     have hmu:=(hLp.out.fr w.heap.size (.inl rfl)).1
     obtain ⟨cm,hcm,hm0⟩:=hLp.out.mp
     have hm:=hm0.same (hB.out.block _ hmu)
     have hlk:=hm.look Tryz.underlying3 Tryz.underlying143 (zero_int wr) (x:=nth ids j) hao
     rw [mapI_get] at hlk
     have hst:=@hid (((ids.take (j+1)).map fun i=>(st.tm i).getD 0)=((ids.take j).map fun i=>(st.tm i).getD 0) ++ [(st.tm (nth ids j)).getD 0]) (by rw [List.take_succ_eq_append_getElem hjl,List.map_append,nth_eq hjl];rfl)
     have hji:(j:Int)<n:=by omega
     have hyo:=hid (hoks.out (nth ids j))
     clear hm hm0 hcm hao
     generalize (st.tm (nth ids j)).getD 0=y at *
     generalize nth ids j=z at *
     have hsz:=hB.out.size
     go_wp2_with (at_builtin;refine wpList_append_C rfl (.tmp 108) (.tmp 112) rfl Tryz.underlying23 hi0 hz0 hz1 hz2 rfl (by decide) rfl rfl (hO.out.alloc _) (Src.one (b:=wr.heap.size) (news:=[.int .i64 y]) rfl ?c1) ?c2 ?c3 ?c4 ?c5 ?_)
     case c1=>intro j u hu;rw [World.cell?_alloc_new];simpa using hu
     case c2=>intro u hu;simp at hu;subst hu;rfl
     case c3=>unfold maxLen;omega
     case c4=>omega
     case c5=>first | omega | (simp;omega)
     intro v' w4 ho4 hg4 _
     have B4:=hid ((hB.out.alloc hB.out.size (.cells #[.int .i64 y] 3)).grown hg4 (by simp;omega) (fun k hk=>(hO.out.lt k hk).1))
     have O4:=hid (show OwnC w4 u.heap.size 3 1 v' (j+1) (((ids.take (j+1)).map fun i=>(st.tm i).getD 0).map (Value.int .i64)) from by rw [hst.out,List.map_append,List.map_map,List.map_take];exact ho4)
     clear ho4 hg4 hlk k0
     go_wp2
     go_roundw
     case rel=>exact⟨j+1,by omega,by go_num,B4.out,O4.out⟩
     case measure=>simp [intOf];omega
    ·obtain rfl:j=n:=by omega
     obtain ⟨ao,co,rfl,hc1,hc2⟩:=hO.out.slice
     obtain ⟨d1,d2,d3⟩:=(hLp.out.all hK.out hB.out).done hK.out hz16
     have D1:=hid d1
     have D2:=hid d2
     have D3:=hid d3
     have O1:=hid (show OwnC wr w.heap.size 3 1 (.slice ao j co) j ((ids.map fun i=>(st.tm i).getD 0).map (Value.int .i64)) from by
      have:=hO.out.lower (Nat.le_trans hLp.out.lo.2 (Nat.le_of_lt (hLp.out.fr w.heap.size (.inl rfl)).1))
      rwa [List.take_of_length_le (by have:=hln'.out;omega)] at this)
     clear d1 d2 d3 hO
     go_wp2
     go_ret2
     have hle2:RR.1.1.length=j:=by rw [hRR'.out];simp [hln'.out]
     refine⟨ao,co,?_,?_,?_,?_,?_,?_⟩
     ·rw [hle2,hRR'.out];rfl
     ·rw [hle2,hRR'.out];exact O1.out
     ·rw [hRR'.out];intro x hx;obtain ⟨y,_,rfl⟩:=List.mem_map.1 hx;exact hoks.out y
     ·rw [hRR'.out];exact D1.out
     ·rw [hRR'.out];exact D2.out
     ·rw [hRR'.out];exact D3.out
end
end Go.Proofs.YtgoojkiccdjplaaGreatDoor
