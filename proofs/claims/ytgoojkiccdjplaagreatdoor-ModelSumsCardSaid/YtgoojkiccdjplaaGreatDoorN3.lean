/-
  Parts of this claim's texts, one behind the other: YB YC YD YE YF YG YH YI. No condition.
-/
import Derived.Test.YtgoojkiccdjplaaGreatDoorN2
import Derived.Lib.Builder
import Derived.Lib.AppendStr
import Derived.Lib.UnsafeStr
import Derived.Laws.Externs
import Derived.Lib.PrintData
import Derived.Lib.ItoaLen
import Derived.Lib.QuoteLoop
import Derived.Deep.QuietTactic
import Derived.BigQuiet
set_option linter.unusedVariables false
set_option linter.unusedSimpArgs false
set_option maxRecDepth 100000
set_option maxHeartbeats 16000000
namespace Go.Proofs.YtgoojkiccdjplaaGreatDoor
open Go.RowKit Go.Sort Go.Lib
structure aR where
 nodes:List bY
 nums:List (Bool × Bool)
 ids:ByteArray->Option Int
 cnt:Nat
 fresh:Int
 S:fA
 /-- blocks of a caller's own, which the table neither reads nor writes -/
 X:Nat->Prop
def iR (ids:ByteArray->Option Int):ByteArray->Option Value:=fun k=>(ids k).map (Value.int .i64)
structure cR (B p:Nat) (T:aR) (w:World) (q:Nat) (v1 v2:Value) (m:Nat):Prop where
 bp:B<=p
 blk:w.heap[p]? = some (.cells #[.pointer (some ⟨q,0,none⟩),v1,v2,.map (some m),.int .i64 T.fresh,.int .i64 16384] 130 (0,0))
 nodes:bK uY (lJ T.X w) w B 38 v1 T.nodes
 nums:bK uZ (fun _=>False) w B 190 v2 T.nums
 ids:kW Tryz.prog 9 m T.cnt (iR T.ids) w
 bm:B<=m
 srtX:∃Bs,gJ T.X Bs q T.S w
 xlt:∀k,T.X k->k<w.heap.size/\¬jY p w k/\¬dQ w q k
theorem gJ.toIs {X:Nat->Prop} {B p:Nat} {T:fA} {w:World} (h:gJ X B p T w):TabIs B p T w:=by
 obtain ⟨v1,v2,v3,hb,o1,o2,o3⟩:=h.blk;exact⟨h.bp,fun k hk=>hk.elim,v1,v2,v3,hb,o1,o2.mono fun b _ hb=>⟨fun hx=>hx,hb.2⟩,o3⟩
theorem cR.srt {B p:Nat} {T:aR} {w:World} {q:Nat} {v1 v2:Value} {m:Nat} (h:cR B p T w q v1 v2 m):∃Bs,TabIs Bs q T.S w:=by obtain ⟨Bs,h⟩:=h.srtX;exact⟨Bs,h.toIs⟩
def cU (B p:Nat) (T:aR) (w:World):Prop:=∃q v1 v2 m,cR B p T w q v1 v2 m
section
variable {B p : Nat} {T : aR} {w w' W : World} {q m : Nat} {v1 v2 : Value}
theorem cR.plt (h:cR B p T w q v1 v2 m):p<w.heap.size:=(bQ h.blk).1
theorem kW.noCells {P:Program} {k:TypeId} {b n:Nat} {F:ByteArray->Option Value} {w:World} (h:kW P k b n F w) {cs:Array Value} {t:TypeId} {f:Nat × Nat}:w.heap[b]? ≠ some (.cells cs t f):=by
 obtain ⟨D,⟨es,clock,hb,_⟩,_⟩:=h;rw [hb];intro e;cases e
theorem aL3 {t:TypeId} {f:Nat × Nat} {u0 u1 u2:Value} {q m:Nat} {x y:Int} (h0:u0 = .pointer (some ⟨q,0,none⟩)) (hb:w.heap[p]? = some (.cells #[u0,u1,u2,.map (some m),.int .i64 x,.int .i64 y] t f)) (h1:∀a,u1 ≠ .map a) (h2:∀a,u2 ≠ .map a) {k:Nat} :
  jY p w k↔k=p\/u1.ownBlock=some k\/u2.ownBlock=some k\/k=m:=by
 subst h0;unfold jY dQ;constructor
 ·rintro ((h | ⟨cs,t',f',h,v,hv,hk⟩) | ⟨cs,t',f',h,v,hv,hk⟩)
  ·exact .inl h
  ·rw [hb] at h;cases h;simp at hv;rcases hv with rfl | rfl | rfl | rfl | rfl | rfl
   ·simp [Value.ownBlock] at hk
   ·exact .inr (.inl hk)
   ·exact .inr (.inr (.inl hk))
   ·simp [Value.ownBlock] at hk
   ·simp [Value.ownBlock] at hk
   ·simp [Value.ownBlock] at hk
  ·rw [hb] at h;cases h;simp at hv;rcases hv with rfl | rfl | rfl | rfl | rfl | rfl
   ·cases hk
   ·exact absurd hk (h1 _)
   ·exact absurd hk (h2 _)
   ·cases hk;exact .inr (.inr (.inr rfl))
   ·cases hk
   ·cases hk
 ·rintro (h | h | h | h)
  ·exact .inl (.inl h)
  ·exact .inl (.inr ⟨_,_,_,hb,u1,by simp,h⟩)
  ·exact .inl (.inr ⟨_,_,_,hb,u2,by simp,h⟩)
  ·subst h;exact .inr ⟨_,_,_,hb,_,by simp,rfl⟩
theorem bK.noMap {α:Type} {R:bV α} {S:Nat->Prop} {w:World} {base:Nat} {e:TypeId} {v:Value} {xs:List α} (h:bK R S w base e v xs):∀a,v ≠ .map a:=fun a e=>by
 obtain ⟨a',c,hv,_⟩:=h.slice;rw [hv] at e;cases e
theorem cR.own (h:cR B p T w q v1 v2 m) {k:Nat}:jY p w k↔k=p\/v1.ownBlock=some k\/v2.ownBlock=some k\/k=m:=aL3 rfl h.blk h.nodes.noMap h.nums.noMap
theorem cR.ownB (h:cR B p T w q v1 v2 m) {k:Nat} (hk:jY p w k):B<=k/\k<w.heap.size:=by
 rcases h.own.1 hk with rfl | hk | hk | rfl
 ·exact⟨h.bp,h.plt⟩
 ·exact h.nodes.lt k hk
 ·exact h.nums.lt k hk
 ·exact⟨h.bm,h.ids.lt⟩
theorem cR.ownTy (h:cR B p T w q v1 v2 m) {k:Nat} (hk:jY p w k) {cs:Array Value} {t:TypeId} {f:Nat × Nat} (hc:w.heap[k]? = some (.cells cs t f)):t=130\/t=38\/t=190:=by
 rcases h.own.1 hk with rfl | hk | hk | rfl
 ·have:=h.blk;rw [this] at hc;cases hc;exact .inl rfl
 ·obtain ⟨cs',f',h'⟩:=h.nodes.ty k hk;rw [h'] at hc;cases hc;exact .inr (.inl rfl)
 ·obtain ⟨cs',f',h'⟩:=h.nums.ty k hk;rw [h'] at hc;cases hc;exact .inr (.inr rfl)
 ·exact absurd hc h.ids.noCells
theorem cR.notOwn (h:cR B p T w q v1 v2 m) {k:Nat} {t:TypeId} (hc:∃cs f,w.heap[k]? = some (.cells cs t f)) (h1:t≠130) (h2:t≠38) (h3:t≠190):¬jY p w k:=fun hk=>by
 obtain ⟨cs,f,hc⟩:=hc;rcases h.ownTy hk hc with e | e | e
 ·exact h1 e
 ·exact h2 e
 ·exact h3 e
theorem cR.notDat (h:cR B p T w q v1 v2 m) {k:Nat} (hd:dO w k):¬jY p w k:=by
 obtain ⟨cs,f,hd | hd⟩:=hd
 ·exact h.notOwn ⟨_,_,hd⟩ (by decide) (by decide) (by decide)
 ·exact h.notOwn ⟨_,_,hd⟩ (by decide) (by decide) (by decide)
theorem cR.notSrt (h:cR B p T w q v1 v2 m) {Bs:Nat} {X:Nat->Prop} (hs:gJ X Bs q T.S w) {k:Nat} (hk:dQ w q k):¬jY p w k:=by
 obtain ⟨u1,u2,u3,hb,g1,g2,g3⟩:=hs.blk;rcases (oN hb).1 hk with rfl | hk | hk | hk
 ·exact h.notOwn ⟨_,_,hb⟩ (by decide) (by decide) (by decide)
 ·exact h.notOwn (g1.ty k hk) (by decide) (by decide) (by decide)
 ·exact h.notOwn (g2.ty k hk) (by decide) (by decide) (by decide)
 ·exact h.notOwn (g3.ty k hk) (by decide) (by decide) (by decide)
theorem fZ.dat {X:Nat->Prop} {w:World} {k:Nat} (h:fZ X w k):lJ X w k:=by obtain ⟨hx,cs,f,h⟩:=h;exact⟨hx,cs,f,.inl h⟩
theorem lJ.same {X:Nat->Prop} {w w':World} {k:Nat} (h:lJ X w k) (hb:w'.heap[k]? = w.heap[k]?):lJ X w' k:=⟨h.1,h.2.same hb⟩
theorem bK.keepD {X:Nat->Prop} {v:Value} {xs:List bY} (h:bK uY (lJ X w) w B 38 v xs) (hi:∀k,lJ X w k->w'.heap[k]? = w.heap[k]?) (hv:∀k,v.ownBlock=some k->w'.heap[k]? = w.heap[k]?) (hs:w.heap.size<=w'.heap.size):bK uY (lJ X w') w' B 38 v xs:=
 (h.keep (fun b _ hb=>hi b hb) hv hs).mono fun b _ hb=>hb.same (hi b hb)
theorem cR.keep (h:cR B p T w q v1 v2 m) (hk:∀k,jY p w k->w'.heap[k]? = w.heap[k]?) (hd:∀k,lJ T.X w k->w'.heap[k]? = w.heap[k]?) (hq:∀k,dQ w q k->w'.heap[k]? = w.heap[k]?) (hs:w.heap.size<=w'.heap.size):cR B p T w' q v1 v2 m:=by
 obtain ⟨Bs,h7⟩:=h.srtX;have hp:=hk p (h.own.2 (.inl rfl));have hqq:=hq q (.inl rfl);exact⟨h.bp,hp.trans h.blk,h.nodes.keepD hd (fun k e=>hk k (h.own.2 (.inr (.inl e)))) hs,h.nums.keep (fun _ _ h=>h.elim) (fun k e=>hk k (h.own.2 (.inr (.inr (.inl e))))) hs,h.ids.same (hk m (h.own.2 (.inr (.inr (.inr rfl))))),h.bm,⟨Bs,h7.keep hq (fun k hi=>hd k hi.dat) hs⟩,
  fun k hx=>⟨bN (h.xlt k hx).1 hs,fun e=>(h.xlt k hx).2.1 ((jY.same hp).1 e),fun e=>(h.xlt k hx).2.2 ((dQ.same hqq).1 e)⟩⟩
theorem cR.all (h:cR B p T w q v1 v2 m) (hb:Below w.heap.size w w'):cR B p T w' q v1 v2 m:=by
 obtain ⟨Bs,h7⟩:=h.srt;exact h.keep (fun k hk=>hb.block k (h.ownB hk).2) (fun k hk=>hb.block k hk.2.lt) (fun k hk=>hb.block k (h7.ownB hk).2) hb.size
theorem cU.excl (h:cU B p T w) {X':Nat->Prop} (hb:∀k,k<w.heap.size->¬T.X k->w'.heap[k]? = w.heap[k]?) (hs:w.heap.size<=w'.heap.size) (hx:∀k,X' k->(T.X k\/w.heap.size<=k)/\k<w'.heap.size):cU B p { T with X:=X' } w':=by
 obtain ⟨q,v1,v2,m,h⟩:=h;obtain ⟨Bs,h7⟩:=h.srtX;have hk:∀k,jY p w k->w'.heap[k]? = w.heap[k]?:=fun k hk=>hb k (h.ownB hk).2 fun e=>(h.xlt k e).2.1 hk
 have hq:∀k,dQ w q k->w'.heap[k]? = w.heap[k]?:=fun k hk=>hb k (h7.ownB hk).2 fun e=>(h.xlt k e).2.2 hk
 have hd:∀k,lJ T.X w k->w'.heap[k]? = w.heap[k]?:=fun k hk=>hb k hk.2.lt hk.1
 have h':=h.keep hk hd hq hs;have h8:=h7.keep hq (fun k hi=>hd k hi.dat) hs;have hn:∀k,lJ T.X w k->¬X' k:=fun k hk e=>(hx k e).1.elim hk.1 fun e=>by have:=hk.2.lt;omega
 obtain ⟨u1,u2,u3,hbk,o1,o2,o3⟩:=h7.blk;refine⟨q,v1,v2,m,h'.bp,h'.blk,(h.nodes.keep (fun b _ hb=>hd b hb) (fun k e=>hk k (h.own.2 (.inr (.inl e)))) hs).mono fun k _ hd'=>⟨hn k hd',hd'.2.same (hd k hd')⟩,h'.nums,h'.ids,h'.bm,⟨Bs,h7.bp,fun k e=>(hx k e).2,u1,u2,u3,(hq q (.inl rfl)).trans hbk,o1.keep (fun _ _ h=>h.elim) (fun k e=>hq k ((oN hbk).2 (.inr (.inl e)))) hs,?_,o3.keep (fun _ _ h=>h.elim) (fun k e=>hq k ((oN hbk).2 (.inr (.inr (.inr e))))) hs⟩,fun k e=>⟨(hx k e).2,fun o=>?_,fun o=>?_⟩⟩
 ·exact(o2.keep (fun b _ hb=>hd b hb.dat) (fun k e=>hq k ((oN hbk).2 (.inr (.inr (.inl e))))) hs).mono fun k _ hi=>⟨hn k hi.dat,(hi.same (hd k hi.dat)).2⟩
 ·have o':=(jY.same (hk p (h.own.2 (.inl rfl)))).1 o;rcases (hx k e).1 with e | e
  ·exact(h.xlt k e).2.1 o'
  ·have:=(h.ownB o').2;omega
 ·have o':=(dQ.same (hq q (.inl rfl))).1 o;rcases (hx k e).1 with e | e
  ·exact(h.xlt k e).2.2 o'
  ·have:=(h7.ownB o').2;omega
theorem cU.all (h:cU B p T w) (hb:Below w.heap.size w w'):cU B p T w':=by obtain ⟨q,v1,v2,m,h⟩:=h;exact⟨q,v1,v2,m,h.all hb⟩
theorem cU.plt (h:cU B p T w):p<w.heap.size:=by obtain ⟨q,v1,v2,m,h⟩:=h;exact h.plt
theorem cU.stepBelow (h:cU B p T w) (hs:fB p w w'):Below B w w':=by
 obtain ⟨q,v1,v2,m,h⟩:=h;exact hs.below (aK h.bp (Nat.le_of_lt h.plt)) fun _ hk=>(h.ownB hk).1
theorem cR.put (h:cR B p T w q v1 v2 m) {v1' v2':Value} (hos:W.os=w.os) (htp:W.tape=w.tape) (hou:W.output=w.output) (hsz:w.heap.size<=W.heap.size)
  (hg:∀k,k<w.heap.size->v1.ownBlock≠some k->v2.ownBlock≠some k->W.heap[k]? = w.heap[k]?)
  (hl1:v1'.ownBlock=v1.ownBlock\/∀k,v1'.ownBlock=some k->w.heap.size<=k) (hl2:v2'.ownBlock=v2.ownBlock\/∀k,v2'.ownBlock=some k->w.heap.size<=k) {l:List bY} {l2:List (Bool × Bool)}
  (ho1:bK uY (lJ T.X W) W B 38 v1' l) (ho2:bK uZ (fun _=>False) W B 190 v2' l2) :
  cR B p { T with nodes:=l,nums:=l2 } ((W.setCell ⟨p,1,none⟩ v1').setCell ⟨p,2,none⟩ v2') q v1' v2' m/\fB p w ((W.setCell ⟨p,1,none⟩ v1').setCell ⟨p,2,none⟩ v2'):=by
 have hp1:v1.ownBlock≠some p:=fun e=>cQ (by decide) (h.nodes.ty p e) ⟨_,_,h.blk⟩
 have hp2:v2.ownBlock≠some p:=fun e=>cQ (by decide) (h.nums.ty p e) ⟨_,_,h.blk⟩
 have hpW:W.heap[p]? = w.heap[p]?:=hg p h.plt hp1 hp2;have hbW:=hpW.trans h.blk;have hp1':v1'.ownBlock≠some p:=fun e=>cQ (by decide) (ho1.ty p e) ⟨_,_,hbW⟩
 have hp2':v2'.ownBlock≠some p:=fun e=>cQ (by decide) (ho2.ty p e) ⟨_,_,hbW⟩
 generalize hV:(W.setCell ⟨p,1,none⟩ v1').setCell ⟨p,2,none⟩ v2'=V;have s2:∀k,k≠p->V.heap[k]? = W.heap[k]?:=fun k hk=>by
  subst hV;exact(Below.heap_setCell _ _ _ _ (fun e=>hk e)).trans (Below.heap_setCell _ _ _ _ (fun e=>hk e))
 have s1:V.heap[p]? = some (.cells #[.pointer (some ⟨q,0,none⟩),v1',v2',.map (some m),.int .i64 T.fresh,.int .i64 16384] 130 (0,0)):=by
  subst hV;unfold World.setCell;rw [Array.getElem?_modify,if_pos rfl,Array.getElem?_modify,if_pos rfl,hbW];rfl
 have hVs:V.heap.size=W.heap.size:=by subst hV;simp [World.setCell]
 have hm:m≠p:=fun e=>absurd h.blk (by rw [<-e];exact h.ids.noCells)
 have hm1:v1.ownBlock≠some m:=fun e=>by obtain ⟨cs,f,e⟩:=h.nodes.ty m e;exact h.ids.noCells e
 have hm2:v2.ownBlock≠some m:=fun e=>by obtain ⟨cs,f,e⟩:=h.nums.ty m e;exact h.ids.noCells e
 have hkeep:∀k,k<w.heap.size->¬jY p w k->V.heap[k]? = w.heap[k]?:=fun k hk hn=>
  (s2 k fun e=>hn (h.own.2 (.inl e))).trans (hg k hk (fun e=>hn (h.own.2 (.inr (.inl e)))) (fun e=>hn (h.own.2 (.inr (.inr (.inl e))))))
 obtain ⟨Bs,h7⟩:=h.srtX;have hown:∀k,jY p V k->jY p w k\/w.heap.size<=k:=fun k e=>by
  rcases (aL3 rfl s1 ho1.noMap ho2.noMap).1 e with e | e | e | e
  ·exact .inl (h.own.2 (.inl e))
  ·rcases hl1 with h1 | h1
   ·exact .inl (h.own.2 (.inr (.inl (by rw [<-h1];exact e))))
   ·exact .inr (h1 k e)
  ·rcases hl2 with h1 | h1
   ·exact .inl (h.own.2 (.inr (.inr (.inl (by rw [<-h1];exact e)))))
   ·exact .inr (h1 k e)
  ·exact .inl (h.own.2 (.inr (.inr (.inr e))))
 have hqV:=hkeep q (h7.ownB (.inl rfl)).2 (h.notSrt h7 (.inl rfl));have hA:cR B p { T with nodes:=l,nums:=l2 } V q v1' v2' m:=by
  refine⟨h.bp,s1,ho1.keepD (fun k hk=>s2 k fun e=>?_) (fun k hk=>s2 k fun e=>hp1' (by rw [<-e];exact hk)) (Nat.le_of_eq hVs.symm),ho2.keep (fun _ _ h=>h.elim) (fun k hk=>s2 k fun e=>hp2' (by rw [<-e];exact hk)) (Nat.le_of_eq hVs.symm),h.ids.same ((s2 m hm).trans (hg m h.ids.lt hm1 hm2)),h.bm,⟨Bs,?_⟩,fun k hx=>⟨by have:=(h.xlt k hx).1;omega,fun e=>?_,fun e=>(h.xlt k hx).2.2 ((dQ.same hqV).1 e)⟩⟩
  ·subst e;exact dO.ne hk.2 (by decide) (by decide) ⟨_,_,hbW⟩
  ·exact h7.keep (fun k hk=>hkeep k (h7.ownB hk).2 (h.notSrt h7 hk)) (fun k hk=>hkeep k hk.lt (h.notDat hk.dat.2)) (by rw [hVs];exact hsz)
  ·rcases hown k e with e | e
   ·exact(h.xlt k hx).2.1 e
   ·have:=(h.xlt k hx).1;omega
 refine⟨hA,by subst hV;exact hos,by subst hV;exact htp,by subst hV;exact hou,by rw [hVs];exact hsz,fun k hk hn=>⟨hkeep k hk hn,fun e=>?_⟩⟩;rcases hown k e with e | e
 ·exact hn e
 ·omega
theorem cR.setIds (h:cR B p T w q v1 v2 m) (hg0:w.mapTurned W m) {n:Nat} {ids:ByteArray->Option Int} (hm:kW Tryz.prog 9 m n (iR ids) W):cR B p { T with ids:=ids,cnt:=n } W q v1 v2 m/\fB p w W:=by
 have hg:=hg0.grown;have hne:∀k,∀cs t f,w.heap[k]? = some (Obj.cells cs t f)->W.heap[k]? = w.heap[k]?:=fun k cs t f hc=>hg.block k (bQ hc).1 fun e=>by injection e with e;subst e;exact h.ids.noCells hc
 obtain ⟨Bs,h7⟩:=h.srtX;have hd:∀k,dO w k->W.heap[k]? = w.heap[k]?:=fun k hk=>by obtain ⟨cs,f,hk | hk⟩:=hk <;> exact hne k _ _ _ hk
 have h7':∀k,dQ w q k->W.heap[k]? = w.heap[k]?:=fun k hk=>by
  obtain ⟨u1,u2,u3,hb,g1,g2,g3⟩:=h7.blk;rcases (oN hb).1 hk with rfl | hk | hk | hk
  ·exact hne _ _ _ _ hb
  ·obtain ⟨cs,f,e⟩:=g1.ty k hk;exact hne _ _ _ _ e
  ·obtain ⟨cs,f,e⟩:=g2.ty k hk;exact hne _ _ _ _ e
  ·obtain ⟨cs,f,e⟩:=g3.ty k hk;exact hne _ _ _ _ e
 have hA:cR B p { T with ids:=ids,cnt:=n } W q v1 v2 m:=by
  refine⟨h.bp,(hne p _ _ _ h.blk).trans h.blk,h.nodes.keepD (fun k hk=>hd k hk.2) (fun k hk=>?_) hg.size,h.nums.keep (fun _ _ h=>h.elim) (fun k hk=>?_) hg.size,hm,h.bm,⟨Bs,h7.keep h7' (fun k hk=>hd k hk.dat.2) hg.size⟩,fun k hx=>⟨bN (h.xlt k hx).1 hg.size,fun e=>(h.xlt k hx).2.1 ((jY.same (hne p _ _ _ h.blk)).1 e),fun e=>(h.xlt k hx).2.2 ((dQ.same (h7' q (.inl rfl))).1 e)⟩⟩
  ·obtain ⟨cs,f,e⟩:=h.nodes.ty k hk;exact hne _ _ _ _ e
  ·obtain ⟨cs,f,e⟩:=h.nums.ty k hk;exact hne _ _ _ _ e
 refine⟨hA,hg.os,hg.tape,hg.output,hg.size,fun k hk hn=>⟨hg.block k hk fun e=>hn (h.own.2 (.inr (.inr (.inr (by injection e))))),fun e=>hn (h.own.2 (hA.own.1 e))⟩⟩
end
theorem yZ:(Tryz.prog.info? 216).map (·.size)=some 2:=by kernel_rfl
theorem aFf:liesAt Tryz.prog Tryz.prog.depth 216 (2 / Tryz.prog.cellsOf 216) 0 216 1=true:=by kernel_rfl
theorem aIt:(Tryz.prog.info? 5).map (fun i=>(i.zero,i.size,i.bytes))=some (some (.int .u8 0),1,1):=by kernel_rfl
abbrev IsB (B b:Nat) (bs:List Value) (w:World):Prop:=Lib.IsBuilder 216 5 B b bs w
abbrev BAt (B b:Nat) (p:Value) (bs:List Value) (w:World):Prop:=Lib.BuilderAt 216 5 B b p bs w
theorem tK (b:Nat) (w:World) (h0:w.cell? ⟨b,0,none⟩=some (.pointer (some ⟨b,0,none⟩))) :
  Calls Tryz.prog 206 #[.pointer (some ⟨b,0,none⟩)] w fun e w'=>e = .returned (.tuple #[])/\w'=w:=by
 obtain ⟨j,hj,_⟩:=Option.map_eq_some_iff.1 yZ;go_enter Tryz.func206,Tryz.ntmps206
 go_wp2;rw [Lib.run_neq_ptr_same w _ Tryz.underlying213 hj];go_wp2;go_end0;exact⟨rfl,rfl⟩
theorem sN (b:Nat) (w:World) (h0:w.cell? ⟨b,0,none⟩=some (.pointer none)) (hsh:w.shape? b=some (216,2)) (hfz:w.frozen? ⟨b,0,none⟩=false) :
  Calls Tryz.prog 206 #[.pointer (some ⟨b,0,none⟩)] w fun e w'=>e = .returned (.tuple #[])/\w'=w.setCell ⟨b,0,none⟩ (.pointer (some ⟨b,0,none⟩)):=by
 obtain ⟨j,hj,hjs⟩:=Option.map_eq_some_iff.1 yZ;go_enter Tryz.func206,Tryz.ntmps206
 go_wp2;rw [Lib.run_to_unsafe w ⟨b,0,none⟩ Tryz.underlying213 Tryz.underlying269 hj (by rw [hjs];decide) hsh (Nat.zero_lt_succ 1)];simp only [Result.andThen];rw [Oper.upon_value];go_wp2;rw [run_callFunc_extern Tryz.func240 (by kernel_rfl) (by kernel_rfl) (by kernel_rfl) (e:=Extern.AbiNoEscape.same) (by kernel_rfl)];rw [Lib.run_noEscape];simp only [Result.andThen];rw [Oper.upon_value];go_wp2;rw [Lib.run_from_unsafe w ⟨b,0,none⟩ Tryz.underlying269 Tryz.underlying213 hj hsh aFf];simp only [Result.andThen];rw [Oper.upon_value];go_wp2;go_end0;exact⟨rfl,rfl⟩
structure jQ (w:World):Prop where
 env:Env w
 pow:Lib.TabIs Tryz.prog w "internal/strconv.uint64pow10" .u64 Lib.pow10Tab
 prt:Lib.PrintTabsAt 9 10 11 12 Lib.goPrintTabs w
 utf:Lib.Utf8Tabs 7 8 w
theorem zA:Tryz.prog.globalNamed "internal/strconv.uint64pow10" = some 2:=by kernel_rfl
theorem TabSlice.all {g:Nat} {k:IntKind} {t:List Nat} {w w':World} (h:Lib.TabSlice g k t w) (hb:Below w.heap.size w w'):Lib.TabSlice g k t w':=by
 obtain ⟨R,o,c,h1,h2⟩:=h;exact⟨R,o,c,aD hb h1,fun j hj=>aD hb (h2 j hj)⟩
theorem jQ.all {w w':World} (h:jQ w) (hb:Below w.heap.size w w'):jQ w':=by
 refine⟨h.env.all hb,?_,?_,?_⟩
 ·have h2:=h.pow;unfold Lib.TabIs World.var? at *;rw [zA] at *;simp only [Option.bind_some] at *;have hlt:2<w.heap.size:=by
   rcases Nat.lt_or_ge 2 w.heap.size with h0 | h0
   ·exact h0
   ·rw [Array.getElem?_eq_none h0] at h2;cases h2
  rw [hb.block _ hlt];exact h2
 ·obtain ⟨h1,h2,h3,h4,h5⟩:=h.prt;exact⟨TabSlice.all h1 hb,TabSlice.all h2 hb,TabSlice.all h3 hb,TabSlice.all h4 hb,h5⟩
 ·obtain ⟨h1,h2⟩:=h.utf;exact⟨fun c hc=>aD hb (h1 c hc),fun i hi=>⟨aD hb (h2 i hi).1,aD hb (h2 i hi).2⟩⟩
def rK (s:ByteArray):List UInt8:=(strOfNums (Lib.quoteZ Lib.goPrintTabs s)).data.toList
def kD (l:List Int):List UInt8:=l.flatMap fun a=>32 :: Lib.itoa a
def fN (l:List Int):List UInt8:=l.flatMap fun a=>Lib.itoa a ++ [44]
def vO (n:bY):List UInt8:=Lib.itoa n.op++32 :: (Lib.itoa n.sort++32 :: rK n.name)
def aFg (n:bY):List UInt8:=if n.op=11 then 32 :: (Lib.formatBool n.val.neg++47 :: (fN n.val.num++47 :: fN n.val.den)) else []
def aDq (n:bY):List UInt8:=vO n++(kD n.args++aFg n)
def mQ (n:bY):ByteArray:=⟨(aDq n).toArray⟩
def dC:cE:=⟨false,[],[]⟩
def aKt:bY:=⟨0,ByteArray.empty,dC,[],0⟩
def nodeAt (T:aR) (i:Int):bY:=T.nodes.getD i.toNat aKt
def numAt (T:aR) (i:Int):Bool × Bool:=T.nums.getD i.toNat (false,false)
def iD (T:aR) (i:Int):Bool:=decide (0<=i) && decide (i<(T.nodes.length:Int))
def oT (r:cE):Bool:=!r.neg && (decide (r.num.length=0) && decide (r.den.length=0))
def jE (T:aR) (l:List Int):Bool:=l.all fun a=>(numAt T a).1
def eE (T:aR) (n:bY):Bool × Bool:=
 if n.op=11 then(true,decide (n.val.num.length=0))
 else if n.op=14\/n.op=16 then
  if jE T n.args then(if n.op=16\/n.args.length=1 then numAt T (nth n.args 0) else(false,false)) else(false,false)
 else(false,false)
def kX (T:aR) (ids:List Int) (s:Int):Bool:=!(ids.any fun i=>!((nodeAt T i).sort == s))
def lC (T:aR) (ids:List Int):Bool:=decide (2<=ids.length) && kX T ids (nodeAt T (nth ids 0)).sort
def oY (T:aR) (ids:List Int):Nat:=(ids.filter fun i=>!(numAt T i).1).length
def jR (T:aR) (ids:List Int):Bool:=decide (oY T ids<=1)
def mC (T:aR) (i:Int):Bool:=!(numAt T i).1 || (numAt T i).2
def jF (T:aR) (ids:List Int):Bool:=!((ids.drop 1).any (mC T))
def oZ (op:Int):Int:=if op=14 then 1 else 2
def cX (T:aR) (op:Int) (args:List Int):Bool:=
 if (args.length:Int)<oZ op then false
 else if kX T args 1 then(if op=15 then jR T args else if op=16 then jF T args else true) else false
def eQ (T:aR):List Int->List Int->Bool
 | a :: l,s :: ss=>(nodeAt T a).sort == s && eQ T l ss
 | _,_=>true
def gF (T:aR) (name:ByteArray) (args:List Int):Int × Bool:=
 if (gO T.S name).isSome/\(fH T.S name).args.length=args.length then
  (if eQ T args (fH T.S name).args then((fH T.S name).res,true) else(0,false))
 else(0,false)
def aFh (T:aR) (args:List Int):Int × Bool:=
 if args.length=3/\(nodeAt T (nth args 0)).sort=0/\lC T (args.drop 1)=true then((nodeAt T (nth args 1)).sort,true) else(0,false)
def aX (T:aR) (op:Int) (name:ByteArray) (args:List Int):Int × Bool:=
 if op=1\/op=2 then(0,decide (args.length=0))
 else if op=11 then(1,decide (args.length=0))
 else if op=3 then(0,decide (args.length=1) && kX T args 0)
 else if op=4\/op=5\/op=6\/op=7 then(0,decide (2<=args.length) && kX T args 0)
 else if op=8\/op=9 then(0,lC T args)
 else if op=10 then aFh T args
 else if op=12 then gF T name args
 else if op=17\/op=18\/op=19\/op=20 then(0,cX T op args)
 else(1,cX T op args)
def fT (T:aR) (n:bY):(Int × Int) × aR:=
 match T.ids (mQ n) with
 | some i=>((i,0),T)
 | none=>if 16384<=T.nodes.length then((0,4),T) else(((T.nodes.length:Int),0),{ T with nodes:=T.nodes ++ [n],nums:=T.nums ++ [eE T n],ids:=fun k=>if k=mQ n then some (T.nodes.length:Int) else T.ids k,cnt:=T.cnt+1 })
def fR (l:List Int):Bool:=decide (l.length<=64) && (decide (l.length=0) || !(nth l (l.length - 1) == 0))
abbrev aO:Nat:=18446744073709551616
def aM:List Int->Nat
 | []=>0
 | x :: l=>x.toNat+aO * aM l
def iA (r:cE):Bool:=fR r.num && (fR r.den && (!decide (r.den.length=0) && (!(r.neg && decide (r.num.length=0)) && (Nat.gcd (aM r.num) (aM r.den) == 1))))
def jG (op:Int) (name:ByteArray) (val:cE):Bool:=(!(op == 12) && !(name.size == 0)) || (!(op == 11) && !oT val) || (op == 11 && !iA val)
def jN (op:Int) (args:List Int):Bool:=decide (op<1) || decide (20<op) || decide (64<args.length)
def cD (T:aR) (op:Int) (name:ByteArray) (val:cE) (args:List Int):(Int × Int) × aR:=
 if jN op args then((0,1),T)
 else if jG op name val then((0,1),T)
 else if args.any (fun i=>!iD T i) then((0,1),T)
 else if (aX T op name args).2 then fT T ⟨op,name,val,args,(aX T op name args).1⟩ else((0,3),T)
structure SmT (T:aR):Prop where
 nn:T.nums.length=T.nodes.length
 cn:T.cnt<=T.nodes.length
 le:T.nodes.length<=16384
 fr:0<=T.fresh/\T.fresh<=1099511627776
 s:qD T.S
 ids:∀k i,T.ids k=some i->0<=i/\i<(T.nodes.length:Int)
def InT (T:aR) (ids:List Int):Prop:=∀i∈ids,0<=i/\i<(T.nodes.length:Int)
theorem lK {T:aR} {i:Int}:iD T i=true↔0<=i/\i<(T.nodes.length:Int):=by unfold iD;simp
theorem xE {T:aR} {ids:List Int} (h:ids.any (fun i=>!iD T i)=false):InT T ids:=fun i hi=>by
 have:=List.any_eq_false.1 h i hi;simp at this;exact lK.1 this
section
variable {B p : Nat} {T : aR} {w : World}
theorem cU.look (h:cU B p T w):∃q a1 c1 a2 c2 m,cR B p T w q (.slice a1 T.nodes.length c1) (.slice a2 T.nums.length c2) m:=by
 obtain ⟨q,v1,v2,m,h⟩:=h;obtain ⟨a1,c1,rfl,_⟩:=h.nodes.slice;obtain ⟨a2,c2,rfl,_⟩:=h.nums.slice;exact⟨q,a1,c1,a2,c2,m,h⟩
theorem bJ.nodeAt {S:Nat->Prop} {a:Option Addr} {n k:Nat} {xs:List bY} {x:bY} (h:bJ uY S w a n xs) (hx:xs[k]? = some x) :
  ∃b o a' c' b' d g e,a=some ⟨b,o,none⟩/\dR S w x a' c' b' d g e/\∀i u,(aJ6 x a' c' b' d g e)[i]? = some u->w.cell? ⟨b,o+k * 7+i,none⟩=some u:=by
 obtain ⟨b,o,cs,ha,_,hr,hc⟩:=h.at hx;obtain ⟨a',c',b',d,g,e,rfl,hn⟩:=tB.1 hr;rw [aKq] at hc;exact⟨b,o,a',c',b',d,g,e,ha,hn,hc⟩
theorem bJ.numAt {S:Nat->Prop} {a:Option Addr} {n k:Nat} {xs:List (Bool × Bool)} {x:Bool × Bool} (h:bJ uZ S w a n xs) (hx:xs[k]? = some x) :
  ∃b o,a=some ⟨b,o,none⟩/\w.cell? ⟨b,o+k * 2,none⟩=some (.bool x.1)/\w.cell? ⟨b,o+k * 2+1,none⟩=some (.bool x.2):=by
 obtain ⟨b,o,cs,ha,_,hr,hc⟩:=h.at hx;obtain rfl:=tC.1 hr;rw [aKr] at hc;exact⟨b,o,ha,hc 0 _ rfl,hc 1 _ rfl⟩
theorem fC {k:Nat} (hk:k<T.nodes.length):T.nodes[k]? = some (nodeAt T k):=by
 unfold nodeAt;rw [Int.toNat_natCast,List.getD_eq_getElem?_getD,List.getElem?_eq_getElem hk];rfl
theorem vP {k:Nat} (hk:k<T.nums.length):T.nums[k]? = some (numAt T k):=by
 unfold numAt;rw [Int.toNat_natCast,List.getD_eq_getElem?_getD,List.getElem?_eq_getElem hk];rfl
theorem cR.sortCell {q:Nat} {a1:Option Addr} {n c1:Nat} {v2:Value} {m:Nat} (h:cR B p T w q (.slice a1 n c1) v2 m) {k:Nat} (hk:k<T.nodes.length):∃b o,a1=some ⟨b,o,none⟩/\w.cell? ⟨b,o+k * 7+6,none⟩=some (.int .i64 (nodeAt T k).sort)/\fG (nodeAt T k).sort:=by
 obtain ⟨b,o,_,_,_,_,_,_,ha,hn,hc⟩:=(h.nodes.read (S':=fun _=>True) (fun _ _ _=>trivial) (fun _ _=>trivial)).nodeAt (fC hk);exact⟨b,o,ha,hc 6 _ rfl,hn.sort⟩
theorem cR.numCell {q:Nat} {a2:Option Addr} {n c2:Nat} {v1:Value} {m:Nat} (h:cR B p T w q v1 (.slice a2 n c2) m) {k:Nat} (hk:k<T.nums.length):∃b o,a2=some ⟨b,o,none⟩/\w.cell? ⟨b,o+k * 2,none⟩=some (.bool (numAt T k).1)/\w.cell? ⟨b,o+k * 2+1,none⟩=some (.bool (numAt T k).2):=
 (h.nums.read (S':=fun _=>True) (fun _ _ _=>trivial) (fun _ _=>trivial)).numAt (vP hk)
end
theorem aIu (B p:Nat) (T:aR) (w:World) (h:cU B p T w):Calls Tryz.prog 46 #[.pointer (some ⟨p,0,none⟩)] w fun e w'=>e = .returned (.int .i64 T.nodes.length)/\w=w':=by
 obtain ⟨q,a1,c1,a2,c2,m,ha⟩:=h.look;have k1:w.cell? ⟨p,1,none⟩=some (.slice a1 T.nodes.length c1):=aC ha.blk 1;clear ha h;go_enter Tryz.func46,Tryz.ntmps46
 go_wp2;go_ret;exact⟨rfl,rfl⟩
theorem tD (B p:Nat) (T:aR) (i:Int) (w:World) (h:cU B p T w):Calls Tryz.prog 69 #[.pointer (some ⟨p,0,none⟩),.int .i64 i] w fun e w'=>e = .returned (.bool (iD T i))/\w=w':=by
 have hl:=hid (aIu B p T w h);have hd:=@hid (iD T i=(decide (0<=i) && decide (i<(T.nodes.length:Int)))) rfl;clear h;by_cases h1:0<=i
 ·have hv:=@hid (iD T i=decide (i<(T.nodes.length:Int))) (by rw [hd.out];simp [h1]);go_enter Tryz.func69,Tryz.ntmps69
  go_wp2_with fail
  refine hl.out.mono ?_;rintro e w' ⟨rfl,rfl⟩;go_wp2;go_ret;exact⟨aQ hv.out.symm,rfl⟩
 ·have hv:=@hid (false=iD T i) (by rw [hd.out];simp [h1]);have h1':decide (0<=i)=false:=by simpa using h1
  go_enter Tryz.func69,Tryz.ntmps69
  go_wp2;go_ret;exact⟨aQ hv.out,rfl⟩
theorem rL (B p:Nat) (T:aR) (i:Int) (x:Nat) (w:World) (h:cU B p T w) (hx:w.cell? ⟨x,0,none⟩=some (.pointer (some ⟨p,0,none⟩))) :
  Calls Tryz.prog 86 #[.int .i64 i,.pointer (some ⟨x,0,none⟩)] w fun e w'=>e = .returned (.bool (!iD T i))/\Below w.heap.size w w':=by
 have hl:=hid (tD B p T i w h);clear h;go_enter Tryz.func86,Tryz.ntmps86
 go_wp2_with fail
 refine hl.out.mono ?_;rintro e w' ⟨rfl,rfl⟩;go_wp2;go_ret;exact⟨rfl,Below.refl _ _⟩
theorem aFi (B p:Nat) (T:aR) (s:Int) (k x y:Nat) (w:World) (h:cU B p T w) (hk:k<T.nodes.length) (hx:w.cell? ⟨x,0,none⟩=some (.pointer (some ⟨p,0,none⟩))) (hy:w.cell? ⟨y,0,none⟩=some (.int .i64 s)) :
  Calls Tryz.prog 172 #[.int .i64 k,.pointer (some ⟨x,0,none⟩),.pointer (some ⟨y,0,none⟩)] w fun e w'=>e = .returned (.bool (!((nodeAt T k).sort == s)))/\Below w.heap.size w w':=by
 obtain ⟨q,a1,c1,a2,c2,m,ha⟩:=h.look;have k1:w.cell? ⟨p,1,none⟩=some (.slice a1 T.nodes.length c1):=aC ha.blk 1;obtain ⟨b,o,rfl,k2,ok2⟩:=ha.sortCell hk;have hki:(k:Int)<T.nodes.length:=by omega
 clear ha h;generalize (nodeAt T k).sort=z at *;go_enter Tryz.func172,Tryz.ntmps172
 go_wp2
 go_quiet (fail)
 go_wp2;go_ret;exact⟨rfl,(Below.refl _ _).drewN _⟩
theorem aDr (B p:Nat) (T:aR) (k x:Nat) (w:World) (h:cU B p T w) (hk:k<T.nums.length) (hx:w.cell? ⟨x,0,none⟩=some (.pointer (some ⟨p,0,none⟩))) :
  Calls Tryz.prog 205 #[.int .i64 k,.pointer (some ⟨x,0,none⟩)] w fun e w'=>e = .returned (.bool (mC T k))/\Below w.heap.size w w':=by
 obtain ⟨q,a1,c1,a2,c2,m,ha⟩:=h.look;have k1:w.cell? ⟨p,2,none⟩=some (.slice a2 T.nums.length c2):=aC ha.blk 2;obtain ⟨b,o,rfl,k2,k3⟩:=ha.numCell hk;have hd:=@hid (mC T k=(!(numAt T k).1 || (numAt T k).2)) rfl;clear ha h;cases hz:(numAt T k).1
 case false=>
  have hv:=@hid (true=mC T k) (by rw [hd.out,hz];rfl);rw [hz] at k2;clear hz;go_enter Tryz.func205,Tryz.ntmps205
  go_wp2;go_ret;exact⟨aQ hv.out,Below.refl _ _⟩
 case true=>
  have hv:=@hid ((numAt T k).2=mC T k) (by rw [hd.out,hz];rfl);rw [hz] at k2;clear hz;generalize (numAt T k).2=z at *;go_enter Tryz.func205,Tryz.ntmps205
  go_wp2;go_ret;exact⟨aQ hv.out,Below.refl _ _⟩
theorem aFj (P:Int->Bool) (a:Option Addr) (n c x0:Nat) (xs:List Int) (w:World) (h:jP w a n xs) (hn:n<1099511627776)
  (hc:∀w1,Below w.heap.size w w1->∀x∈xs,Calls Tryz.prog 86 #[.int .i64 x,.pointer (some ⟨x0,0,none⟩)] w1 fun e w'=>e = .returned (.bool (P x))/\Below w1.heap.size w1 w') :
  Calls Tryz.prog 124 #[.slice a n c,.func (.func 86) #[] #[.pointer (some ⟨x0,0,none⟩)]] w fun e w'=>e = .returned (.int .i64 (oO P xs 0))/\Below w.heap.size w w':=by
 have h':=hid h;have lx:=hid h.len;have hc':=hid hc;clear h hc;go_enter Tryz.func124,Tryz.ntmps124
 go_wp2
 go_loopw [4,5,8] (fun _ _ i wr=>∃k:Nat,k<=n/\i = .int .i64 k/\Hid (∀j x,j<k->xs[j]? = some x->P x=false)/\Hid (Below w.heap.size w wr)) (fun _ _ i _=>n - (intOf i).toNat)
 case atStart=>exact⟨0,aV,rfl,fun j f hj=>absurd hj (Nat.not_lt_zero _),Below.refl _ _⟩
 case round=>
  obtain ⟨k,hk,rfl,hne,hB⟩:=hrel;by_cases hlt2:k<n
  ·have hkx:k<xs.length:=by rw [lx.out];exact hlt2
   have hf:=List.getElem?_eq_getElem hkx;obtain ⟨b,o,rfl,k0⟩:=(h'.out.below hB.out aB).at k hlt2;have hcl:=hid (hc'.out wr hB.out xs[k] (List.getElem_mem hkx));rw [cK hkx] at k0;have hf':=hid hf;clear hf;cases he:P xs[k]
   case true=>
    have hv:=hid (mW (p:=P) (fun j f hj hf=>hne.out j f hj hf) hf'.out he);rw [he] at hcl;generalize xs[k]=f at *;clear he
    go_wp2_with fail
    refine hcl.out.mono ?_;rintro e w1 ⟨rfl,hb⟩;have hb':=hid (aI hB hb);clear hb;go_wp2;go_ret;exact⟨jL hv.out.symm,hb'.out⟩
   case false=>
    have hs:=@hid (∀j f,j<k+1->xs[j]? = some f->P f=false) (fun j f hj hf=>by
     by_cases hjk:j<k
     ·exact hne.out j f hjk hf
     ·obtain rfl:j=k:=by omega
      rw [hf'.out] at hf;cases hf;exact he)
    rw [he] at hcl;generalize xs[k]=f at *;clear he
    go_wp2_with fail
    refine hcl.out.mono ?_;rintro e w1 ⟨rfl,hb⟩;have hb':=hid (aI hB hb);clear hb;go_wp2
    go_roundw
    case rel=>exact⟨k+1,by omega,by go_num,hs.out,hb'.out⟩
    case measure=>simp [intOf];omega
  ·have hv:=hid (nR (p:=P) (xs:=xs) (fun j f hj hf=>hne.out j f (by have:=lx.out;omega) hf));go_wp2;go_ret;exact⟨jL hv.out.symm,hB.out⟩
theorem tL (P:Int->Bool) (a:Option Addr) (n c x0:Nat) (xs:List Int) (w:World) (h:jP w a n xs) (hn:n<1099511627776)
  (hc:∀w1,Below w.heap.size w w1->∀x∈xs,Calls Tryz.prog 86 #[.int .i64 x,.pointer (some ⟨x0,0,none⟩)] w1 fun e w'=>e = .returned (.bool (P x))/\Below w1.heap.size w1 w') :
  Calls Tryz.prog 80 #[.slice a n c,.func (.func 86) #[] #[.pointer (some ⟨x0,0,none⟩)]] w fun e w'=>e = .returned (.bool (xs.any P))/\Below w.heap.size w w':=by
 have hi:=hid (aFj P a n c x0 xs w h hn hc);clear h hc;have hidx:=kO (p:=P) xs 0;cases hf:xs.find? P with
 |
  none=>
  rw [hf] at hidx;dsimp only at hidx;have hv:=@hid (xs.any P=false) (by rw [List.any_eq_false];rw [List.find?_eq_none] at hf;exact hf);rw [hidx] at hi;clear hidx hf;go_enter Tryz.func80,Tryz.ntmps80
  go_wp2_with fail
  refine hi.out.mono ?_;rintro e w1 ⟨rfl,hb⟩;have hb':=hid hb;clear hb;go_wp2;go_ret;exact⟨aQ hv.out.symm,hb'.out⟩
 |
  some f=>
  rw [hf] at hidx;dsimp only at hidx;obtain ⟨k,hk1,hk2⟩:=hidx;have hv:=@hid (xs.any P=true) (by rw [List.any_eq_true];exact⟨f,List.mem_of_find?_eq_some hf,by have:=List.find?_some hf;exact this⟩);rw [hk1] at hi;clear hk1 hf;go_enter Tryz.func80,Tryz.ntmps80
  go_wp2_with fail
  refine hi.out.mono ?_;rintro e w1 ⟨rfl,hb⟩;have hb':=hid hb;clear hb;go_wp2;go_ret;exact⟨aQ hv.out.symm,hb'.out⟩
theorem aFk (P:Int->Bool) (a:Option Addr) (n c x0 x1:Nat) (xs:List Int) (w:World) (h:jP w a n xs) (hn:n<1099511627776)
  (hc:∀w1,Below w.heap.size w w1->∀x∈xs,Calls Tryz.prog 172 #[.int .i64 x,.pointer (some ⟨x0,0,none⟩),.pointer (some ⟨x1,0,none⟩)] w1 fun e w'=>e = .returned (.bool (P x))/\Below w1.heap.size w1 w') :
  Calls Tryz.prog 124 #[.slice a n c,.func (.func 172) #[] #[.pointer (some ⟨x0,0,none⟩),.pointer (some ⟨x1,0,none⟩)]] w fun e w'=>e = .returned (.int .i64 (oO P xs 0))/\Below w.heap.size w w':=by
 have h':=hid h;have lx:=hid h.len;have hc':=hid hc;clear h hc;go_enter Tryz.func124,Tryz.ntmps124
 go_wp2
 go_loopw [4,5,8] (fun _ _ i wr=>∃k:Nat,k<=n/\i = .int .i64 k/\Hid (∀j x,j<k->xs[j]? = some x->P x=false)/\Hid (Below w.heap.size w wr)) (fun _ _ i _=>n - (intOf i).toNat)
 case atStart=>exact⟨0,aV,rfl,fun j f hj=>absurd hj (Nat.not_lt_zero _),Below.refl _ _⟩
 case round=>
  obtain ⟨k,hk,rfl,hne,hB⟩:=hrel;by_cases hlt2:k<n
  ·have hkx:k<xs.length:=by rw [lx.out];exact hlt2
   have hf:=List.getElem?_eq_getElem hkx;obtain ⟨b,o,rfl,k0⟩:=(h'.out.below hB.out aB).at k hlt2;have hcl:=hid (hc'.out wr hB.out xs[k] (List.getElem_mem hkx));rw [cK hkx] at k0;have hf':=hid hf;clear hf;cases he:P xs[k]
   case true=>
    have hv:=hid (mW (p:=P) (fun j f hj hf=>hne.out j f hj hf) hf'.out he);rw [he] at hcl;generalize xs[k]=f at *;clear he
    go_wp2_with fail
    refine hcl.out.mono ?_;rintro e w1 ⟨rfl,hb⟩;have hb':=hid (aI hB hb);clear hb;go_wp2;go_ret;exact⟨jL hv.out.symm,hb'.out⟩
   case false=>
    have hs:=@hid (∀j f,j<k+1->xs[j]? = some f->P f=false) (fun j f hj hf=>by
     by_cases hjk:j<k
     ·exact hne.out j f hjk hf
     ·obtain rfl:j=k:=by omega
      rw [hf'.out] at hf;cases hf;exact he)
    rw [he] at hcl;generalize xs[k]=f at *;clear he
    go_wp2_with fail
    refine hcl.out.mono ?_;rintro e w1 ⟨rfl,hb⟩;have hb':=hid (aI hB hb);clear hb;go_wp2
    go_roundw
    case rel=>exact⟨k+1,by omega,by go_num,hs.out,hb'.out⟩
    case measure=>simp [intOf];omega
  ·have hv:=hid (nR (p:=P) (xs:=xs) (fun j f hj hf=>hne.out j f (by have:=lx.out;omega) hf));go_wp2;go_ret;exact⟨jL hv.out.symm,hB.out⟩
theorem aFl (P:Int->Bool) (a:Option Addr) (n c x0 x1:Nat) (xs:List Int) (w:World) (h:jP w a n xs) (hn:n<1099511627776)
  (hc:∀w1,Below w.heap.size w w1->∀x∈xs,Calls Tryz.prog 172 #[.int .i64 x,.pointer (some ⟨x0,0,none⟩),.pointer (some ⟨x1,0,none⟩)] w1 fun e w'=>e = .returned (.bool (P x))/\Below w1.heap.size w1 w') :
  Calls Tryz.prog 80 #[.slice a n c,.func (.func 172) #[] #[.pointer (some ⟨x0,0,none⟩),.pointer (some ⟨x1,0,none⟩)]] w fun e w'=>e = .returned (.bool (xs.any P))/\Below w.heap.size w w':=by
 have hi:=hid (aFk P a n c x0 x1 xs w h hn hc);clear h hc;have hidx:=kO (p:=P) xs 0;cases hf:xs.find? P with
 |
  none=>
  rw [hf] at hidx;dsimp only at hidx;have hv:=@hid (xs.any P=false) (by rw [List.any_eq_false];rw [List.find?_eq_none] at hf;exact hf);rw [hidx] at hi;clear hidx hf;go_enter Tryz.func80,Tryz.ntmps80
  go_wp2_with fail
  refine hi.out.mono ?_;rintro e w1 ⟨rfl,hb⟩;have hb':=hid hb;clear hb;go_wp2;go_ret;exact⟨aQ hv.out.symm,hb'.out⟩
 |
  some f=>
  rw [hf] at hidx;dsimp only at hidx;obtain ⟨k,hk1,hk2⟩:=hidx;have hv:=@hid (xs.any P=true) (by rw [List.any_eq_true];exact⟨f,List.mem_of_find?_eq_some hf,by have:=List.find?_some hf;exact this⟩);rw [hk1] at hi;clear hk1 hf;go_enter Tryz.func80,Tryz.ntmps80
  go_wp2_with fail
  refine hi.out.mono ?_;rintro e w1 ⟨rfl,hb⟩;have hb':=hid hb;clear hb;go_wp2;go_ret;exact⟨aQ hv.out.symm,hb'.out⟩
theorem aFm (P:Int->Bool) (a:Option Addr) (n c x0:Nat) (xs:List Int) (w:World) (h:jP w a n xs) (hn:n<1099511627776)
  (hc:∀w1,Below w.heap.size w w1->∀x∈xs,Calls Tryz.prog 205 #[.int .i64 x,.pointer (some ⟨x0,0,none⟩)] w1 fun e w'=>e = .returned (.bool (P x))/\Below w1.heap.size w1 w') :
  Calls Tryz.prog 124 #[.slice a n c,.func (.func 205) #[] #[.pointer (some ⟨x0,0,none⟩)]] w fun e w'=>e = .returned (.int .i64 (oO P xs 0))/\Below w.heap.size w w':=by
 have h':=hid h;have lx:=hid h.len;have hc':=hid hc;clear h hc;go_enter Tryz.func124,Tryz.ntmps124
 go_wp2
 go_loopw [4,5,8] (fun _ _ i wr=>∃k:Nat,k<=n/\i = .int .i64 k/\Hid (∀j x,j<k->xs[j]? = some x->P x=false)/\Hid (Below w.heap.size w wr)) (fun _ _ i _=>n - (intOf i).toNat)
 case atStart=>exact⟨0,aV,rfl,fun j f hj=>absurd hj (Nat.not_lt_zero _),Below.refl _ _⟩
 case round=>
  obtain ⟨k,hk,rfl,hne,hB⟩:=hrel;by_cases hlt2:k<n
  ·have hkx:k<xs.length:=by rw [lx.out];exact hlt2
   have hf:=List.getElem?_eq_getElem hkx;obtain ⟨b,o,rfl,k0⟩:=(h'.out.below hB.out aB).at k hlt2;have hcl:=hid (hc'.out wr hB.out xs[k] (List.getElem_mem hkx));rw [cK hkx] at k0;have hf':=hid hf;clear hf;cases he:P xs[k]
   case true=>
    have hv:=hid (mW (p:=P) (fun j f hj hf=>hne.out j f hj hf) hf'.out he);rw [he] at hcl;generalize xs[k]=f at *;clear he
    go_wp2_with fail
    refine hcl.out.mono ?_;rintro e w1 ⟨rfl,hb⟩;have hb':=hid (aI hB hb);clear hb;go_wp2;go_ret;exact⟨jL hv.out.symm,hb'.out⟩
   case false=>
    have hs:=@hid (∀j f,j<k+1->xs[j]? = some f->P f=false) (fun j f hj hf=>by
     by_cases hjk:j<k
     ·exact hne.out j f hjk hf
     ·obtain rfl:j=k:=by omega
      rw [hf'.out] at hf;cases hf;exact he)
    rw [he] at hcl;generalize xs[k]=f at *;clear he
    go_wp2_with fail
    refine hcl.out.mono ?_;rintro e w1 ⟨rfl,hb⟩;have hb':=hid (aI hB hb);clear hb;go_wp2
    go_roundw
    case rel=>exact⟨k+1,by omega,by go_num,hs.out,hb'.out⟩
    case measure=>simp [intOf];omega
  ·have hv:=hid (nR (p:=P) (xs:=xs) (fun j f hj hf=>hne.out j f (by have:=lx.out;omega) hf));go_wp2;go_ret;exact⟨jL hv.out.symm,hB.out⟩
theorem aFn (P:Int->Bool) (a:Option Addr) (n c x0:Nat) (xs:List Int) (w:World) (h:jP w a n xs) (hn:n<1099511627776)
  (hc:∀w1,Below w.heap.size w w1->∀x∈xs,Calls Tryz.prog 205 #[.int .i64 x,.pointer (some ⟨x0,0,none⟩)] w1 fun e w'=>e = .returned (.bool (P x))/\Below w1.heap.size w1 w') :
  Calls Tryz.prog 80 #[.slice a n c,.func (.func 205) #[] #[.pointer (some ⟨x0,0,none⟩)]] w fun e w'=>e = .returned (.bool (xs.any P))/\Below w.heap.size w w':=by
 have hi:=hid (aFm P a n c x0 xs w h hn hc);clear h hc;have hidx:=kO (p:=P) xs 0;cases hf:xs.find? P with
 |
  none=>
  rw [hf] at hidx;dsimp only at hidx;have hv:=@hid (xs.any P=false) (by rw [List.any_eq_false];rw [List.find?_eq_none] at hf;exact hf);rw [hidx] at hi;clear hidx hf;go_enter Tryz.func80,Tryz.ntmps80
  go_wp2_with fail
  refine hi.out.mono ?_;rintro e w1 ⟨rfl,hb⟩;have hb':=hid hb;clear hb;go_wp2;go_ret;exact⟨aQ hv.out.symm,hb'.out⟩
 |
  some f=>
  rw [hf] at hidx;dsimp only at hidx;obtain ⟨k,hk1,hk2⟩:=hidx;have hv:=@hid (xs.any P=true) (by rw [List.any_eq_true];exact⟨f,List.mem_of_find?_eq_some hf,by have:=List.find?_some hf;exact this⟩);rw [hk1] at hi;clear hk1 hf;go_enter Tryz.func80,Tryz.ntmps80
  go_wp2_with fail
  refine hi.out.mono ?_;rintro e w1 ⟨rfl,hb⟩;have hb':=hid hb;clear hb;go_wp2;go_ret;exact⟨aQ hv.out.symm,hb'.out⟩
theorem lL:(Tryz.prog.info? 177).map (fun i=>(i.zero,i.size,i.bytes))=some (some (.int .u64 0),1,8):=by kernel_rfl
theorem aDs:(Tryz.prog.info? 38).map (fun i=>(i.zero,i.size,i.bytes))=some (some (.agg #[.int .i64 0,.string ByteArray.empty,.bool false,.slice none 0 0,.slice none 0 0,.slice none 0 0,.int .i64 0]),7,112):=by kernel_rfl
def aKu (xs:List Int):Prop:=∀x∈xs,uX x
theorem bJ.src64 {S:Nat->Prop} {w:World} {a:Option Addr} {n:Nat} {xs:List Int} (h:bJ bV.u64 S w a n xs):Src w 1 a n (xs.map (Value.int .u64)):=by
 refine⟨by rw [List.length_map,h.1,Nat.mul_one],fun hn=>?_⟩;obtain ⟨b,o,rfl,_,_,hc⟩:=h.2 hn;refine⟨_,rfl,fun j u hu=>?_⟩;rw [List.getElem?_map] at hu;obtain ⟨x,hx,rfl⟩:=Option.map_eq_some_iff.1 hu;obtain ⟨cs,h1,h2⟩:=hc j x hx;have h3:=h2 0 (.int .u64 x) (by rw [h1.1];rfl);rw [Addr.add_lit]
 simpa [bV.u64] using h3
theorem bJ.us {S:Nat->Prop} {w:World} {a:Option Addr} {n:Nat} {xs:List Int} (h:bJ bV.u64 S w a n xs):aKu xs:=fun x hx=>by
 obtain ⟨j,hj,rfl⟩:=List.getElem_of_mem hx;obtain ⟨b,o,cs,_,_,h1,_⟩:=h.at (List.getElem?_eq_getElem hj);exact h1.2
theorem aL4 (xs:List Int) (k:IntKind):(xs.map fun x=>[Value.int k x]).flatten=xs.map (Value.int k):=by
 induction xs with
 | nil=>rfl
 | cons x xs ih=>simp [ih]
theorem bW.toU {w:World} {base:Nat} {v:Value} {xs:List Int} (h:bW w base 177 1 v xs.length (xs.map (Value.int .u64))) (ok:aKu xs):bK bV.u64 (fun _=>False) w base 177 v xs:=by
 refine⟨xs.map fun x=>[Value.int .u64 x],by rw [aL4];exact h,by simp,fun j x hx=>?_⟩;exact⟨[.int .u64 x],by rw [List.getElem?_map,hx];rfl,rfl,ok x (List.mem_of_getElem? hx)⟩
theorem cV {S:Nat->Prop} (a:Option Addr) (n c:Nat) (xs:List Int) (w:World) (hx:bJ bV.u64 S w a n xs) (hn:n<17592186044416) :
  Calls Tryz.prog 120 #[.slice a n c] w fun e w'=>∃a' c',e = .returned (.slice a' n c')/\bK bV.u64 (fun _=>False) w' w.heap.size 177 (.slice a' n c') xs/\Below w.heap.size w w':=by
 have lx:=hid hx.1;have ok:=hid hx.us;have hsrc:=hid hx.src64;obtain ⟨i0,hi,hz0,hz1,hz2⟩:=info_parts lL;have q22:∀(w:World) (a:Option Addr) (n c n' c':Nat),(binOp .eql 34 (.slice a n c) (.slice none n' c')).run Tryz.prog w = .ok (.bool a.isNone) w:=fun w a n c n' c'=>Lib.run_eql_slice_nil w _ _ a n c n' c' Tryz.underlying34
 cases a with
 |
  none=>
  have h0:n=0:=by
   rcases Nat.eq_zero_or_pos n with h | h
   ·exact h
   ·obtain ⟨b,o,ha,_⟩:=hx.2 h;cases ha
  have hxs:xs = []:=List.eq_nil_of_length_eq_zero (by rw [lx.out,h0]);subst h0 hxs;clear hx hsrc;go_enter Tryz.func120,Tryz.ntmps120
  go_wp2;go_ret;exact⟨none,0,rfl,bK.nil _ _ _ _ _,Below.refl _ _⟩
 |
  some a=>
  clear hx;go_enter Tryz.func120,Tryz.ntmps120
  go_wp2_with (at_builtin;refine eB (base:=w.heap.size) (v:=.slice (some ⟨w.heap.size,0,none⟩) 0 0) rfl _ _ rfl Tryz.underlying34 hi hz0 hz1 hz2 rfl (by decide) rfl rfl (bW.lit0 rfl aB) (hsrc.out.keep (bD)) ?c1 ?c2 ?c3 ?c4 ?_)
  case c1=>intro u hu;obtain ⟨x,_,rfl⟩:=List.mem_map.1 hu;rfl
  case c2=>unfold maxLen;omega
  case c3=>omega
  case c4=>simp
  intro v' w1 ho hg hl;have ho':=hid (bW.toU (w:=w1) (base:=w.heap.size) (v:=v') (xs:=xs) (by rw [lx.out];simpa using ho) ok.out);obtain ⟨a',c',rfl,_⟩:=ho.slice;have hb:=hid (((Below.refl w.heap.size w).alloc aB (.cells #[] 177)).grown hg (by simp) (by intro k hk;simp [Value.ownBlock] at hk;omega));clear ho hg hl;go_wp2;go_ret;exact⟨a',c',by simp,by simpa using ho'.out,hb.out⟩
theorem kR (B p:Nat) (T:aR) (a:Option Addr) (n c:Nat) (xs:List Int) (s:Int) (w:World) (h:cU B p T w) (hx:jP w a n xs) (hn:n<1099511627776) (hi:InT T xs) :
  Calls Tryz.prog 132 #[.pointer (some ⟨p,0,none⟩),.slice a n c,.int .i64 s] w fun e w'=>e = .returned (.bool (kX T xs s))/\Below w.heap.size w w':=by
 have hd:=@hid (kX T xs s = !(xs.any fun i=>!((nodeAt T i).sort == s))) rfl;have hB0:Below w.heap.size w ((w.alloc (.cells #[.pointer (some ⟨p,0,none⟩)] 26)).alloc (.cells #[.int .i64 s] 3)):=(bD).alloc (by simp) _;have hb1:=dG w (.cells #[.pointer (some ⟨p,0,none⟩)] 26) (.cells #[.int .i64 s] 3);have hb2:=cY w (.cells #[.pointer (some ⟨p,0,none⟩)] 26) (.cells #[.int .i64 s] 3);have hc:=hid (aFl (fun i=>!((nodeAt T i).sort == s)) a n c w.heap.size (w.heap.size+1) xs _ (hx.below hB0 aB) hn (fun w1 hw1 x hxm=>by
  obtain ⟨h0,h1⟩:=hi x hxm;obtain ⟨k,rfl⟩:=Int.eq_ofNat_of_zero_le h0;exact aFi B p T s k w.heap.size (w.heap.size+1) w1 ((h.all hB0).all hw1) (by omega) (aC ((hw1.block _ (by simp;omega)).trans hb1) 0) (aC ((hw1.block _ (by simp)).trans hb2) 0)))
 have hB0':=hid hB0;clear h hx hi hB0 hb1 hb2;go_enter Tryz.func132,Tryz.ntmps132
 go_wp2_with fail
 refine hc.out.mono ?_;rintro e w1 ⟨rfl,hb⟩;have hb':=hid (hB0'.out.trans (hb.mono (by simp;omega)));clear hb;go_wp2;go_ret;exact⟨aQ hd.out.symm,hb'.out⟩
theorem pE (B p:Nat) (T:aR) (a:Option Addr) (n c:Nat) (xs:List Int) (w:World) (h:cU B p T w) (hx:jP w a n xs) (hn:n<1099511627776) (hi:InT T xs) :
  Calls Tryz.prog 133 #[.pointer (some ⟨p,0,none⟩),.slice a n c] w fun e w'=>e = .returned (.bool (lC T xs))/\Below w.heap.size w w':=by
 have hd:=@hid (lC T xs=(decide (2<=xs.length) && kX T xs (nodeAt T (nth xs 0)).sort)) rfl;have lx:=hid hx.len;by_cases h2:2<=n
 ·have hv:=@hid (kX T xs (nodeAt T (nth xs 0)).sort=lC T xs) (by rw [hd.out,lx.out];simp [h2]);obtain ⟨b,o,rfl,k0⟩:=hx.at 0 (by omega);rw [Nat.add_zero] at k0;obtain ⟨g0,g1⟩:=hi (nth xs 0) (fF (by rw [lx.out];omega));have hall:=hid (fun(w1:World) (s:Int) (hw:Below w.heap.size w w1)=>kR B p T (some ⟨b,o,none⟩) n c xs s w1 (h.all hw) (hx.below hw aB) hn hi);obtain ⟨k,hk⟩:=Int.eq_ofNat_of_zero_le g0;rw [hk] at k0 g1 hv;obtain ⟨q,a1,c1,a2,c2,m,ha⟩:=h.look;have k1:w.cell? ⟨p,1,none⟩=some (.slice a1 T.nodes.length c1):=aC ha.blk 1;obtain ⟨b1,o1,rfl,k2,_⟩:=ha.sortCell (k:=k) (by omega);have h2i:(2:Int)<=n:=by omega
  have hn0:0<n:=by omega
  have hkn:k<T.nodes.length:=by omega
  clear h hx hi ha hd hk;generalize (nodeAt T k).sort=z at *;go_enter Tryz.func133,Tryz.ntmps133
  go_wp2_with fail
  refine aW (S:=fun W=>Below w.heap.size w W) 16 (by kernel_rfl) (by kernel_rfl) (aG w) (fun _=>?_);refine aE 0 ?_;refine aE 1 ?_;refine aE 2 ?_;refine aE 3 ?_;refine aE 4 ?_;refine aE 5 ?_;refine aE 6 ?_;refine aE 7 ?_;refine aE 8 ?_;refine aE 9 (hy:=(by first | exact Or.inl ⟨by rfl,by(intro W hSw;have hq:=aD hSw k1;go_simp <;> with_reducible rfl)⟩ | exact Or.inr ⟨by rfl,rfl⟩)) ?_;refine aE 10 ?_;refine aE 11 ?_;refine aE 12 (hy:=(by first | exact Or.inl ⟨by rfl,by(intro W hSw;have hq:=aD hSw k0;go_simp <;> with_reducible rfl)⟩ | exact Or.inr ⟨by rfl,rfl⟩)) ?_;refine aE 13 ?_;refine aE 14 ?_;refine aE 15 (hy:=(by first | exact Or.inl ⟨by rfl,by(intro W hSw;have hq:=aD hSw k2;go_simp <;> with_reducible rfl)⟩ | exact Or.inr ⟨by rfl,rfl⟩)) ?_;refine bH (by decide +kernel) ?_;simp only [cG,bT]
  go_wp2_with fail
  refine(hall.out _ z (by assumption)).mono ?_;rintro e w1 ⟨rfl,hb⟩;have hb':=hid (hb);clear hb;go_wp2;go_ret;exact⟨aQ hv.out,(aG w).trans (hb'.out.mono (aG w).size)⟩
 ·have hv:=@hid (false=lC T xs) (by rw [hd.out,lx.out];simp [h2]);have h2i:¬(2:Int)<=n:=by omega
  have h2d:decide ((n:Int) ≥ 2)=false:=by simp;omega
  clear h hx hi hd;go_enter Tryz.func133,Tryz.ntmps133
  go_wp2_with fail
  go_quiet (fail)
  go_wp2;go_ret;exact⟨aQ hv.out,(Below.refl _ _).drewN _⟩
def eU (T:aR) (xs:List Int) (k:Nat):Nat:=oY T (xs.take k)
theorem vA {T:aR} {xs:List Int} {k:Nat} (hk:k<xs.length):eU T xs (k+1)=eU T xs k+(if (numAt T (nth xs k)).1 then 0 else 1):=by
 unfold eU oY;rw [List.take_succ_eq_append_getElem hk,List.filter_append,List.length_append,cK hk]
 congr 1
 rw [List.filter_cons];cases (numAt T xs[k]).1 <;> rfl
theorem xF {T:aR} {xs:List Int}:eU T xs xs.length=oY T xs:=by unfold eU;rw [List.take_length]
theorem zC {T:aR} {xs:List Int} {k:Nat}:eU T xs k<=k:=by
 unfold eU oY;exact aK (List.length_filter_le _ _) (by rw [List.length_take];exact Nat.min_le_left _ _)
theorem zD (B p:Nat) (T:aR) (a:Option Addr) (n c:Nat) (xs:List Int) (w:World) (h:cU B p T w) (hx:jP w a n xs) (hn:n<1099511627776) (hi:InT T xs) (hnn:T.nums.length=T.nodes.length) :
  Calls Tryz.prog 173 #[.pointer (some ⟨p,0,none⟩),.slice a n c] w fun e w'=>e = .returned (.bool (jR T xs))/\w'=w:=by
 have lx:=hid hx.len;have hx':=hid hx;have hi':=hid hi;obtain ⟨q,a1,c1,a2,c2,m,ha⟩:=h.look;have k1:w.cell? ⟨p,2,none⟩=some (.slice a2 T.nums.length c2):=aC ha.blk 2;have ha':=hid ha;clear hx hi h ha;go_enter Tryz.func173,Tryz.ntmps173
 go_wp2
 go_loopw [5,7,10] (fun o _ i wr=>∃k:Nat,k<=n/\i = .int .i64 k/\o = .int .i64 (eU T xs k)/\wr=w) (fun _ _ i _=>n - (intOf i).toNat)
 case atStart=>exact⟨0,aV,rfl,by simp [eU,oY],rfl⟩
 case round=>
  obtain ⟨k,hk,rfl,rfl,rfl⟩:=hrel;by_cases hlt:k<n
  ·have hkx:k<xs.length:=by rw [lx.out];exact hlt
   obtain ⟨b,o,rfl,k0⟩:=hx'.out.at k hlt;obtain ⟨g0,g1⟩:=hi'.out (nth xs k) (fF hkx);have hs:=hid (vA (T:=T) hkx);obtain ⟨j,hj⟩:=Int.eq_ofNat_of_zero_le g0;rw [hj] at k0 g1 hs;have hj1:j<T.nums.length:=by omega
   have hj2:(j:Int)<T.nums.length:=by omega
   obtain ⟨b1,o1,rfl,k2,_⟩:=ha'.out.numCell hj1;have hot:=zC (T:=T) (xs:=xs) (k:=k);clear g0 g1 hj;cases hz:(numAt T j).1
   case true=>
    have hv:=@hid (eU T xs (k+1)=eU T xs k) (by rw [hs.out,hz];rfl);rw [hz] at k2;clear hz hs;go_wp2
    go_roundw
    case rel=>exact⟨k+1,by omega,by go_num,by rw [hv.out],trivial⟩
    case measure=>simp [intOf];omega
   case false=>
    have hv:=@hid (eU T xs (k+1)=eU T xs k+1) (by rw [hs.out,hz];rfl);rw [hz] at k2;clear hz hs;generalize eU T xs k=z at *;go_wp2
    go_roundw
    case rel=>exact⟨k+1,by omega,by go_num,by rw [hv.out];go_num,trivial⟩
    case measure=>simp [intOf];omega
  ·have hkn:k=n:=by omega
   have hv:=@hid (jR T xs=decide ((eU T xs k:Int)<=1)) (by
    unfold jR;rw [hkn,<-lx.out,xF];by_cases h1:oY T xs<=1
    ·simp [h1];omega
    ·simp [h1];omega)
   clear hkn;generalize eU T xs k=z at *;go_wp2;go_ret;exact⟨aQ hv.out.symm,rfl⟩
theorem jP.from1 {w:World} {a:Option Addr} {n c:Nat} {xs:List Int} (h:jP w a n xs) (hn:1<=n) (hc:n<=c):jP w (gM a c 1 1) (n - 1) (xs.drop 1):=by
 refine⟨by rw [List.length_drop,h.len],fun x hx=>h.wf x (List.mem_of_mem_drop hx),fun h1=>?_⟩;obtain ⟨b,o,rfl,hlt,hc⟩:=h.cells (by omega);unfold gM;rw [if_neg (by omega)];refine⟨b,o+1,by simp [Addr.add],hlt,fun j hj=>?_⟩;have:=hc (j+1) (by omega);rw [show o+1+j=o+(j+1) by omega,this];simp [nth,List.getD]
theorem aFo (w:World):(sizeOf 3).run Tryz.prog w = .ok 1 w:=by kernel_rfl
theorem vQ {a:Option Addr} {n c:Nat} (hk:1<=n) (hc:n<=c) (W:World):(Instr.slice 23 (.slice a n c) (some (.int .i64 1)) none none).run Tryz.prog W = .ok (.slice (gM a c 1 1) (n - 1) (c - 1)) W:=
 rJ (k:=1) Tryz.underlying23 aFo hk hc W
theorem InT.drop {T:aR} {xs:List Int} (h:InT T xs) (k:Nat):InT T (xs.drop k):=fun x hx=>h x (List.mem_of_mem_drop hx)
theorem xG (B p:Nat) (T:aR) (a:Option Addr) (n c:Nat) (xs:List Int) (w:World) (h:cU B p T w) (hx:jP w a n xs) (hn:n<1099511627776) (h1:1<=n) (hnc:n<=c) (hi:InT T xs) (hnn:T.nums.length=T.nodes.length) :
  Calls Tryz.prog 174 #[.pointer (some ⟨p,0,none⟩),.slice a n c] w fun e w'=>e = .returned (.bool (jF T xs))/\Below w.heap.size w w':=by
 have hd:=@hid (jF T xs = !((xs.drop 1).any (mC T))) rfl;have hB0:Below w.heap.size w (w.alloc (.cells #[.pointer (some ⟨p,0,none⟩)] 26)):=bD;have hb1:=heap_alloc_new w (.cells #[.pointer (some ⟨p,0,none⟩)] 26);have hsl:=fun W=>vQ (a:=a) h1 hnc W
 have hc:=hid (aFn (mC T) (gM a c 1 1) (n - 1) (c - 1) w.heap.size (xs.drop 1) _ ((hx.from1 h1 hnc).below hB0 aB) (by omega) (fun w1 hw1 x hxm=>by
  obtain ⟨g0,g1⟩:=hi.drop 1 x hxm;obtain ⟨k,rfl⟩:=Int.eq_ofNat_of_zero_le g0;exact aDr B p T k w.heap.size w1 ((h.all hB0).all hw1) (by omega) (aC ((hw1.block _ (by simp)).trans hb1) 0)))
 have hB0':=hid hB0;clear h hx hi hB0 hb1;go_enter Tryz.func174,Tryz.ntmps174
 go_wp2_with fail
 refine hc.out.mono ?_;rintro e w1 ⟨rfl,hb⟩;have hb':=hid (hB0'.out.trans (hb.mono (by simp)));clear hb;go_wp2;go_ret;exact⟨aQ (by rw [hd.out,List.drop_one]),hb'.out⟩
theorem gA (B p:Nat) (T:aR) (op:Int) (a:Option Addr) (n c:Nat) (xs:List Int) (w:World) (h:cU B p T w) (hx:jP w a n xs) (hn:n<1099511627776) (hnc:n<=c) (hi:InT T xs) (hnn:T.nums.length=T.nodes.length) :
  Calls Tryz.prog 135 #[.pointer (some ⟨p,0,none⟩),.int .i64 op,.slice a n c] w fun e w'=>e = .returned (.bool (cX T op xs))/\Below w.heap.size w w':=by
 have hd:=@hid (cX T op xs=if (xs.length:Int)<oZ op then false else if kX T xs 1 then(if op=15 then jR T xs else if op=16 then jF T xs else true) else false) rfl;have lx:=hid hx.len;have hall:=hid (kR B p T a n c xs 1 w h hx hn hi);have hpr:=hid (fun(w1:World) (hw:Below w.heap.size w w1)=>zD B p T a n c xs w1 (h.all hw) (hx.below hw aB) hn hi hnn);have hqu:=hid (fun(w1:World) (h1:1<=n) (hw:Below w.heap.size w w1)=>xG B p T a n c xs w1 (h.all hw) (hx.below hw aB) hn h1 hnc hi hnn);clear h hx hi;by_cases hop:op=14
 ·subst hop;by_cases h1:n<1
  ·have hv:=@hid (false=cX T 14 xs) (by rw [hd.out,lx.out];simp [oZ,show n=0 by omega]);have h1i:(n:Int)<1:=by omega
   go_enter Tryz.func135,Tryz.ntmps135
   go_wp2;go_ret;exact⟨aQ hv.out,Below.refl _ _⟩
  ·have h1i:¬(n:Int)<1:=by omega
   cases ha:kX T xs 1
   case false=>
    have hv:=@hid (false=cX T 14 xs) (by rw [hd.out,lx.out,ha];simp);rw [ha] at hall;clear ha;go_enter Tryz.func135,Tryz.ntmps135
    go_wp2_with fail
    refine hall.out.mono ?_;rintro e w1 ⟨rfl,hb⟩;have hb':=hid hb;clear hb;go_wp2;go_ret;exact⟨aQ hv.out,hb'.out⟩
   case true=>
    have hv:=@hid (true=cX T 14 xs) (by rw [hd.out,lx.out,ha];simp [oZ];omega);rw [ha] at hall;clear ha;go_enter Tryz.func135,Tryz.ntmps135
    go_wp2_with fail
    refine hall.out.mono ?_;rintro e w1 ⟨rfl,hb⟩;have hb':=hid hb;clear hb;go_wp2;go_ret;exact⟨aQ hv.out,hb'.out⟩
 have hl2:=@hid (oZ op=2) (by unfold oZ;rw [if_neg hop]);by_cases h1:n<2
 ·have hv:=@hid (false=cX T op xs) (by rw [hd.out,lx.out,hl2.out,if_pos (by omega)]);have h1i:(n:Int)<2:=by omega
  go_enter Tryz.func135,Tryz.ntmps135
  go_wp2;go_ret;exact⟨aQ hv.out,Below.refl _ _⟩
 ·have h1i:¬(n:Int)<2:=by omega
  have hd2:=@hid (cX T op xs=if kX T xs 1 then(if op=15 then jR T xs else if op=16 then jF T xs else true) else false) (by rw [hd.out,lx.out,hl2.out,if_neg (by omega)]);clear hd hl2;cases ha:kX T xs 1
  case false=>
   have hv:=@hid (false=cX T op xs) (by rw [hd2.out,ha];rfl);rw [ha] at hall;clear ha;go_enter Tryz.func135,Tryz.ntmps135
   go_wp2_with fail
   refine hall.out.mono ?_;rintro e w1 ⟨rfl,hb⟩;have hb':=hid hb;clear hb;go_wp2;go_ret;exact⟨aQ hv.out,hb'.out⟩
  case true=>
   have hd3:=@hid (cX T op xs=(if op=15 then jR T xs else if op=16 then jF T xs else true)) (by rw [hd2.out,ha];rfl);rw [ha] at hall;clear ha hd2;by_cases h15:op=15
   ·subst h15;have hv:=@hid (jR T xs=cX T 15 xs) (by rw [hd3.out];rfl);go_enter Tryz.func135,Tryz.ntmps135
    go_wp2_with fail
    refine hall.out.mono ?_;rintro e w1 ⟨rfl,hb⟩;have hb':=hid hb;clear hb
    go_wp2_with fail
    refine(hpr.out w1 hb'.out).mono ?_;rintro e w2 ⟨rfl,rfl⟩;go_wp2;go_ret;exact⟨aQ hv.out,hb'.out⟩
   ·by_cases h16:op=16
    ·subst h16;have hv:=@hid (jF T xs=cX T 16 xs) (by rw [hd3.out];rfl);go_enter Tryz.func135,Tryz.ntmps135
     go_wp2_with fail
     refine hall.out.mono ?_;rintro e w1 ⟨rfl,hb⟩;have hb':=hid hb;clear hb
     go_wp2_with fail
     refine(hqu.out w1 (by omega) hb'.out).mono ?_;rintro e w2 ⟨rfl,hb⟩;have hb2:=hid (hb'.out.trans (hb.mono hb'.out.size));clear hb;go_wp2;go_ret;exact⟨aQ hv.out,hb2.out⟩
    ·have hv:=@hid (true=cX T op xs) (by rw [hd3.out];simp [h15,h16]);go_enter Tryz.func135,Tryz.ntmps135
     go_wp2_with fail
     refine hall.out.mono ?_;rintro e w1 ⟨rfl,hb⟩;have hb':=hid hb;clear hb;go_wp2;go_ret;exact⟨aQ hv.out,hb'.out⟩
def xH (T:aR) (xs ss:List Int) (k:Nat):Prop:=∀j,j<k->(nodeAt T (nth xs j)).sort=nth ss j
theorem lD {T:aR}:∀ {xs ss:List Int},xs.length=ss.length->(eQ T xs ss=true↔xH T xs ss xs.length)
 | [],[],_=>by simp [eQ,xH]
 |
  x :: xs,s :: ss,h=>by
  have ih:=lD (T:=T) (xs:=xs) (ss:=ss) (by simpa using h);unfold eQ;rw [Bool.and_eq_true,ih];constructor
  ·rintro ⟨h1,h2⟩ j hj;cases j with
   | zero=>simpa [nth] using h1
   | succ j=>have:=h2 j (by simpa using hj);simpa [nth] using this
  ·intro h;exact⟨by have:=h 0 (by simp);simpa [nth] using this,fun j hj=>by have:=h (j+1) (by simpa using hj);simpa [nth] using this⟩
 | [],_ :: _,h=>by simp at h
 | _ :: _,[],h=>by simp at h
theorem aFp (B p:Nat) (T:aR) (nm:ByteArray) (a:Option Addr) (n c:Nat) (xs:List Int) (w:World) (h:cU B p T w) (hx:jP w a n xs) (hn:n<1099511627776) (hi:InT T xs) (hs:qD T.S) :
  Calls Tryz.prog 134 #[.pointer (some ⟨p,0,none⟩),.string nm,.slice a n c] w fun e w'=>e = .returned (.tuple #[.int .i64 (gF T nm xs).1,.bool (gF T nm xs).2])/\Below w.heap.size w w':=by
 have hd:=@hid (gF T nm xs=if (gO T.S nm).isSome/\(fH T.S nm).args.length=xs.length then(if eQ T xs (fH T.S nm).args then((fH T.S nm).res,true) else(0,false)) else(0,false)) rfl;have lx:=hid hx.len;have hx':=hid hx;have hi':=hid hi;have h':=hid h;obtain ⟨q,a1,c1,a2,c2,m,ha⟩:=h.look;have k1:w.cell? ⟨p,0,none⟩=some (.pointer (some ⟨q,0,none⟩)):=aC ha.blk 0;obtain ⟨Bs,hq⟩:=ha.srt;have hf:=hid (yW Bs q T.S nm w hq hs);have hplt:=h.plt;clear hx hi h ha hq;have hdc:∀b x,(gF T nm xs)=(x,b)->Value.tuple #[.int .i64 x,.bool b] = .tuple #[.int .i64 (gF T nm xs).1,.bool (gF T nm xs).2]:=fun b x e=>by rw [e]
 have hdc':=hid hdc;clear hdc;cases hsome:(gO T.S nm).isSome
 case false=>
  have hv:=@hid (gF T nm xs=(0,false)) (by rw [hd.out,hsome];simp);rw [hsome] at hf;clear hsome hd;go_enter Tryz.func134,Tryz.ntmps134
  go_wp2_with fail
  refine hf.out.mono ?_;rintro e w1 ⟨af,cf,rfl,hsl,hc1,hc2,hb⟩;have B1:=hid (hb.alloc hb.size (.cells #[.string (fH T.S nm).name,.slice af (fH T.S nm).args.length cf,.int .i64 (fH T.S nm).res] 114));clear hb hsl hc1 hc2;go_wp2;go_ret2;exact⟨by rw [hv.out];rfl,B1.out⟩
 case true=>
 rw [hsome] at hf;have hd2:=@hid (gF T nm xs=if (fH T.S nm).args.length=xs.length then(if eQ T xs (fH T.S nm).args then((fH T.S nm).res,true) else(0,false)) else(0,false)) (by rw [hd.out,hsome];simp);clear hsome hd;generalize hF:fH T.S nm=F at *;have hfa:F.args.length<1099511627776:=by
  rw [<-hF];unfold fH;cases hff:gO T.S nm with
  | none=>simp [oS]
  | some f=>exact hs.a f (List.mem_of_find?_eq_some hff)
 by_cases hl:F.args.length=n
 case neg=>
  have hv:=@hid (gF T nm xs=(0,false)) (by rw [hd2.out,lx.out,if_neg hl]);have hli:¬(F.args.length:Int)=n:=by omega
  clear hd2;go_enter Tryz.func134,Tryz.ntmps134
  go_wp2_with fail
  refine hf.out.mono ?_;rintro e w1 ⟨af,cf,rfl,hsl,hc1,hc2,hb⟩;have B1:=hid (hb.alloc hb.size (.cells #[.string F.name,.slice af F.args.length cf,.int .i64 F.res] 114));clear hb hsl hc1 hc2 hF;go_wp2;go_ret2;exact⟨by rw [hv.out];rfl,B1.out⟩
 case pos=>
 have hd3:=@hid (gF T nm xs=if eQ T xs F.args then(F.res,true) else(0,false)) (by rw [hd2.out,lx.out,if_pos hl]);have hlf:=hid (show xs.length=F.args.length by rw [lx.out,hl]);clear hd2;subst hl;go_enter Tryz.func134,Tryz.ntmps134
 go_wp2_with fail
 refine hf.out.mono ?_;rintro e w1 ⟨af,cf,rfl,hsl,hc1,hc2,hb⟩;have B1:=hid (hb.alloc hb.size (.cells #[.string F.name,.slice af F.args.length cf,.int .i64 F.res] 114));have hb0:=hid hb;have hsl':=hid (hsl.toI.below ((Below.refl _ _).alloc aB (.cells #[.string F.name,.slice af F.args.length cf,.int .i64 F.res] 114)) aB);have hbox:=hid (heap_alloc_new w1 (.cells #[.string F.name,.slice af F.args.length cf,.int .i64 F.res] 114));generalize hW1:w1.alloc (.cells #[.string F.name,.slice af F.args.length cf,.int .i64 F.res] 114)=W1 at *;have hsz:W1.heap.size=w1.heap.size+1:=by rw [<-hW1];simp
 have f1:W1.cell? ⟨w1.heap.size,1,none⟩=some (.slice af F.args.length cf):=aC hbox.out 1;clear hb hsl hc1 hc2 hF;go_wp2;clear hW1
 go_loopw [10,11,33] (fun _ _ i wr=>∃k:Nat,k<=F.args.length/\i = .int .i64 k/\Hid (xH T xs F.args k)/\Hid (Below W1.heap.size W1 wr)) (fun _ _ i _=>F.args.length - (intOf i).toNat)
 case atStart=>exact⟨0,aV,rfl,fun j hj=>absurd hj (Nat.not_lt_zero _),Below.refl _ _⟩
 case round=>
  obtain ⟨k,hk,rfl,hne,hB⟩:=hrel;have Bw:=hid (aI B1 hB.out);have Hb:=hid ((hB.out.block w1.heap.size (by omega)).trans hbox.out);have f1:wr.cell? ⟨w1.heap.size,1,none⟩=some (.slice af F.args.length cf):=aC Hb.out 1;have f2:wr.cell? ⟨w1.heap.size,2,none⟩=some (.int .i64 F.res):=aC Hb.out 2;by_cases hlt:k<F.args.length
  ·have hkx:k<xs.length:=by rw [lx.out];exact hlt
   have hki:(k:Int)<F.args.length:=by omega
   obtain ⟨b,o,rfl,k0⟩:=(hx'.out.below Bw.out aB).at k hlt;obtain ⟨b2,o2,rfl,k2⟩:=(hsl'.out.below hB.out aB).at k hlt;obtain ⟨g0,g1⟩:=hi'.out (nth xs k) (fF hkx);obtain ⟨j,hj⟩:=Int.eq_ofNat_of_zero_le g0;obtain ⟨q,a1,c1,a2,c2,m,ha⟩:=(h'.out.all Bw.out).look;have hj1:j<T.nodes.length:=by omega
   have hj2:(j:Int)<T.nodes.length:=by omega
   have k3:wr.cell? ⟨p,1,none⟩=some (.slice a1 T.nodes.length c1):=aC ha.blk 1;obtain ⟨b1,o1,rfl,k4,_⟩:=ha.sortCell hj1;have hstep:=@hid ((nodeAt T j).sort=nth F.args k->xH T xs F.args (k+1)) (fun e i hi=>by
    by_cases hik:i<k
    ·exact hne.out i hik
    ·obtain rfl:i=k:=by omega
     rw [hj];exact e)
   have hno:=@hid ((nodeAt T j).sort≠nth F.args k->eQ T xs F.args=false) (fun e=>by
    cases hss:eQ T xs F.args
    ·rfl
    ·exact absurd (by have:=(lD hlf.out).1 hss k hkx;rw [hj] at this;exact this) e)
   rw [hj] at k0;clear ha g0 g1 hj hne;generalize (nodeAt T j).sort=z at *;generalize nth F.args k=y at *;by_cases hzy:z=y
   ·have hv:=hid (hstep.out hzy);subst hzy;clear hno hstep;go_wp2
    go_quiet (fail)
    go_wp2
    go_roundw
    case rel=>exact⟨k+1,by omega,by go_num,hv.out,hB.out.drewN _⟩
    case measure=>simp [intOf];omega
   ·have hv:=@hid (gF T nm xs=(0,false)) (by rw [hd3.out,hno.out hzy];rfl);have hzy':decide (z=y)=false:=by simpa using hzy
    clear hno hstep;go_wp2
    go_quiet (fail)
    go_wp2;go_ret2;exact⟨by rw [hv.out];rfl,Bw.out.drewN _⟩
  ·have hkn:k=xs.length:=by have:=hlf.out;omega
   have hv:=@hid (gF T nm xs=(F.res,true)) (by rw [hd3.out,if_pos ((lD hlf.out).2 (hkn ▸ hne.out))]);clear hkn;go_wp2;go_ret2;exact⟨by rw [hv.out];rfl,Bw.out⟩
end Go.Proofs.YtgoojkiccdjplaaGreatDoor
