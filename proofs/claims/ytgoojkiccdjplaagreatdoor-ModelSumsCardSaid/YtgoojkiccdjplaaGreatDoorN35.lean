/-
  Parts of this claim's texts, one behind the other: GD GH. No condition.
-/
import Derived.Test.YtgoojkiccdjplaaGreatDoorN28
import Derived.Test.YtgoojkiccdjplaaGreatDoorN33
import Derived.Test.YtgoojkiccdjplaaGreatDoorN31
import Derived.Test.YtgoojkiccdjplaaGreatDoorN34
set_option linter.unusedVariables false
set_option linter.unusedSimpArgs false
set_option maxRecDepth 100000
set_option maxHeartbeats 16000000
namespace Go.Proofs.YtgoojkiccdjplaaGreatDoor
open Go.RowKit Go.Sort Go.Lib
def aLp (pt:Nat) (v:Value) (q:Nat):Prop:=q≠pt/\v.ownBlock≠some q
def InD (X:Nat->Prop) (pm nb nsb:Nat) (v vT:Value) (q:Nat):Prop:=X q/\aLp pm vT q/\v.ownBlock≠some q/\q≠nb/\q≠nsb
structure iG (w:World) (pp pm nb nsb B:Nat) (x y z:Int) (T:aR) (ki:Nat) (v:Value) (tbs:List mU) (vT:Value) (X:Nat->Prop) (wr:World):Prop where
 st:St w pp { T with X:=X } wr
 ids:bW wr B 3 1 v ki ((aBb ki).map (Value.int .i64))
 idx:∀q,v.ownBlock=some q->X q
 box:wr.heap[pm]? = some (.cells #[vT] 71 (0,0))
 nn:wr.heap[nb]? = some (.cells #[.int .i64 x,.int .i64 y,.int .i64 z] 3 (0,0))
 nm:wr.heap[nsb]? = some (.cells #[.string ⟨#[120]⟩,.string ⟨#[121]⟩,.string ⟨#[122]⟩] 9 (0,0))
 xx:X pm/\X nb/\X nsb
 tx:∀q,vT.ownBlock=some q->X q
 own:bK lT (InD X pm nb nsb v vT) wr B 67 vT tbs
 lo:w.heap.size<=pm/\pm<B/\nb<B/\nsb<B/\B<=wr.heap.size/\w.heap.size<=B/\nb≠pm/\nsb≠pm
section
variable {w wr wX w4 w' : World} {pp pm nb nsb B ki : Nat} {x y z : Int} {T T' : aR} {v v' vT vT' : Value} {tbs : List mU} {X : Nat -> Prop}
theorem iG.move (h:iG w pp pm nb nsb B x y z T ki v tbs vT X wr) (hb:∀q,X q->w'.heap[q]? = wr.heap[q]?) (hs:wr.heap.size<=w'.heap.size) (st:St w pp { T' with X:=X } w'):iG w pp pm nb nsb B x y z T' ki v tbs vT X w':=
 ⟨st,h.ids.same fun k hk=>hb k (h.idx k hk),h.idx,(hb _ h.xx.1).trans h.box,(hb _ h.xx.2.1).trans h.nn,(hb _ h.xx.2.2).trans h.nm,h.xx,h.tx,h.own.keep (fun q _ hq=>hb q hq.1) (fun k hk=>hb k (h.tx k hk)) hs,
  h.lo.1,h.lo.2.1,h.lo.2.2.1,h.lo.2.2.2.1,aK h.lo.2.2.2.2.1 hs,h.lo.2.2.2.2.2⟩
theorem iG.step (h:iG w pp pm nb nsb B x y z T ki v tbs vT X wr) (hs:fB pp wr w') (st:St w pp { T' with X:=X } w'):iG w pp pm nb nsb B x y z T' ki v tbs vT X w':=
 h.move (fun _ hq=>h.st.own hq hs) hs.size st
theorem iG.all (h:iG w pp pm nb nsb B x y z T ki v tbs vT X wr) (hb:Below wr.heap.size wr w'):iG w pp pm nb nsb B x y z T ki v tbs vT X w':=
 h.move (fun q hq=>hb.block q (h.st.xlt hq)) hb.size (h.st.all hb)
theorem iG.here (h:iG w pp pm nb nsb B x y z T ki v tbs vT X wr) (hb:Below wr.heap.size wr w'):iG w pp pm nb nsb B x y z T ki v tbs vT (fun q=>X q\/(wr.heap.size<=q/\q<w'.heap.size)) w':=by
 have h':=h.all hb;refine⟨h.st.more hb fun k hk=>hk,h'.ids,fun q hq=>.inl (h.idx q hq),h'.box,h'.nn,h'.nm,⟨.inl h.xx.1,.inl h.xx.2.1,.inl h.xx.2.2⟩,fun q hq=>.inl (h.tx q hq),h'.own.mono fun q _ hq=>⟨.inl hq.1,hq.2⟩,h'.lo⟩
theorem iG.inNew {q n:Nat} (h:iG w pp pm nb nsb B x y z T ki v tbs vT X wr) (h1:wr.heap.size<=q) (h2:q<n):InD (fun q=>X q\/(wr.heap.size<=q/\q<n)) pm nb nsb v vT q:=
 ⟨.inr ⟨h1,h2⟩,⟨by have:=h.lo;omega,fun e=>by have:=(h.own.lt q e).2;omega⟩,fun e=>by have:=(h.ids.lt q e).2;omega,by have:=h.lo;omega,by have:=h.lo;omega⟩
theorem iG.idp (h:iG w pp pm nb nsb B x y z T ki v tbs vT X wX) (ho:bW w4 B 3 1 v' (ki+1) ((aBb (ki+1)).map (Value.int .i64))) (hg:wX.grownBy w4 v.ownBlock) (hl:v'.ownBlock=v.ownBlock\/∀k,v'.ownBlock=some k->wX.heap.size<=k) :
  iG w pp pm nb nsb B x y z T (ki+1) v' tbs vT (fun q=>X q\/(wX.heap.size<=q/\q<w4.heap.size)) w4:=by
 have hlo:=h.lo;have hv:∀q,v.ownBlock=some q->B<=q/\q<wX.heap.size:=h.ids.lt;have hne:∀q,q<wX.heap.size->v.ownBlock≠some q->w4.heap[q]? = wX.heap[q]?:=fun q hq hn=>hg.block q hq fun e=>hn e.symm
 have hb:Below w.heap.size wX w4:=(Below.refl _ _).grown hg h.st.b.size fun k hk=>by have:=hv k hk;omega
 have hpm:v.ownBlock≠some pm:=fun e=>by have:=hv pm e;omega
 have hnb:v.ownBlock≠some nb:=fun e=>by have:=hv nb e;omega
 have hns:v.ownBlock≠some nsb:=fun e=>by have:=hv nsb e;omega
 have hvT:∀q,vT.ownBlock=some q->v.ownBlock≠some q:=fun q e f=>by
  obtain ⟨c1,f1,h1⟩:=h.own.ty q e;obtain ⟨c2,f2,h2⟩:=h.ids.ty q f;rw [h1] at h2;injection h2 with h2;injection h2 with _ h3;exact absurd h3 (by decide)
 refine⟨h.st.excl hb (fun k hk hn=>hne k hk fun e=>hn (h.idx k e)) (fun k hk=>⟨hk.imp id fun e=>e.1,?_⟩),ho,fun q hq=>?_,(hne _ (by omega) hpm).trans h.box,(hne _ (by omega) hnb).trans h.nn,(hne _ (by omega) hns).trans h.nm,⟨.inl h.xx.1,.inl h.xx.2.1,.inl h.xx.2.2⟩,fun q hq=>.inl (h.tx q hq),?_,hlo.1,hlo.2.1,hlo.2.2.1,hlo.2.2.2.1,aK hlo.2.2.2.2.1 hg.size,hlo.2.2.2.2.2⟩
 ·rcases hk with hk | hk
  ·have:=h.st.xlt hk;have:=hg.size;omega
  ·exact hk.2
 ·rcases hl with e | e
  ·exact .inl (h.idx q (e ▸ hq))
  ·exact .inr ⟨e q hq,(ho.lt q hq).2⟩
 ·have hw:=h.own.mono (S':=fun q=>InD X pm nb nsb v vT q/\q<wX.heap.size) fun q hq hS=>⟨hS,hq⟩
  refine(hw.keep (fun q hq hS=>hne q hq hS.1.2.2.1) (fun k hk=>hne k (h.own.lt k hk).2 (hvT k hk)) hg.size).mono fun q _ hS=>⟨.inl hS.1.1,hS.1.2.1,fun e=>?_,hS.1.2.2.2⟩
  rcases hl with f | f
  ·exact hS.1.2.2.1 (f ▸ e)
  ·have:=f q e;have:=hS.2;omega
theorem iG.tbp {css:List (List Value)} {t:mU} {xc:List Value} (h:iG w pp pm nb nsb B x y z T ki v tbs vT X wX) (oc:bW wX B 67 lT.k vT tbs.length css.flatten) (ol:css.length=tbs.length) (oe:∀(j:Nat) (u:mU),tbs[j]? = some u->∃cs,css[j]? = some cs/\lT.rd (InD X pm nb nsb v vT) wX u cs)
  (hx:lT.rd (InD X pm nb nsb v vT) wX t xc) (ho:bW w4 B 67 lT.k vT' (tbs.length+1) (css.flatten++xc)) (hg:wX.grownBy w4 vT.ownBlock) (hl:vT'.ownBlock=vT.ownBlock\/∀k,vT'.ownBlock=some k->wX.heap.size<=k) :
  iG w pp pm nb nsb B x y z T ki v (tbs ++ [t]) vT' (fun q=>X q\/(wX.heap.size<=q/\q<w4.heap.size)) (w4.setCell ⟨pm,0,none⟩ vT'):=by
 have hlo:=h.lo;have hv:∀q,vT.ownBlock=some q->B<=q/\q<wX.heap.size:=oc.lt;have hpT:vT.ownBlock≠some pm:=fun e=>by have:=hv pm e;omega
 have hpT':vT'.ownBlock≠some pm:=fun e=>by have:=(ho.lt pm e).1;omega
 have hne:∀q,q<wX.heap.size->vT.ownBlock≠some q->w4.heap[q]? = wX.heap[q]?:=fun q hq hn=>hg.block q hq fun e=>hn e.symm
 have hset:∀q,q≠pm->(w4.setCell ⟨pm,0,none⟩ vT').heap[q]? = w4.heap[q]?:=fun q hq=>Below.heap_setCell _ _ _ _ hq
 have hsz:(w4.setCell ⟨pm,0,none⟩ vT').heap.size=w4.heap.size:=fD;have hb:Below w.heap.size wX (w4.setCell ⟨pm,0,none⟩ vT'):=((Below.refl _ _).grown hg h.st.b.size fun k hk=>by have:=hv k hk;omega).setCell hlo.1 _;have hvT:∀q,v.ownBlock=some q->vT.ownBlock≠some q:=fun q e f=>by
  obtain ⟨c1,f1,h1⟩:=oc.ty q f;obtain ⟨c2,f2,h2⟩:=h.ids.ty q e;rw [h1] at h2;injection h2 with h2;injection h2 with _ h3;exact absurd h3 (by decide)
 have hnb:vT.ownBlock≠some nb:=fun e=>by have:=hv nb e;omega
 have hns:vT.ownBlock≠some nsb:=fun e=>by have:=hv nsb e;omega
 have hvp:v.ownBlock≠some pm:=fun e=>by have:=(h.ids.lt pm e).1;omega
 have h4:w4.heap[pm]? = some (.cells #[vT] 71 (0,0)):=(hne _ (by omega) hpT).trans h.box;refine⟨h.st.excl hb (fun k hk hn=>(hset k fun e=>hn (e ▸ h.xx.1)).trans (hne k hk fun e=>hn (h.tx k e))) (fun k hk=>⟨hk.imp id fun e=>e.1,?_⟩),h.ids.same fun k hk=>(hset k fun e=>hvp (e ▸ hk)).trans (hne k (h.ids.lt k hk).2 (hvT k hk)),fun q hq=>.inl (h.idx q hq),?_,(hset _ hlo.2.2.2.2.2.2.1).trans ((hne _ (by omega) hnb).trans h.nn),(hset _ hlo.2.2.2.2.2.2.2).trans ((hne _ (by omega) hns).trans h.nm),⟨.inl h.xx.1,.inl h.xx.2.1,.inl h.xx.2.2⟩,fun q hq=>?_,?_,hlo.1,hlo.2.1,hlo.2.2.1,hlo.2.2.2.1,by rw [hsz];exact aK hlo.2.2.2.2.1 hg.size,hlo.2.2.2.2.2⟩
 ·rw [hsz];rcases hk with hk | hk
  ·have:=h.st.xlt hk;have:=hg.size;omega
  ·exact hk.2
 ·unfold World.setCell;rw [Array.getElem?_modify,if_pos rfl,h4];rfl
 ·rcases hl with e | e
  ·exact .inl (h.tx q (e ▸ hq))
  ·exact .inr ⟨e q hq,(ho.lt q hq).2⟩
 ·have O4:=bK.push (R:=lT) (S:=fun q=>InD X pm nb nsb v vT q/\q<wX.heap.size) (x:=t) ol (fun j u hu=>by
   obtain ⟨cs,h1,h2⟩:=oe j u hu;exact⟨cs,h1,lT.mono h2 fun b hlt hb=>⟨hb,hlt⟩⟩) (lT.mono hx fun b hlt hb=>⟨hb,hlt⟩) ho (fun b hlt hb=>hne b hlt hb.1.2.1.2) hg.size
  refine(O4.mono (S':=InD (fun q=>X q\/(wX.heap.size<=q/\q<w4.heap.size)) pm nb nsb v vT') fun b _ hb=>⟨.inl hb.1.1,⟨hb.1.2.1.1,fun e=>?_⟩,hb.1.2.2⟩).keep (fun b _ hb=>hset b hb.2.1.1) (fun k hk=>hset k fun e=>hpT' (e ▸ hk)) (Nat.le_of_eq hsz.symm);rcases hl with f | f
  ·exact hb.1.2.1.2 (f ▸ e)
  ·have:=f b e;have:=hb.2;omega
end
end Go.Proofs.YtgoojkiccdjplaaGreatDoor
