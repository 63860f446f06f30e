/-
  Parts of this claim's texts, one behind the other: ZJ ZP CN UN OP CO. No condition.
-/
import Derived.Test.YtgoojkiccdjplaaGreatDoorM22
import Derived.Test.YtgoojkiccdjplaaGreatDoorM20
import Derived.Test.YtgoojkiccdjplaaGreatDoorM26
import Derived.Test.YtgoojkiccdjplaaGreatDoorM1
import Derived.Deep.Slices
import Derived.OpenShut
set_option linter.unusedVariables false
set_option linter.unusedSimpArgs false
set_option maxRecDepth 100000
set_option maxHeartbeats 16000000
namespace Go.Proofs.YtgoojkiccdjplaaGreatDoor
open Go.RowKit Go.Sort Go.Lib
structure St (w0:World) (p:Nat) (T:TermD) (w:World):Prop where
 t:TermX w0.heap.size p T w
 b:Below w0.heap.size w0 w
section
variable {w0 w w' : World} {p : Nat} {T T' : TermD}
theorem St.all (h:St w0 p T w) (hb:Below w.heap.size w w'):St w0 p T w':=⟨h.t.all hb,h.b.trans (hb.mono h.b.size)⟩
theorem St.lit (h:St w0 p T w) (o:Obj):St w0 p T (w.alloc o):=h.all ((Below.refl _ _).alloc (Nat.le_refl _) _)
theorem St.step (h:St w0 p T w) (ht:TermX w0.heap.size p T' w') (hs:TStep p w w'):St w0 p T' w':=⟨ht,h.b.trans (h.t.stepBelow hs)⟩
theorem St.env (h:St w0 p T w) (hE:EnvT w0):EnvT w:=hE.all h.b
theorem lit_dat (w:World) (xs:List Int) (hx:∀x∈xs,okI x):SlR Rep.int (DatB (w.alloc (.cells (xs.map (Value.int .i64)).toArray 3))) (w.alloc (.cells (xs.map (Value.int .i64)).toArray 3)) (some ⟨w.heap.size,0,none⟩) xs.length xs:=
 SlR.ofI (RdI.lit xs 3 w hx) fun x _ e=>by
  injection e with e
  subst e
  exact⟨_,_,.inl (heap_alloc_new w _)⟩
theorem lit_args (w:World) (op:Int) (xs:List Int) (ho:okI op) (hx:∀x∈xs,okI x) (hl:xs.length≤maxLen) (h11:op≠11):MArgs (w.alloc (.cells (xs.map (Value.int .i64)).toArray 3)) ⟨#[]⟩ noRat xs op none none (some ⟨w.heap.size,0,none⟩) 0 0 xs.length:=
 ⟨SlR.nil _ _ _ _,SlR.nil _ _ _ _,lit_dat w xs hx,⟨Nat.le_refl _,Nat.zero_le _⟩,⟨Nat.le_refl _,Nat.zero_le _⟩,⟨Nat.le_refl _,hl⟩,by decide,by decide,ho,fun e=>absurd e h11⟩
theorem St.free (h:St w0 p T w) (o:Obj):¬ownT p (w.alloc o) w.heap.size:=fun e=>by
 obtain ⟨q,v1,v2,m,ha⟩:=h.t
 have hb:Below w.heap.size w (w.alloc o):=(Below.refl _ _).alloc (Nat.le_refl _) _
 have:=(ha.ownB ((ownT.same (hb.block p ha.plt)).1 e)).2
 omega
end
theorem ok_A0:TermOk A0:=TermOk.empty 10
section
variable (T : TermD) (X : Nat → Prop)
theorem sameSorts_X:∀(l m:List Int),sameSorts { T with X:=X } l m=sameSorts T l m
 | [],_=>rfl
 | _ :: _,[]=>rfl
 | a :: l,s :: m=>by unfold sameSorts;rw [sameSorts_X l m];rfl
theorem callD_X (nm:ByteArray) (args:List Int):callD { T with X:=X } nm args=callD T nm args:=by unfold callD;rw [sameSorts_X]
theorem sortedD_X (op:Int) (nm:ByteArray) (args:List Int):sortedD { T with X:=X } op nm args=sortedD T op nm args:=by unfold sortedD;rw [callD_X];rfl
theorem putD_X (n : NodeD) : putD { T with X := X } n = ((putD T n).1, { (putD T n).2 with X := X }) := by
  unfold putD
  dsimp only
  cases T.ids (keyB n) with
  | some i => rfl
  | none =>
    dsimp only
    by_cases h : 16384 ≤ T.nodes.length
    · rw [if_pos h, if_pos h]
    · rw [if_neg h, if_neg h]; rfl
theorem makeD_X (op:Int) (nm:ByteArray) (val:RatD) (args:List Int):makeD { T with X:=X } op nm val args=((makeD T op nm val args).1,{ (makeD T op nm val args).2 with X:=X }):=by
 unfold makeD
 rw [sortedD_X]
 have e:args.any (fun i=>!hasT { T with X:=X } i)=args.any (fun i=>!hasT T i):=rfl
 rw [e]
 split
 ·rfl
 ·split
  ·rfl
  ·split
   ·rfl
   ·split
    ·exact putD_X T X _
    ·rfl
theorem freshD_X (s:Int):freshD { T with X:=X } s=((freshD T s).1,{ (freshD T s).2 with X:=X }):=by
 unfold freshD
 have e:freshNode { T with X:=X } s=freshNode T s:=rfl
 rw [e,putD_X]
 dsimp only
 split
 ·split
  ·rfl
  ·rfl
 ·rfl
end
theorem SmT.X {T:TermD} (h:SmT T) (X:Nat→Prop):SmT { T with X:=X }:=⟨h.nn,h.cn,h.le,h.fr,h.s,h.ids⟩
theorem TermOk.X {T:TermD} (h:TermOk T) (X:Nat→Prop):TermOk { T with X:=X }:=⟨h.sm.X X,h.sn,h.ord⟩
section
variable {w0 w w' : World} {p n s : Nat} {t : TypeId} {T : TermD} {v v' : Value} {xs : List Value}
theorem OwnC.tstep (ho:OwnC w w0.heap.size t s v n xs) (h:St w0 p T w) (hX:∀k,v.ownBlock=some k→T.X k) (hs:TStep p w w'):OwnC w' w0.heap.size t s v n xs:=
 ho.same fun k hk=>(hs.block k (ho.lt k hk).2 (by obtain ⟨q,v1,v2,m,ha⟩:=h.t;exact(ha.xlt k (hX k hk)).2.1)).1
theorem St.own (h:St w0 p T w) {k:Nat} (hX:T.X k) (hs:TStep p w w'):w'.heap[k]? = w.heap[k]?:=by
 obtain ⟨q,v1,v2,m,ha⟩:=h.t
 exact(hs.block k (ha.xlt k hX).1 (ha.xlt k hX).2.1).1
theorem St.excl (h:St w0 p T w) {X':Nat→Prop} (hb:Below w0.heap.size w w') (hk:∀k,k<w.heap.size→¬T.X k→w'.heap[k]? = w.heap[k]?) (hx:∀k,X' k→(T.X k∨w.heap.size≤k)∧k<w'.heap.size):St w0 p { T with X:=X' } w':=
 ⟨h.t.excl hk hb.size hx,h.b.trans hb⟩
end
structure Two (w0:World) (p r q:Nat) (T:TermD) (w:World):Prop where
 st:St w0 p T w
 m:RTm T.X w0.heap.size r q T.S T.nodes w
 ap:∀k,rowOf r w k→¬ownT p w k
 xd:∀k,T.X k→w0.heap.size≤k∧∃cs f,w.heap[k]? = some (.cells cs 3 f)
section
variable {w0 w w' : World} {p r q : Nat} {T T' : TermD}
theorem RTm.rowTy {X:Nat→Prop} {B:Nat} {S:TabD} {M:List NodeD} (h:RTm X B r q S M w) {k:Nat} (hk:rowOf r w k):B≤k∧k<w.heap.size∧∃cs f,w.heap[k]? = some (.cells cs 38 f):=by
 obtain ⟨v,h1,h2⟩:=h.row
 obtain ⟨u,v',x,t,f,e,hv⟩:=hk
 rw [h1] at e
 cases e
 exact⟨(h2.lt k hv).1,(h2.lt k hv).2,h2.ty k hv⟩
theorem RTm.keep2 {X X':Nat→Prop} {B:Nat} {S:TabD} {M:List NodeD} (h:RTm X B r q S M w) (hr:w'.heap[r]? = w.heap[r]?) (hrow:∀k,rowOf r w k→w'.heap[k]? = w.heap[k]?) (hq:∀k,ownOf w q k→w'.heap[k]? = w.heap[k]?)
  (hd:∀k,DatY B X w k→k<w.heap.size→w'.heap[k]? = w.heap[k]?) (hs:w.heap.size≤w'.heap.size) (hx:∀k,k<w.heap.size→¬X k→¬X' k) (hl:∀k,X' k→k<w'.heap.size):RTm X' B r q S M w':=by
 obtain ⟨v,h1,h2⟩:=h.row
 refine⟨h.bp,⟨v,hr.trans h1,?_⟩,?_⟩
 ·exact(h2.keep (fun k hlt hk=>hd k hk hlt) (fun k hk=>hrow k ⟨_,_,_,_,_,h1,hk⟩) hs).mono fun k _ hk=>by
   rcases hk with hk | hk
   ·exact .inl hk
   ·exact .inr ⟨hx k hk.2.lt hk.1,hk.2.same (hd k (.inr hk) hk.2.lt)⟩
 ·have hsq:=h.sq
  obtain ⟨v1,v2,v3,hb,g1,g2,g3⟩:=hsq.blk
  refine⟨hsq.bp,hl,v1,v2,v3,(hq q (.inl rfl)).trans hb,g1.keep (fun _ _ h=>h.elim) (fun k e=>hq k ((own3 hb).2 (.inr (.inl e)))) hs,?_,g3.keep (fun _ _ h=>h.elim) (fun k e=>hq k ((own3 hb).2 (.inr (.inr (.inr e))))) hs⟩
  exact(g2.keep (fun k hlt hk=>hd k (.inr hk.dat) hlt) (fun k e=>hq k ((own3 hb).2 (.inr (.inr (.inl e))))) hs).mono fun k _ hk=>⟨hx k hk.dat.2.lt hk.1,by obtain ⟨_,cs,f,hc⟩:=hk;exact⟨cs,f,(hd k (.inr ⟨by assumption,cs,f,.inl hc⟩) (Array.getElem?_eq_some_iff.1 hc).1).trans hc⟩⟩
theorem RTm.sqTy {X:Nat→Prop} {B:Nat} {S:TabD} {M:List NodeD} (h:RTm X B r q S M w) {k:Nat} (hk:ownOf w q k):B≤k∧k<w.heap.size∧∃cs t f,w.heap[k]? = some (.cells cs t f)∧(t=107∨t=9∨t=114∨t=329):=by
 obtain ⟨v1,v2,v3,hb,g1,g2,g3⟩:=h.sq.blk
 refine⟨(h.sq.ownB hk).1,(h.sq.ownB hk).2,?_⟩
 rcases (own3 hb).1 hk with rfl | e | e | e
 ·exact⟨_,_,_,hb,.inl rfl⟩
 ·obtain ⟨cs,f,hc⟩:=g1.ty k e;exact⟨cs,_,f,hc,.inr (.inl rfl)⟩
 ·obtain ⟨cs,f,hc⟩:=g2.ty k e;exact⟨cs,_,f,hc,.inr (.inr (.inl rfl))⟩
 ·obtain ⟨cs,f,hc⟩:=g3.ty k e;exact⟨cs,_,f,hc,.inr (.inr (.inr rfl))⟩
theorem RTm.hd {X:Nat→Prop} {B:Nat} {S:TabD} {M:List NodeD} (h:RTm X B r q S M w):∃cs f,w.heap[r]? = some (.cells cs 51 f):=by
 obtain ⟨v,h1,_⟩:=h.row
 exact⟨_,_,h1⟩
theorem Two.all (h:Two w0 p r q T w) (hb:Below w.heap.size w w'):Two w0 p r q T w':=
 ⟨h.st.all hb,h.m.all hb,fun k hk=>fun e=>h.ap k ((rowOf.same (hb.block r h.m.plt)).1 hk) ((ownT.same (hb.block p h.st.t.plt)).1 e),fun k hk=>by
  obtain ⟨h1,cs,f,hc⟩:=h.xd k hk
  exact⟨h1,cs,f,(hb.block k (Array.getElem?_eq_some_iff.1 hc).1).trans hc⟩⟩
theorem Two.tstep (h:Two w0 p r q T w) (hs:TStep p w w'):RTm T.X w0.heap.size r q T.S T.nodes w'∧(∀k,rowOf r w' k→¬ownT p w' k)∧∀k,T.X k→w0.heap.size≤k∧∃cs f,w'.heap[k]? = some (.cells cs 3 f):=by
 have hr:=h.st.t.stay hs h.m.hd (by decide) (by decide) (by decide)
 have hrow:∀k,rowOf r w k→w'.heap[k]? = w.heap[k]?:=fun k hk=>(hs.block k (h.m.rowTy hk).2.1 (h.ap k hk)).1
 refine⟨h.m.keep2 hr hrow (fun k hk=>?_) (fun k hk hl=>?_) hs.size (fun _ _ hn=>hn) (fun k hk=>?_),fun k hk=>?_,fun k hk=>?_⟩
 ·obtain ⟨_,_,cs,t,f,hc,ht⟩:=h.m.sqTy hk
  refine h.st.t.stay hs ⟨cs,f,hc⟩ ?_ ?_ ?_ <;> (rcases ht with rfl | rfl | rfl | rfl <;> decide)
 ·rcases hk with hk | hk
  ·refine(hs.block k hl fun e=>?_).1
   obtain ⟨q',v1,v2,m,ha⟩:=h.st.t
   have:=(ha.ownB e).1
   omega
  ·exact h.st.t.dat hs hk.2
 ·obtain ⟨_,cs,f,hc⟩:=h.xd k hk
  exact Nat.lt_of_lt_of_le (Array.getElem?_eq_some_iff.1 hc).1 hs.size
 ·have hk':=(rowOf.same hr).1 hk
  exact(hs.block k (h.m.rowTy hk').2.1 (h.ap k hk')).2
 ·obtain ⟨h1,cs,f,hc⟩:=h.xd k hk
  exact⟨h1,cs,f,(h.st.t.dat hs ⟨cs,f,.inl hc⟩).trans hc⟩
theorem Two.rstep (h:St w0 p T w) (hm:RTm T'.X w0.heap.size r q T'.S T'.nodes w) (hap:∀k,rowOf r w k→¬ownT p w k) (hxd:∀k,T.X k→w0.heap.size≤k∧∃cs f,w.heap[k]? = some (.cells cs 3 f)) (hs:RStep r w w') (hm2:RTm T.X w0.heap.size r q T.S T.nodes w'):Two w0 p r q T w':=by
 have hrd:=hm.hd
 obtain ⟨q',v1,v2,m,ha⟩:=h.t
 obtain ⟨Bs,h7⟩:=ha.srtX
 have hown:∀k,ownT p w k→w'.heap[k]? = w.heap[k]?:=fun k hk=>hs.block k (ha.ownB hk).2 fun e=>by subst e;exact ha.notOwn hrd (by decide) (by decide) (by decide) hk
 have hp:=hown p (ha.own.2 (.inl rfl))
 have hT:TermAt w0.heap.size p T w' q' v1 v2 m:=by
  refine ha.keep hown (fun k hk=>hs.block k hk.2.lt fun e=>by subst e;obtain ⟨cs,f,hc⟩:=hrd;exact DatB.ne hk.2 (by decide) (by decide) ⟨_,_,hc⟩) (fun k hk=>hs.block k (h7.ownB hk).2 fun e=>?_) hs.size
  subst e
  obtain ⟨u1,u2,u3,hb,g1,g2,g3⟩:=h7.blk
  rcases (own3 hb).1 hk with e | e | e | e
  ·subst e;exact ty_ne (by decide) ⟨_,_,hb⟩ hrd
  ·exact ty_ne (by decide) (g1.ty _ e) hrd
  ·exact ty_ne (by decide) (g2.ty _ e) hrd
  ·exact ty_ne (by decide) (g3.ty _ e) hrd
 have hbel:Below w0.heap.size w0 w':=by
  refine⟨hs.os.trans h.b.os,hs.tape.trans h.b.tape,hs.output.trans h.b.output,Nat.le_trans h.b.size hs.size,fun k hk=>?_⟩
  rw [hs.block k (Nat.lt_of_lt_of_le hk h.b.size) (fun e=>by have:=hm.bp;omega)]
  exact h.b.block k hk
 refine⟨⟨⟨q',v1,v2,m,hT⟩,hbel⟩,hm2,fun k hk e=>?_,fun k hk=>?_⟩
 ·have e':=(ownT.same hp).1 e
  rcases hs.row k hk with h1 | h1
  ·exact hap k h1 e'
  ·have:=(ha.ownB e').2;omega
 ·obtain ⟨h1,cs,f,hc⟩:=hxd k hk
  refine⟨h1,cs,f,(hs.block k (Array.getElem?_eq_some_iff.1 hc).1 fun e=>?_).trans hc⟩
  subst e
  exact ty_ne (by decide) ⟨_,_,hc⟩ hrd
theorem Two.excl (h:Two w0 p r q T w) {X':Nat→Prop} (hb:Below w0.heap.size w w') (hk:∀k,k<w.heap.size→¬T.X k→w'.heap[k]? = w.heap[k]?) (hx:∀k,X' k→(T.X k∨w.heap.size≤k)∧∃cs f,w'.heap[k]? = some (.cells cs 3 f)):Two w0 p r q { T with X:=X' } w':=by
 have hlt:∀k,X' k→k<w'.heap.size:=fun k e=>by obtain ⟨_,cs,f,hc⟩:=hx k e;exact(Array.getElem?_eq_some_iff.1 hc).1
 have hint:∀k,T.X k→∃cs f,w.heap[k]? = some (.cells cs 3 f):=fun k e=>(h.xd k e).2
 have hr:w'.heap[r]? = w.heap[r]?:=hk r h.m.plt fun e=>ty_ne (by decide) (hint r e) h.m.hd
 have hst:=h.st.excl hb hk (X':=X') fun k e=>⟨(hx k e).1,hlt k e⟩
 have hp:w'.heap[p]? = w.heap[p]?:=hk p h.st.t.plt fun e=>by
  obtain ⟨q',v1,v2,m,ha⟩:=h.st.t
  exact ty_ne (by decide) (hint p e) ⟨_,_,ha.blk⟩
 refine⟨hst,h.m.keep2 hr (fun k e=>?_) (fun k e=>?_) (fun k e hl=>?_) hb.size (fun k hl hn e=>?_) hlt,fun k e1 e2=>h.ap k ((rowOf.same hr).1 e1) ((ownT.same hp).1 e2),fun k e=>⟨?_,(hx k e).2⟩⟩
 ·exact hk k (h.m.rowTy e).2.1 fun e2=>ty_ne (by decide) (hint k e2) (h.m.rowTy e).2.2
 ·obtain ⟨_,hl,cs,t,f,hc,ht⟩:=h.m.sqTy e
  refine hk k hl fun e2=>ty_ne (t:=3) (t':=t) ?_ (hint k e2) ⟨cs,f,hc⟩
  rcases ht with rfl | rfl | rfl | rfl <;> decide
 ·rcases e with e | e
  ·exact hk k hl fun e2=>by have:=(h.xd k e2).1;omega
  ·exact hk k hl e.1
 ·rcases (hx k e).1 with h1 | h1
  ·exact hn h1
  ·omega
 ·rcases (hx k e).1 with h1 | h1
  ·exact(h.xd k h1).1
  ·exact Nat.le_trans h.st.b.size h1
end
theorem declared17_any (w:World):Calls Tryz.prog 76 #[] w fun e w'=>DeclPost w e w':=by
 go_enter Tryz.func76,Tryz.ntmps76
 go_wp2
 go_ret
 have i1:=RdI.lit [1] 3 w (by simp)
 generalize h1:w.alloc (.cells #[.int .i64 1] 3)=w1 at *
 have i1':RdI w1 (some ⟨w.heap.size,0,none⟩) 1 [1]:=by rw [←h1];exact i1
 have s1:w1.heap.size=w.heap.size+1:=by rw [←h1];simp
 have b1:Below w.heap.size w w1:=by rw [←h1];exact(Below.refl _ _).alloc (Nat.le_refl _) _
 have i2:=RdI.lit [2,1] 3 w1 (by simp)
 generalize h2:w1.alloc (.cells #[.int .i64 2,.int .i64 1] 3)=w2 at *
 have i2':RdI w2 (some ⟨w.heap.size+1,0,none⟩) 2 [2,1]:=by rw [←h2,←s1];exact i2
 have s2:w2.heap.size=w.heap.size+1+1:=by rw [←h2];simp [s1]
 have b2:Below w1.heap.size w1 w2:=by rw [←h2];exact(Below.refl _ _).alloc (Nat.le_refl _) _
 have i3:=RdI.lit [2] 3 w2 (by simp)
 generalize h3:w2.alloc (.cells #[.int .i64 2] 3)=w3 at *
 have i3':RdI w3 (some ⟨w.heap.size+2,0,none⟩) 1 [2]:=by rw [←h3,show w.heap.size+2=w2.heap.size by omega];exact i3
 have s3:w3.heap.size=w.heap.size+1+1+1:=by rw [←h3];simp [s2]
 have b3:Below w2.heap.size w2 w3:=by rw [←h3];exact(Below.refl _ _).alloc (Nat.le_refl _) _
 have b4:Below w3.heap.size w3 (w3.alloc (.cells (declC w.heap.size).flatten.toArray 114)):=(Below.refl _ _).alloc (Nat.le_refl _) _
 have hg:=heap_alloc_new w3 (.cells (declC w.heap.size).flatten.toArray 114)
 rw [s3] at hg
 have b34:=b3.trans (b4.mono b3.size)
 have b24:=b2.trans (b34.mono b2.size)
 have hS:∀(k o:Nat) (n:Nat) (x:Addr),0<n→some (⟨w.heap.size+k,o,none⟩:Addr)=some x→w.heap.size≤x.block:=fun k o n x _ e=>by injection e with e;rw [←e];exact Nat.le_add_right _ _
 refine⟨rfl,SlR.ofCss (css:=declC w.heap.size) hg (by show w.heap.size≤_;omega) rfl (decl_rd (SlR.ofI (i1'.below b24 (Nat.le_refl _)) (fun x h e=>hS 0 0 1 x h e)) (SlR.ofI (i2'.below b34 (Nat.le_refl _)) (fun x h e=>hS 1 0 2 x h e)) (SlR.ofI (i3'.below b4 (Nat.le_refl _)) (fun x h e=>hS 2 0 1 x h e))),?_,?_⟩
 ·exact b1.trans (b24.mono b1.size)
 ·show(w3.heap.push _).size=_
  rw [Array.size_push,s3]
theorem tables17_any (w:World) (hE:Env w):Calls Tryz.prog 24 #[] w fun e w'=>TabsPost w e w':=by
 have hE':=hid hE
 have pos0:=hE.pos
 have htn:=hid (tnew_any w)
 clear hE
 go_enter Tryz.func24,Tryz.ntmps24
 go_wp2_with fail
 refine htn.out.mono ?_;rintro e w1 ⟨p,rfl,t1,b1⟩
 have I0:=hid (show Duo w p w1.heap.size ⟨[],[],[]⟩ (w1.alloc (.cells #[.slice none 0 0,.slice none 0 0,.slice none 0 0] 107)) from by
  have hB1:Below w1.heap.size w1 (w1.alloc (.cells #[.slice none 0 0,.slice none 0 0,.slice none 0 0] 107)):=(Below.refl _ _).alloc (Nat.le_refl _) _
  have hbq:=heap_alloc_new w1 (.cells #[.slice none 0 0,.slice none 0 0,.slice none 0 0] 107)
  refine⟨t1.all hB1,⟨b1.size,fun _ h=>h.elim,_,_,_,hbq,OwnR.nil _ _ _ _ _,OwnR.nil _ _ _ _ _,OwnR.nil _ _ _ _ _⟩,fun j hj=>?_,b1.trans (hB1.mono b1.size),hE'.out.all (b1.trans (hB1.mono b1.size))⟩
  have hjq:j=w1.heap.size:=by
   rcases (own3 hbq).1 hj with h | h | h | h
   ·exact h
   ·simp [Value.ownBlock] at h
   ·simp [Value.ownBlock] at h
   ·simp [Value.ownBlock] at h
  subst hjq
  refine⟨by simp,fun e=>?_⟩
  have:=(t1.ownB ((ownOf.same (hB1.block p t1.plt)).1 e)).2
  omega)
 clear t1 b1 htn
 go_wp2_with fail
 generalize (w1.alloc (.cells #[.slice none 0 0,.slice none 0 0,.slice none 0 0] 107))=w2 at *
 generalize w1.heap.size=q at *
 have hsp:=hid (sort_any w.heap.size p ⟨[],[],[]⟩ sU w2 I0.out.t I0.out.e (by decide))
 refine hsp.out.mono ?_;rintro e w3 h3
 obtain ⟨rfl,t3,s3⟩:=h3.yes bad7
 obtain ⟨r3,ap3,b3,e3⟩:=I0.out.step pos0 s3
 have J3:=hid (And.intro t3 (And.intro ap3 (And.intro b3 e3)))
 have R3:=hid r3
 have hrs:=hid (rsort_any w.heap.size q ⟨[],[],[]⟩ sU w3 r3 (by decide))
 clear h3 t3 s3 r3 ap3 b3 e3 hsp
 go_wp2_with fail
 refine hrs.out.mono ?_;rintro e w4 h4
 have h4y:e = .returned (.tuple #[.int .i64 2,.int .i64 0])∧RefX (fun _=>False) w.heap.size q (T7 0) w4∧PStep q w3 w4:=by
  unfold RSortPost at h4
  rw [if_neg (by rw [bad7];decide)] at h4
  exact⟨h4.1.1,h4.1.2,h4.2⟩
 obtain ⟨rfl,r4,s4⟩:=h4y
 have I4:=hid (Duo.step2 (T':=T7 0) pos0 J3.out.1 R3.out J3.out.2.1 J3.out.2.2.1 J3.out.2.2.2 r4 s4)
 have hdc:=hid (declared17_any w4)
 clear h4 r4 s4 J3 R3 hrs
 go_wp2_with fail
 refine hdc.out.mono ?_;rintro e w5 ⟨rfl,hl5,b5,z5⟩
 have I5:=hid (I4.out.all b5)
 have F5:=hid (show FreeS (fun k=>w4.heap.size≤k∧k<w5.heap.size) p q w5 from fun k hk=>⟨hk.2,fun e=>by
  have:=(I4.out.t.ownB ((ownOf.same (b5.block p I4.out.t.plt)).1 e)).2
  omega,fun e=>by
  have:=(I4.out.r.ownB ((ownOf.same (b5.block q I4.out.r.plt)).1 e)).2
  omega⟩)
 have L5:=hid (show SlR repF (fun k=>w4.heap.size≤k∧k<w5.heap.size) w5 (some ⟨w4.heap.size+3,0,none⟩) 10 declL from hl5.mono fun b hb hk=>⟨hk,hb⟩)
 clear hl5 b5 z5 hdc I0 I4
 go_wp2
 generalize w4.heap.size+3=g at *
 generalize hSS:(fun k=>w4.heap.size≤k∧k<w5.heap.size)=SS at *
 clear hSS
 go_loopw [5] (fun i wr=>∃k:Nat,k≤10∧i = .int .i64 k∧Hid (Duo w p q (T7 k) wr)∧Hid (FreeS SS p q wr)∧Hid (SlR repF SS wr (some ⟨g,0,none⟩) 10 declL)) (fun i _=>10 - (intOf i).toNat)
 case atStart=>exact⟨0,by omega,rfl,I5.out,F5.out,L5.out⟩
 case round=>
  obtain ⟨k,hk,rfl,hI,hF,hL⟩:=hrel
  by_cases hlt:k<10
  ·have hf:declL[k]? = some (declL[k]'(by show k<10;omega)):=List.getElem?_eq_getElem _
   generalize (declL[k]'(by show k<10;omega))=f at *
   obtain ⟨b,o,a',c',hgo,k0,k1,k2,ra,or,nc,_⟩:=hL.out.funAt hf
   cases hgo
   simp only [Nat.zero_add] at k0 k1 k2
   have hfa:f.args.length≤2:=by
    have:f∈declL:=List.mem_of_getElem? hf
    simp [declL] at this
    rcases this with rfl | rfl | rfl | rfl | rfl | rfl | rfl | rfl | rfl | rfl <;> decide
   obtain ⟨he,hadd⟩:=add7 hlt f hf
   have hki:(k:Int)<10:=by omega
   have hfn:=hid (fun_any w.heap.size p (T7 k) f a' c' wr hI.out.t (small7 k) hI.out.e ra.toI (by omega))
   have hadd':=hid hadd
   have he':=hid he
   have hf':=hid hf
   clear hf he hadd or
   go_wp2_with fail
   refine hfn.out.mono ?_;rintro e w6 ⟨rfl,t6,s6⟩
   rw [hadd'.out] at t6
   obtain ⟨r6,ap6,b6,e6⟩:=hI.out.step pos0 s6
   have hq6:=(s6.block q (hI.out.ap q (.inl rfl)).1 (hI.out.ap q (.inl rfl)).2).1
   obtain ⟨F6,K6⟩:=hF.out.stepP s6 hq6
   have L6:=hL.out.keep (fun b _ hb=>K6 b hb) s6.size
   obtain ⟨b',o',a6,c6,hgo,q0,q1,q2,ra6,_,nc6,_⟩:=L6.funAt hf'.out
   cases hgo
   simp only [Nat.zero_add] at q0 q1 q2
   have J6:=hid (And.intro t6 (And.intro ap6 (And.intro b6 e6)))
   have R6:=hid r6
   have F6':=hid F6
   have L6':=hid L6
   have hrf:=hid (rfun_any w.heap.size q (T7 k) f a6 c6 w6 r6 (small7 k) ra6.toI (by omega) nc6)
   clear t6 s6 r6 ap6 b6 e6 hq6 F6 K6 L6 hfn k0 k1 k2 ra
   go_wp2_with fail
   refine hrf.out.mono ?_;rintro e w7 ⟨rfl,r7,s7⟩
   rw [hadd'.out] at r7
   have I7:=hid (Duo.step2 (T':=T7 (k+1)) pos0 J6.out.1 R6.out J6.out.2.1 J6.out.2.2.1 J6.out.2.2.2 r7 s7)
   have hap:=J6.out.2.1.symm fun j hj=>(J6.out.1.ownB hj).2
   have hp7:=(s7.block p (hap p (.inl rfl)).1 (hap p (.inl rfl)).2).1
   obtain ⟨F7,K7⟩:=F6'.out.stepQ s7 hp7
   have F7':=hid F7
   have L7:=hid (L6'.out.keep (fun b _ hb=>K7 b hb) s7.size)
   clear r7 s7 hap hp7 F7 K7
   go_wp2
   go_roundw
   case rel=>exact⟨k+1,by omega,by go_num,I7.out,F7'.out,L7.out⟩
   case measure=>simp [intOf];omega
  ·have hk10:k=10:=by omega
   subst hk10
   have hnw:=hid (new_any w.heap.size p (T7 10) wr hI.out.t)
   go_wp2_with fail
   refine hnw.out.mono ?_;rintro e w8 ⟨rfl,hT8,b8⟩
   have T8:=hid hT8
   have B8:=hid (hI.out.b.trans (b8.mono hI.out.b.size))
   have hsz:=hI.out.b.size
   clear hT8 b8
   go_wp2
   go_ret2
   have hBA:Below w8.heap.size w8 (w8.alloc (.cells #[.pointer (some ⟨q,0,none⟩),.slice none 0 0,.int .i64 0] 51)):=(Below.refl _ _).alloc (Nat.le_refl _) _
   exact⟨_,_,rfl,(T8.out.lower hsz).all hBA,B8.out.trans (hBA.mono B8.out.size)⟩
end Go.Proofs.YtgoojkiccdjplaaGreatDoor
namespace Go.Proofs.YtgoojkiccdjplaaGreatDoor
open Go.RowKit Go.ChangeShapes Go.WideShapes Go.Deep
def Opens (P:Program) (t:TypeId) {α:Type} (R:Rep α):Prop:=
 P.cellsOf t=R.k∧∀ {H:Type} (enc:TypeId × Value→H) (w:World) (fuel:Nat) (cs:List Value) (x:DataW H × List MemPlace),DataW.trod enc P w 0 (fun _=>true) true fuel t cs=some x→∃y,R.rd (fun _=>True) w y cs
section
variable {P : Program} {t e : TypeId} {α β : Type}
theorem Opens.int (ht:P.underlying t=some (.int .i64)) (hc:P.cellsOf t=1):Opens P t Rep.int:=⟨hc,fun enc w fuel cs x h=>by
 obtain ⟨n,rfl,_,hw⟩:=DataW.trod_int ht h
 exact⟨n,rfl,bounds_i64 hw⟩⟩
theorem Opens.bool (ht:P.underlying t=some .bool) (hc:P.cellsOf t=1):Opens P t Rep.bool:=⟨hc,fun enc w fuel cs x h=>by
 obtain ⟨n,rfl,_⟩:=DataW.trod_bool ht h
 exact⟨n,rfl⟩⟩
def Rep.strB:Rep ByteArray where
 k:=1
 rd _ _ x cs:=cs = [.string x]∧x.size≤maxLen
 len h:=by rw [h.1];rfl
 one h:=by rw [h.1];intro u hu;simp at hu;subst hu;rfl
 keep h _ _:=h
 mono h _:=h
theorem Opens.str (ht:P.underlying t=some .string) (hc:P.cellsOf t=1):Opens P t Rep.strB:=⟨hc,fun enc w fuel cs x h=>by
 obtain ⟨n,rfl,_,hs⟩:=DataW.trod_string ht h
 exact⟨n,rfl,hs⟩⟩
theorem list_of {p : Nat → α → Prop} : ∀ n, (∀ i, i < n → ∃ y, p i y) → ∃ ys : List α, ys.length = n ∧ ∀ j y, ys[j]? = some y → p j y
  | 0, _ => ⟨[], rfl, by simp⟩
  | n + 1, h => by
    obtain ⟨ys, hl, hy⟩ := list_of n (fun i hi => h i (by omega))
    obtain ⟨y, hp⟩ := h n (by omega)
    refine ⟨ys ++ [y], by simp [hl], fun j z hz => ?_⟩
    by_cases hj : j < ys.length
    · rw [List.getElem?_append_left hj] at hz; exact hy j z hz
    · have hl2 := (List.getElem?_eq_some_iff.1 hz).1
      rw [List.length_append, List.length_singleton] at hl2
      obtain rfl : j = n := by omega
      rw [← hl, List.getElem?_concat_length] at hz
      cases hz
      exact hp
theorem Opens.slice {R:Rep α} (he:Opens P e R) (ht:P.underlying t=some (.slice e)) (hc:P.cellsOf t=1) (hk:0<R.k):Opens P t (Rep.slice R):=⟨hc,fun enc w fuel cs x h=>by
 rcases open_slice ht h with ⟨rfl,_⟩ | ⟨a,len,cap,m,n,D,Pl,rfl,_,hl,hm,hmm,_,hx⟩
 ·exact⟨[],none,0,0,rfl,Nat.le_refl _,Nat.zero_le _,SlR.nil _ _ _ _⟩
 ·simp only [if_true] at hmm
  have h1:∀i,i<len→∃y,∃cs',R.rd (fun _=>True) w y cs'∧∀j,j<R.k→w.cell? (a.add (i * R.k+j))=cs'[j]?:=fun i hi=>by
   obtain ⟨cs',h2,h3⟩:=hx i (by omega)
   obtain ⟨y,hy⟩:=he.2 enc w n cs' _ h3
   obtain ⟨_,h4,h5⟩:=World.cells?_some h2
   rw [he.1] at h4 h5
   exact⟨y,cs',hy,fun j hj=>by rw [←add_add];exact h5 j hj⟩
  obtain ⟨ys,hy1,hy2⟩:=list_of len h1
  refine⟨ys,some a,len,cap,rfl,hl,hm,hy1,fun hn=>?_⟩
  obtain ⟨b,o,sp⟩:=a
  have h0:=List.getElem?_eq_getElem (show 0<ys.length by omega)
  obtain ⟨cs0,hr0,hc0⟩:=hy2 0 _ h0
  have hl0:=R.len hr0
  have hc00:=hc0 0 hk
  rw [Nat.zero_mul,List.getElem?_eq_getElem (by omega)] at hc00
  have hsp:sp=none:=by simpa [Addr.add] using World.cell?_spot hc00
  subst hsp
  rw [Addr.add_lit] at hc00
  refine⟨b,o,rfl,World.block_lt_of_cell? w _ hc00,trivial,fun j y hj=>?_⟩
  obtain ⟨cs',hr,hcc⟩:=hy2 j y hj
  refine⟨cs',hr,fun i u hu=>?_⟩
  have hil:=(List.getElem?_eq_some_iff.1 hu).1
  rw [R.len hr] at hil
  have:=hcc i hil
  rw [Addr.add_lit] at this
  rw [Nat.add_assoc,this,hu]⟩
theorem opened_rep {R:Rep α} {H:Type} {enc:TypeId × Value→H} {w:World} {v:Value} {d:DataW H} {p:List MemPlace} (h:Opens P t R) (hd:DataW.Trod enc P w 0 (fun _=>true) true t v d p):∃y,R.rd (fun _=>True) w y v.cells.toList:=by
 obtain ⟨fuel,hf⟩:=hd
 exact h.2 enc w fuel _ _ hf
theorem opened_sl {R:Rep α} {H:Type} {enc:TypeId × Value→H} {w:World} {a:Option Addr} {n c:Nat} {d:DataW H} {p:List MemPlace} (h:Opens P t (Rep.slice R)) (hd:DataW.Trod enc P w 0 (fun _=>true) true t (.slice a n c) d p):∃ys,SlR R (fun _=>True) w a n ys∧(n≤c∧c≤9223372036854775807):=by
 obtain ⟨ys,a',n',c',hv,h1,h2,h3⟩:=opened_rep h hd
 simp [Value.cells] at hv
 obtain ⟨rfl,rfl,rfl⟩:=hv
 exact⟨ys,h3,h1,by unfold maxLen at h2;exact h2⟩
def OpensF (P:Program) (o:Nat) (fs:List Field) {α:Type} (R:Rep α):Prop:=
 ∀(H:Type) (enc:TypeId × Value→H) (w:World) (fuel:Nat) (cs:List Value) (xs:List (DataW H × List MemPlace)),cs.length=o+R.k→xs.length=fs.length →
  (∀(i:Nat) (f:Field),fs[i]? = some f→DataW.trod enc P w 0 (fun _=>true) true fuel f.type ((cs.drop f.offset).take (P.cellsOf f.type))=xs[i]?)→∃y,R.rd (fun _=>True) w y (cs.drop o)
theorem OpensF.one {o:Nat} {f:Field} {R:Rep α} (ho:f.offset=o) (h:Opens P f.type R):OpensF P o [f] R:=fun H enc w fuel cs xs hl hxl hx=>by
 obtain ⟨x,rfl⟩:∃x,xs = [x]:=List.length_eq_one_iff.1 hxl
 have hx1:=hx 0 f rfl
 simp only [List.getElem?_cons_zero] at hx1
 obtain ⟨y,hy⟩:=h.2 enc w fuel _ x hx1
 refine⟨y,?_⟩
 rw [ho,h.1] at hy
 rwa [List.take_of_length_le (by rw [List.length_drop];omega)] at hy
theorem OpensF.cons {o o':Nat} {f:Field} {fs:List Field} {R:Rep α} {T:Rep β} (ho:f.offset=o) (h:Opens P f.type R) (ho':o'=o+R.k) (h':OpensF P o' fs T):OpensF P o (f :: fs) (.prod R T):=fun H enc w fuel cs xs hl hxl hx=>by
 have hl':cs.length=o+(R.k+T.k):=hl
 match xs,hxl with
 | x :: ys,hxl=>
 have hx1:=hx 0 f rfl
 simp only [List.getElem?_cons_zero] at hx1
 have hx3:∀(i:Nat) (g:Field),fs[i]? = some g→_=ys[i]?:=fun i g hg=>by have:=hx (i+1) g (by simpa using hg);simpa using this
 obtain ⟨y,hy⟩:=h.2 enc w fuel _ x hx1
 obtain ⟨z,hz⟩:=h' H enc w fuel cs ys (by omega) (by simpa using hxl) hx3
 refine⟨(y,z),(cs.drop o).take R.k,cs.drop o',?_,?_,hz⟩
 ·rw [ho',←List.drop_drop];exact(List.take_append_drop _ _).symm
 ·rw [ho,h.1] at hy;exact hy
theorem Opens.struct {fs:Array Field} {R:Rep α} (ht:P.underlying t=some (.struct fs)) (hc:P.cellsOf t=R.k) (h:OpensF P 0 fs.toList R):Opens P t R:=⟨hc,fun enc w fuel cs x hx=>by
 obtain ⟨xs,n,_,_,hl,hxl,hm⟩:=DataW.trod_struct ht hx
 obtain ⟨y,hy⟩:=h _ enc w n cs xs (by omega) (by simpa using hxl) (fun i f hf=>hm i f (by simpa using hf))
 exact⟨y,hy⟩⟩
theorem Opens.map {R:Rep α} (f:β→α) (g:α→β) (hg:∀x,f (g x)=x) (h:Opens P t R):Opens P t (Rep.map f R):=⟨h.1,fun enc w fuel cs x hx=>by
 obtain ⟨y,hy⟩:=h.2 enc w fuel cs x hx
 exact⟨g y,by show R.rd _ w (f (g y)) cs;rw [hg];exact hy⟩⟩
end
structure StepD where
 op:Int
 name:ByteArray
 val:RatD
 args:List Int
 raw:Bool
def repStep:Rep StepD:=Rep.map (fun s=>(s.op,s.name,s.val,s.args,s.raw)) (.prod .int (.prod .strB (.prod repR (.prod (.slice .int) .bool))))
theorem repStep_k:repStep.k=7:=rfl
theorem Opens.u64 {P:Program} {t:TypeId} (ht:P.underlying t=some (.int .u64)) (hc:P.cellsOf t=1):Opens P t Rep.u64:=⟨hc,fun enc w fuel cs x h=>by
 obtain ⟨n,rfl,_,hw⟩:=DataW.trod_int ht h
 refine⟨n,rfl,?_⟩
 have h1:IntKind.u64.min=0:=by decide
 have h2:IntKind.u64.max=18446744073709551615:=by decide
 unfold Lit.wf at hw
 unfold okU
 simp [h1,h2] at hw
 omega⟩
theorem opens_rat:Opens Tryz.prog 36 repR:=
 .map (fun r:RatD=>(r.neg,r.num,r.den)) (fun x=>⟨x.1,x.2.1,x.2.2⟩) (fun _=>rfl)
  (.struct Tryz.underlying36 (by kernel_rfl)
   (OpensF.cons rfl (.bool Tryz.underlying4 (by kernel_rfl)) rfl
    (OpensF.cons rfl (.slice (.u64 Tryz.underlying177 (by kernel_rfl)) Tryz.underlying34 (by kernel_rfl) (by decide)) rfl
     (OpensF.one rfl (.slice (.u64 Tryz.underlying177 (by kernel_rfl)) Tryz.underlying34 (by kernel_rfl) (by decide))))))
theorem opens_step:Opens Tryz.prog 136 repStep:=
 .map (fun s:StepD=>(s.op,s.name,s.val,s.args,s.raw)) (fun x=>⟨x.1,x.2.1,x.2.2.1,x.2.2.2.1,x.2.2.2.2⟩) (fun _=>rfl)
  (.struct Tryz.underlying136 (by kernel_rfl)
   (OpensF.cons rfl (.int Tryz.underlying3 (by kernel_rfl)) rfl
    (OpensF.cons rfl (.str Tryz.underlying9 (by kernel_rfl)) rfl
     (OpensF.cons rfl opens_rat rfl
      (OpensF.cons rfl (.slice (.int Tryz.underlying3 (by kernel_rfl)) Tryz.underlying23 (by kernel_rfl) (by decide)) rfl
       (OpensF.one rfl (.bool Tryz.underlying4 (by kernel_rfl))))))))
theorem opens_steps:Opens Tryz.prog 45 (.slice repStep):=.slice opens_step Tryz.underlying45 (by kernel_rfl) (by decide)
structure StepS (S:Nat→Prop) (w:World) (s:StepD) (a:Option Addr) (c:Nat) (b:Option Addr) (d:Nat) (g:Option Addr) (e:Nat):Prop where
 num:SlR Rep.u64 S w a s.val.num.length s.val.num
 nc:s.val.num.length≤c∧c≤maxLen
 den:SlR Rep.u64 S w b s.val.den.length s.val.den
 dc:s.val.den.length≤d∧d≤maxLen
 args:SlR Rep.int S w g s.args.length s.args
 ac:s.args.length≤e∧e≤maxLen
 op:okI s.op
def stepC (s:StepD) (a:Option Addr) (c:Nat) (b:Option Addr) (d:Nat) (g:Option Addr) (e:Nat):List Value:=
 [.int .i64 s.op,.string s.name,.bool s.val.neg,.slice a s.val.num.length c,.slice b s.val.den.length d,.slice g s.args.length e,.bool s.raw]
theorem repStep_rd {S:Nat→Prop} {w:World} {s:StepD} {cs:List Value} (h:repStep.rd S w s cs):∃a c b d g e,cs=stepC s a c b d g e∧StepS S w s a c b d g e:=by
 obtain ⟨p,q,rfl,⟨h1,h1'⟩,p',q',rfl,⟨h2,_⟩,p2,q2,rfl,h3,p3,q3,rfl,⟨g,m,e,h4,h5,h6,h7⟩,h8⟩:=h
 obtain ⟨a,n,c,b,k,d,rfl,r1,r2,r3,r4,r5,r6⟩:=repR_rd.1 h3
 have h1':p = [.int .i64 s.op]:=h1
 have h2':p' = [.string s.name]:=h2
 have h8':q3 = [.bool s.raw]:=h8
 subst h1' h2' h8' h4
 obtain rfl:n=s.val.num.length:=r3.1.symm
 obtain rfl:k=s.val.den.length:=r6.1.symm
 obtain rfl:m=s.args.length:=h7.1.symm
 exact⟨a,c,b,d,g,e,rfl,r3,⟨r1,r2⟩,r6,⟨r4,r5⟩,h7,⟨h5,h6⟩,by assumption⟩
theorem SlR.stepAt {S:Nat→Prop} {w:World} {a:Option Addr} {n k:Nat} {xs:List StepD} {x:StepD} (h:SlR repStep S w a n xs) (hx:xs[k]? = some x) :
  ∃b o a' c' b' d g e,a=some ⟨b,o,none⟩∧StepS S w x a' c' b' d g e∧∀i u,(stepC x a' c' b' d g e)[i]? = some u→w.cell? ⟨b,o+k * 7+i,none⟩=some u:=by
 obtain ⟨b,o,cs,ha,_,hr,hc⟩:=h.at hx
 obtain ⟨a',c',b',d,g,e,rfl,hn⟩:=repStep_rd hr
 rw [repStep_k] at hc
 exact⟨b,o,a',c',b',d,g,e,ha,hn,hc⟩
theorem alikeRat_any (r:RatD) (a b:Option Addr) (c d:Nat) (w:World):Calls Tryz.prog 64 #[ratV r a c b d] w fun e w'=>e = .returned (.bool (decide (r.num.length≤8) && decide (r.den.length≤8)))∧Below w.heap.size w w':=by
 obtain ⟨ng,nu,de⟩:=r
 dsimp only
 by_cases h1:nu.length≤8
 ·have h1i:(nu.length:Int)≤8:=by omega
  have hv:=hid (show decide ((de.length:Int)≤8)=(decide (nu.length≤8) && decide (de.length≤8)) from by
   rw [decide_eq_true h1,Bool.true_and]
   by_cases h:de.length≤8
   ·rw [decide_eq_true h,decide_eq_true (by omega)]
   ·rw [decide_eq_false h,decide_eq_false (by omega)])
  go_enter Tryz.func64,Tryz.ntmps64
  go_wp2
  go_ret
  exact⟨ret_bool hv.out,(Below.refl _ _).alloc (Nat.le_refl _) _⟩
 ·have h1i:¬(nu.length:Int)≤8:=by omega
  have h1d:decide ((nu.length:Int)≤8)=false:=decide_eq_false h1i
  have hv:=hid (show false=(decide (nu.length≤8) && decide (de.length≤8)) from by rw [decide_eq_false h1];rfl)
  go_enter Tryz.func64,Tryz.ntmps64
  go_wp2
  go_ret
  exact⟨rfl,(Below.refl _ _).alloc (Nat.le_refl _) _⟩
def rndZ (k n:Int):Int:=k.tmod n % n
theorem rndZ_bd (k n:Int) (h:0<n):0≤rndZ k n∧rndZ k n<n:=
 ⟨Int.emod_nonneg _ (by omega),Int.emod_lt_of_pos _ h⟩
theorem rnd_any (k n:Int) (w:World) (h0:0<n) (h1:n<4611686018427387904) :
  Calls Tryz.prog 37 #[.int .i64 k,.int .i64 n] w fun e w'=>e = .returned (.int .i64 (rndZ k n))∧w=w':=by
 have h3:(n == 0)=false:=by simp;omega
 have h2:=Int.tmod_lt_of_pos k h0
 have h4:-n<k.tmod n:=by
  have:=Int.lt_tmod_of_pos k h0
  omega
 have e:=@hid (rndZ k n=k.tmod n % n) rfl
 generalize hq:k.tmod n=q at *
 go_enter Tryz.func37,Tryz.ntmps37
 go_wp2
 go_ret
 exact⟨ret_int (by rw [e.out,Int.add_emod_right]),rfl⟩
def SmallS (s:StepD):Prop:=s.name.size≤100∧s.args.length≤66∧s.val.num.length≤8∧s.val.den.length≤8
def FewP (xs:List StepD) (w:World) (e:Ending) (w':World):Prop:=∃t,e = .returned (.bool t)∧(t=true→xs.length≤60∧∀s∈xs,SmallS s)∧Below w.heap.size w w'
theorem few17_any (a:Option Addr) (n c:Nat) (xs:List StepD) (w:World) (hx:SlR repStep (fun _=>True) w a n xs) (hn:n≤9223372036854775807) :
  Calls Tryz.prog 22 #[.slice a n c] w fun e w'=>FewP xs w e w':=by
 have hx':=hid hx
 have lx:=hid hx.1
 clear hx
 go_enter Tryz.func22,Tryz.ntmps22
 go_wp2
 go_loopw [2,3] (fun v2 v3 wr=>∃k:Nat,k≤n∧k≤70∧v2 = .bool false∧v3 = .int .i64 k∧Hid (∀j s,j<k→xs[j]? = some s→SmallS s)∧Hid (Below w.heap.size w wr)) (fun _ v3 _=>70 - (intOf v3).toNat)
 case atStart=>exact⟨0,Nat.zero_le _,by omega,rfl,rfl,fun j s hj=>absurd hj (by omega),Below.refl _ _⟩
 case round=>
  obtain ⟨k,hk,hk7,rfl,rfl,hall,hB⟩:=hrel
  by_cases hkn:k<n
  case neg=>
   obtain rfl:k=n:=by omega
   have h60:((k:Int)≤60)∨¬((k:Int)≤60):=by omega
   have hv:=hid (fun(h:decide ((k:Int)≤60)=true)=>show xs.length≤60∧∀s∈xs,SmallS s from by
    have h:=of_decide_eq_true h
    refine⟨by rw [lx.out];omega,fun s hs=>?_⟩
    obtain ⟨j,hj,rfl⟩:=List.getElem_of_mem hs
    exact hall.out j _ (by rw [lx.out] at hj;exact hj) (List.getElem?_eq_getElem hj))
   have hni:¬(k:Int)<k:=by omega
   go_wp2
   go_ret
   exact⟨_,rfl,fun h=>hv.out h,hB.out⟩
  case pos=>
   have hki:(k:Int)<n:=by omega
   by_cases hk70:k<70
   case neg=>
    have hki7:¬(k:Int)<70:=by omega
    have hk7d:decide ((k:Int)<70)=false:=decide_eq_false hki7
    have hn60:¬(n:Int)≤60:=by omega
    have hn60d:decide ((n:Int)≤60)=false:=decide_eq_false hn60
    go_wp2
    go_ret
    exact⟨false,rfl,fun h=>(by cases h),hB.out⟩
   case pos=>
    have hki7:(k:Int)<70:=by omega
    have hkx:k<xs.length:=by rw [lx.out];exact hkn
    have hxk:=List.getElem?_eq_getElem hkx
    obtain ⟨b1,o1,a',c',b',d',g',e',rfl,hs,hcs⟩:=hx'.out.stepAt hxk
    have q1:=keep_cell hB.out (hcs 1 _ rfl)
    have q2:=keep_cell hB.out (hcs 2 _ rfl)
    have q3:=keep_cell hB.out (hcs 3 _ rfl)
    have q4:=keep_cell hB.out (hcs 4 _ rfl)
    have q5:=keep_cell hB.out (hcs 5 _ rfl)
    have hnx:=hid (fun(h:SmallS xs[k])=>show ∀j s,j<k+1→xs[j]? = some s→SmallS s from fun j s hj hjs=>by
     by_cases e:j=k
     ·rw [e,hxk] at hjs;cases hjs;exact h
     ·exact hall.out j s (by omega) hjs)
    have hrt:=hid (alikeRat_any xs[k].val a' b' c' d' wr)
    clear hs hcs hxk
    generalize xs[k]=sd at *
    obtain ⟨op,nm,⟨ng,nu,de⟩,args,raw⟩:=sd
    dsimp only at *
    by_cases h1:nm.size≤100
    case neg=>
     have h1i:(100:Int)<nm.size:=by omega
     go_wp2
     go_ret
     exact⟨false,rfl,fun h=>(by cases h),hB.out⟩
    have h1i:¬(100:Int)<nm.size:=by omega
    have h1d:decide ((100:Int)<nm.size)=false:=decide_eq_false h1i
    by_cases h2:args.length≤66
    case neg=>
     have h2i:(66:Int)<args.length:=by omega
     go_wp2
     go_ret
     exact⟨false,rfl,fun h=>(by cases h),hB.out⟩
    have h2i:¬(66:Int)<args.length:=by omega
    have h2d:decide ((66:Int)<args.length)=false:=decide_eq_false h2i
    cases h3:(decide (nu.length≤8) && decide (de.length≤8))
    case false=>
     rw [h3] at hrt
     go_wp2_with fail
     refine hrt.out.mono ?_;rintro e w2 ⟨rfl,hb2⟩
     have B2:=hid (hB.out.trans (hb2.mono hB.out.size))
     clear hb2
     go_wp2
     go_ret
     exact⟨false,rfl,fun h=>(by cases h),B2.out⟩
    case true=>
     rw [h3] at hrt
     have hv:=hid (hnx.out ⟨h1,h2,by simp at h3;exact h3.1,by simp at h3;exact h3.2⟩)
     clear hnx h3
     go_wp2_with fail
     refine hrt.out.mono ?_;rintro e w2 ⟨rfl,hb2⟩
     have B2:=hid (hB.out.trans (hb2.mono hB.out.size))
     clear hb2
     go_wp2
     go_roundw
     case rel=>exact⟨k+1,by omega,by omega,rfl,by go_num,hv.out,B2.out⟩
     case measure=>first | (simp [intOf];done) | (simp [intOf];omega)
def Tabs2 (w:World) (e:Ending) (w':World):Prop:=∃p r q,e = .returned (.tuple #[.pointer (some ⟨p,0,none⟩),.pointer (some ⟨r,0,none⟩)])∧Two w p r q (emptyT (T7 10)) w'
theorem tables17b_any (w:World) (hE:Env w):Calls Tryz.prog 24 #[] w fun e w'=>Tabs2 w e w':=by
 have hE':=hid hE
 have pos0:=hE.pos
 have htn:=hid (tnew_any w)
 clear hE
 go_enter Tryz.func24,Tryz.ntmps24
 go_wp2_with fail
 refine htn.out.mono ?_;rintro e w1 ⟨p,rfl,t1,b1⟩
 have I0:=hid (show Duo w p w1.heap.size ⟨[],[],[]⟩ (w1.alloc (.cells #[.slice none 0 0,.slice none 0 0,.slice none 0 0] 107)) from by
  have hB1:Below w1.heap.size w1 (w1.alloc (.cells #[.slice none 0 0,.slice none 0 0,.slice none 0 0] 107)):=(Below.refl _ _).alloc (Nat.le_refl _) _
  have hbq:=heap_alloc_new w1 (.cells #[.slice none 0 0,.slice none 0 0,.slice none 0 0] 107)
  refine⟨t1.all hB1,⟨b1.size,fun _ h=>h.elim,_,_,_,hbq,OwnR.nil _ _ _ _ _,OwnR.nil _ _ _ _ _,OwnR.nil _ _ _ _ _⟩,fun j hj=>?_,b1.trans (hB1.mono b1.size),hE'.out.all (b1.trans (hB1.mono b1.size))⟩
  have hjq:j=w1.heap.size:=by
   rcases (own3 hbq).1 hj with h | h | h | h
   ·exact h
   ·simp [Value.ownBlock] at h
   ·simp [Value.ownBlock] at h
   ·simp [Value.ownBlock] at h
  subst hjq
  refine⟨by simp,fun e=>?_⟩
  have:=(t1.ownB ((ownOf.same (hB1.block p t1.plt)).1 e)).2
  omega)
 clear t1 b1 htn
 go_wp2_with fail
 generalize (w1.alloc (.cells #[.slice none 0 0,.slice none 0 0,.slice none 0 0] 107))=w2 at *
 generalize w1.heap.size=q at *
 have hsp:=hid (sort_any w.heap.size p ⟨[],[],[]⟩ sU w2 I0.out.t I0.out.e (by decide))
 refine hsp.out.mono ?_;rintro e w3 h3
 obtain ⟨rfl,t3,s3⟩:=h3.yes bad7
 obtain ⟨r3,ap3,b3,e3⟩:=I0.out.step pos0 s3
 have J3:=hid (And.intro t3 (And.intro ap3 (And.intro b3 e3)))
 have R3:=hid r3
 have hrs:=hid (rsort_any w.heap.size q ⟨[],[],[]⟩ sU w3 r3 (by decide))
 clear h3 t3 s3 r3 ap3 b3 e3 hsp
 go_wp2_with fail
 refine hrs.out.mono ?_;rintro e w4 h4
 have h4y:e = .returned (.tuple #[.int .i64 2,.int .i64 0])∧RefX (fun _=>False) w.heap.size q (T7 0) w4∧PStep q w3 w4:=by
  unfold RSortPost at h4
  rw [if_neg (by rw [bad7];decide)] at h4
  exact⟨h4.1.1,h4.1.2,h4.2⟩
 obtain ⟨rfl,r4,s4⟩:=h4y
 have I4:=hid (Duo.step2 (T':=T7 0) pos0 J3.out.1 R3.out J3.out.2.1 J3.out.2.2.1 J3.out.2.2.2 r4 s4)
 have hdc:=hid (declared17_any w4)
 clear h4 r4 s4 J3 R3 hrs
 go_wp2_with fail
 refine hdc.out.mono ?_;rintro e w5 ⟨rfl,hl5,b5,z5⟩
 have I5:=hid (I4.out.all b5)
 have F5:=hid (show FreeS (fun k=>w4.heap.size≤k∧k<w5.heap.size) p q w5 from fun k hk=>⟨hk.2,fun e=>by
  have:=(I4.out.t.ownB ((ownOf.same (b5.block p I4.out.t.plt)).1 e)).2
  omega,fun e=>by
  have:=(I4.out.r.ownB ((ownOf.same (b5.block q I4.out.r.plt)).1 e)).2
  omega⟩)
 have L5:=hid (show SlR repF (fun k=>w4.heap.size≤k∧k<w5.heap.size) w5 (some ⟨w4.heap.size+3,0,none⟩) 10 declL from hl5.mono fun b hb hk=>⟨hk,hb⟩)
 clear hl5 b5 z5 hdc I0 I4
 go_wp2
 generalize w4.heap.size+3=g at *
 generalize hSS:(fun k=>w4.heap.size≤k∧k<w5.heap.size)=SS at *
 clear hSS
 go_loopw [5] (fun i wr=>∃k:Nat,k≤10∧i = .int .i64 k∧Hid (Duo w p q (T7 k) wr)∧Hid (FreeS SS p q wr)∧Hid (SlR repF SS wr (some ⟨g,0,none⟩) 10 declL)) (fun i _=>10 - (intOf i).toNat)
 case atStart=>exact⟨0,by omega,rfl,I5.out,F5.out,L5.out⟩
 case round=>
  obtain ⟨k,hk,rfl,hI,hF,hL⟩:=hrel
  by_cases hlt:k<10
  ·have hf:declL[k]? = some (declL[k]'(by show k<10;omega)):=List.getElem?_eq_getElem _
   generalize (declL[k]'(by show k<10;omega))=f at *
   obtain ⟨b,o,a',c',hgo,k0,k1,k2,ra,or,nc,_⟩:=hL.out.funAt hf
   cases hgo
   simp only [Nat.zero_add] at k0 k1 k2
   have hfa:f.args.length≤2:=by
    have:f∈declL:=List.mem_of_getElem? hf
    simp [declL] at this
    rcases this with rfl | rfl | rfl | rfl | rfl | rfl | rfl | rfl | rfl | rfl <;> decide
   obtain ⟨he,hadd⟩:=add7 hlt f hf
   have hki:(k:Int)<10:=by omega
   have hfn:=hid (fun_any w.heap.size p (T7 k) f a' c' wr hI.out.t (small7 k) hI.out.e ra.toI (by omega))
   have hadd':=hid hadd
   have he':=hid he
   have hf':=hid hf
   clear hf he hadd or
   go_wp2_with fail
   refine hfn.out.mono ?_;rintro e w6 ⟨rfl,t6,s6⟩
   rw [hadd'.out] at t6
   obtain ⟨r6,ap6,b6,e6⟩:=hI.out.step pos0 s6
   have hq6:=(s6.block q (hI.out.ap q (.inl rfl)).1 (hI.out.ap q (.inl rfl)).2).1
   obtain ⟨F6,K6⟩:=hF.out.stepP s6 hq6
   have L6:=hL.out.keep (fun b _ hb=>K6 b hb) s6.size
   obtain ⟨b',o',a6,c6,hgo,q0,q1,q2,ra6,_,nc6,_⟩:=L6.funAt hf'.out
   cases hgo
   simp only [Nat.zero_add] at q0 q1 q2
   have J6:=hid (And.intro t6 (And.intro ap6 (And.intro b6 e6)))
   have R6:=hid r6
   have F6':=hid F6
   have L6':=hid L6
   have hrf:=hid (rfun_any w.heap.size q (T7 k) f a6 c6 w6 r6 (small7 k) ra6.toI (by omega) nc6)
   clear t6 s6 r6 ap6 b6 e6 hq6 F6 K6 L6 hfn k0 k1 k2 ra
   go_wp2_with fail
   refine hrf.out.mono ?_;rintro e w7 ⟨rfl,r7,s7⟩
   rw [hadd'.out] at r7
   have I7:=hid (Duo.step2 (T':=T7 (k+1)) pos0 J6.out.1 R6.out J6.out.2.1 J6.out.2.2.1 J6.out.2.2.2 r7 s7)
   have hap:=J6.out.2.1.symm fun j hj=>(J6.out.1.ownB hj).2
   have hp7:=(s7.block p (hap p (.inl rfl)).1 (hap p (.inl rfl)).2).1
   obtain ⟨F7,K7⟩:=F6'.out.stepQ s7 hp7
   have F7':=hid F7
   have L7:=hid (L6'.out.keep (fun b _ hb=>K7 b hb) s7.size)
   clear r7 s7 hap hp7 F7 K7
   go_wp2
   go_roundw
   case rel=>exact⟨k+1,by omega,by go_num,I7.out,F7'.out,L7.out⟩
   case measure=>simp [intOf];omega
  ·have hk10:k=10:=by omega
   subst hk10
   have hnw:=hid (new_any w.heap.size p (T7 10) wr hI.out.t)
   go_wp2_with fail
   refine hnw.out.mono ?_;rintro e w8 ⟨rfl,hT8,b8⟩
   have T8:=hid hT8
   have R8:=hid (hI.out.r.all b8)
   have B8:=hid (hI.out.b.trans (b8.mono hI.out.b.size))
   have hsz:=hI.out.b.size
   clear hT8 b8
   go_wp2
   go_ret2
   have hBA:Below w8.heap.size w8 (w8.alloc (.cells #[.pointer (some ⟨q,0,none⟩),.slice none 0 0,.int .i64 0] 51)):=(Below.refl _ _).alloc (Nat.le_refl _) _
   have hBr:=heap_alloc_new w8 (.cells #[.pointer (some ⟨q,0,none⟩),.slice none 0 0,.int .i64 0] 51)
   have B9:=B8.out.trans (hBA.mono B8.out.size)
   refine⟨_,_,q,rfl,⟨⟨(T8.out.lower hsz).all hBA,B9⟩,⟨B8.out.size,⟨_,hBr,OwnR.nil _ _ _ _ _⟩,(R8.out.all hBA)⟩,fun k hk=>?_,fun k hk=>hk.elim⟩⟩
   obtain ⟨u,v,x,t,f,e,hv⟩:=hk
   rw [hBr] at e
   cases e
   simp [Value.ownBlock] at hv
end Go.Proofs.YtgoojkiccdjplaaGreatDoor
