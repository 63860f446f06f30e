/-
  Parts of this claim's texts, one behind the other: GB CI FO FS FT FQ FV JB CF CG CH CJ CM CN UN OP. No condition.
-/
import Derived.Test.YtgoojkiccdjplaaGreatDoorQ6
import Derived.Test.YtgoojkiccdjplaaGreatDoorQ4
import Derived.Test.YtgoojkiccdjplaaGreatDoorQ5
import Derived.Test.YtgoojkiccdjplaaGreatDoorQ2
import Derived.Test.YtgoojkiccdjplaaGreatDoorQ1
import Derived.Deep.Slices
import Derived.OpenShut
set_option linter.unusedVariables false
set_option linter.unusedSimpArgs false
set_option maxRecDepth 100000
set_option maxHeartbeats 16000000
namespace Go.Proofs.YtgoojkiccdjplaaGreatDoor
open Go.RowKit Go.Sort Go.Lib Go.Proofs.Tryz
structure iM (r:cJ):Prop where
 ok:fN r=true
 un:bY r.num
 ud:bY r.den
theorem iM.is {r:cJ} (h:iM r):IsR r (aJ r.num) (aJ r.den):=lP h.un h.ud h.ok
theorem aEj {r:cJ} {n d:Nat} (h:IsR r n d):iM r:=⟨h.valid,by rw [h.num];exact eO _,by rw [h.den];exact eO _⟩
theorem vG (neg:Bool) (n:Nat) {d:Nat} (hd:0<d):((fJ neg n d).2=0/\iM (fJ neg n d).1/\((fJ neg n d).1.num.length=0↔n=0))\/(fJ neg n d).2=4:=by
 unfold fJ;cases i:aL9 (wP neg n d) with
 | true=>exact .inr rfl
 |
  false=>
  refine .inl ⟨rfl,aEj (aOg hd i),?_⟩;show(limbs (n / Nat.gcd n d)).length=0↔n=0;rw [jH];constructor
  ·intro h;have:=Nat.div_mul_cancel (Nat.gcd_dvd_left n d);rw [h,nW] at this;exact this.symm
  ·rintro rfl;exact Nat.zero_div _
theorem aKu {a b:cJ} (i:iM a) (j:iM b):((rL a b).2=0/\iM (rL a b).1)\/(rL a b).2=4:=by
 unfold rL;rw [i.ok,j.ok];simp only [Bool.and_self,if_true];exact(vG _ _ (qW i.is.pos j.is.pos)).imp (fun h=>⟨h.1,h.2.1⟩) id
theorem aKv {a:cJ} (i:iM a):iM (oG a)/\(oG a).num=a.num:=by
 unfold oG;rw [i.ok,if_pos rfl];have h:=i.is;refine⟨aEj (n:=aJ a.num) (d:=aJ a.den) ⟨h.num,h.den,h.nl,h.dl,h.pos,h.co,fun e=>?_⟩,rfl⟩;have j:0<a.num.length:=by simpa using (by simpa using e:_/\_).2
 rw [h.num] at j;exact bK.1 j
theorem aTg {a b:cJ} (i:iM a) (h:iM b):((wQ a b).2=0/\iM (wQ a b).1)\/(wQ a b).2=4:=by
 unfold wQ;rw [h.ok,if_pos rfl];exact aKu i (aKv h).1
theorem aTh {a b:cJ} (i:iM a) (j:iM b):((uH a b).2=0/\iM (uH a b).1)\/(uH a b).2=4:=by
 unfold uH;rw [i.ok,j.ok];simp only [Bool.and_self,if_true];exact(vG _ _ (qW i.is.pos j.is.pos)).imp (fun h=>⟨h.1,h.2.1⟩) id
theorem iM.zero {a:cJ} (h:iM a):a.num.length=0↔aJ a.num=0:=by
 have:=jH (n:=aJ a.num)
 rwa [<-h.is.num] at this
theorem aTi {a b:cJ} (i:iM a) (j:iM b) (k:b.num.length≠0):((rM a b).2=0/\iM (rM a b).1/\((rM a b).1.num.length=0↔a.num.length=0))\/(rM a b).2=4:=by
 unfold rM;rw [i.ok,j.ok,aR k];simp only [Bool.not_false,Bool.and_self,if_true];have l:0<aJ b.num:=Nat.pos_of_ne_zero fun e=>k (j.zero.2 e)
 refine(vG (a.neg != b.neg) (aJ a.num * aJ b.den) (qW i.is.pos l)).imp (fun h=>⟨h.1,h.2.1,h.2.2.trans ?_⟩) id;rw [i.zero,Nat.mul_eq_zero];exact⟨fun h=>h.elim id fun e=>absurd e (Nat.ne_of_gt j.is.pos),.inl⟩
structure Typed (s:Int) (v:bS):Prop where
 so:v.sort=s
 num:s=1->iM v.num
theorem aKw (b:Bool):Typed 0 (fW b):=⟨rfl,fun h=>by cases h⟩
theorem aEk {op:Int} (j:op=13\/op=14\/op=15):∀(l:List bS) {a:cJ},iM a->(∀v∈l,iM v.num)->((gI op a l).2=0/\iM (gI op a l).1)\/(gI op a l).2=4
 | [],a,ha,_=>.inl ⟨rfl,ha⟩
 |
  v :: l,a,ha,hl=>by
  have h:=hl v (by simp);have n:((tX op a v.num).2=0/\iM (tX op a v.num).1)\/(tX op a v.num).2=4:=by
   unfold tX;rcases j with rfl | rfl | rfl
   ·rw [if_pos rfl];exact aKu ha h
   ·rw [if_neg (by decide),if_pos rfl];exact aTg ha h
   ·rw [if_neg (by decide),if_neg (by decide),if_pos rfl];exact aTh ha h
  unfold gI;rcases n with ⟨k,m⟩ | i
  ·rw [if_pos k];exact aEk j l m fun v h=>hl v (by simp [h])
  ·rw [if_neg (by rw [i];decide)];exact .inr i
theorem aGb:∀(l:List bS) {a:cJ},iM a->(∀v∈l,iM v.num/\v.num.num.length≠0)->((gI 16 a l).2=0/\iM (gI 16 a l).1/\((gI 16 a l).1.num.length=0↔a.num.length=0))\/(gI 16 a l).2=4
 | [],a,ha,_=>.inl ⟨rfl,ha,Iff.rfl⟩
 |
  v :: l,a,ha,hl=>by
  obtain ⟨h,m⟩:=hl v (by simp);have n:((tX 16 a v.num).2=0/\iM (tX 16 a v.num).1/\((tX 16 a v.num).1.num.length=0↔a.num.length=0))\/(tX 16 a v.num).2=4:=by
   unfold tX;rw [if_neg (by decide),if_neg (by decide),if_neg (by decide),if_pos rfl];exact aTi ha h m
  unfold gI;rcases n with ⟨j,k,o⟩ | i
  ·rw [if_pos j];rcases aGb l k fun v h=>hl v (by simp [h]) with ⟨s,x,y⟩ | q
   ·exact .inl ⟨s,x,y.trans o⟩
   ·exact .inr q
  ·rw [if_neg (by rw [i];decide)];exact .inr i
structure aEl (s:Int) (t:TbD):Prop where
 els:Typed s t.els
 rows:∀r∈t.rows,Typed s r.val
theorem aEl.apply {s:Int} {t:TbD} (h:aEl s t) (l:List bS):Typed s (jE t l):=by
 unfold jE
 split
 ·rename_i r i
  exact h.rows r (mK i)
 ·exact h.els
def aEm (m:gL) (T:aC) (i:Int):Prop:=∀x,Reach T i x->(nodeAt T x).op=12->∃t,jB m (nodeAt T x).name=some t/\aEl (nodeAt T x).sort t
theorem aEm.arg {m:gL} {T:aC} {i a:Int} (h:aEm m T i) (j:a∈(nodeAt T i).args):aEm m T a:=fun x l k=>h x (.arg j l) k
def aTj (T:aC):Prop:=∀x∈T.nodes,bY x.val.num/\bY x.val.den
theorem aC4 {T:aC} {l:List Int} {s:Int} (h:eM T l s=true):∀a∈l,(nodeAt T a).sort=s:=by
 unfold eM at h;simp only [tA,oT] at h;intro a i
 simpa using h a i
theorem yG {g:Int->bS} {l:List Int} {k:Nat} (h:k<l.length):bI (l.map g) k=g (nth l k):=by
 unfold bI;rw [iW,mZ,cK h,cE h];rfl
theorem yH {T:aC} {op:Int} {args:List Int} (h:bP T op args=true):jW op<=(args.length:Int)/\eM T args 1=true/\(op=15->lH T args=true)/\(op=16->fD T args=true):=by
 unfold bP at h
 split at h
 ·cases h
 ·split at h
  ·refine⟨by omega,by assumption,fun e=>?_,fun e=>?_⟩
   ·rw [if_pos e] at h;exact h
   ·rw [if_neg (by omega),if_pos e] at h;exact h
  ·cases h
theorem aVk {T:aC} {args:List Int} (h:fD T args=true):∀a∈args.drop 1,(numAt T a).1=true/\(numAt T a).2=false:=by
 unfold fD at h;simp only [tA,oT] at h;intro a i;have:=h a i;unfold jG at this
 simpa using this
theorem aEn {m:gL} {x:aZ} {l:List bS} (h:x.op=1\/x.op=2\/x.op=3\/x.op=4\/x.op=5\/x.op=6\/x.op=7\/x.op=8\/x.op=9\/x.op=17\/x.op=18\/x.op=19\/x.op=20):∃b,bN m x l=(fW b,0):=by
 unfold bN;rcases h with h | h | h | h | h | h | h | h | h | h | h | h | h <;> rw [h] <;> exact⟨_,rfl⟩
theorem aEo {m:gL} {x:aZ} {l:List bS} (h:x.op=13\/x.op=14\/x.op=15\/x.op=16):bN m x l=(⟨1,false,(pC x.op l).1,0⟩,(pC x.op l).2):=by
 unfold bN;rcases h with h | h | h | h <;> rw [h] <;> rfl
theorem yI {T:aC} {x:aZ} (h:x.op≠11/\x.op≠14/\x.op≠16):(dJ T x).1=false:=by
 unfold dJ;rw [if_neg h.1,if_neg (by omega)]
theorem aIc {T:aC} {op:Int} {nm:ByteArray} {args:List Int} {s:Int} (h:op=1\/op=2\/op=3\/op=4\/op=5\/op=6\/op=7\/op=8\/op=9\/op=17\/op=18\/op=19\/op=20) (i:aD T op nm args=(s,true)):s=0:=by
 have e:(aD T op nm args).1=0:=by
  unfold aD;rcases h with h | h | h | h | h | h | h | h | h | h | h | h | h <;> rw [h] <;> rfl
 rw [i] at e;exact e
theorem aId {T:aC} {op:Int} {nm:ByteArray} {args:List Int} {s:Int} (h:op=13\/op=14\/op=15\/op=16) (i:aD T op nm args=(s,true)):s=1/\bP T op args=true:=by
 have e:aD T op nm args=(1,bP T op args):=by
  unfold aD;rcases h with h | h | h | h <;> rw [h] <;> rfl
 rw [i] at e;injection e with e1 e2
 exact⟨e1,e2.symm⟩
theorem aEp {T:aC} {m:gL} {x:aZ} {g:Int->bS} (av:x.op≠12->aD T x.op x.name x.args=(x.sort,true)/\eN x.op x.args=false/\fR x.op x.name x.val=false) (ad:bY x.val.num/\bY x.val.den)
  (L:∀a∈x.args,Typed (nodeAt T a).sort (g a)) (K:∀a∈x.args,(numAt T a).1=true->((g a).num.num.length=0↔(numAt T a).2=true)) (am:x.op=12->∃t,jB m x.name=some t/\aEl x.sort t) :
  ((bN m x (x.args.map g)).2=0/\Typed x.sort (bN m x (x.args.map g)).1/\((dJ T x).1=true->((bN m x (x.args.map g)).1.num.num.length=0↔(dJ T x).2=true)))\/(bN m x (x.args.map g)).2=4:=by
 by_cases E:x.op=12
 ·obtain ⟨t,I,an⟩:=am E
  left
  have e:bN m x (x.args.map g)=(jE t (x.args.map g),0):=by
   rw [aOs E,I];rfl
  rw [e];exact⟨rfl,an.apply _,fun h=>by rw [yI (by rw [E];decide)] at h;cases h⟩
 obtain ⟨G,V,j⟩:=av E;have a2:1<=x.op/\x.op<=20:=by unfold eN at V;simp at V;omega
 by_cases I:x.op=1\/x.op=2\/x.op=3\/x.op=4\/x.op=5\/x.op=6\/x.op=7\/x.op=8\/x.op=9\/x.op=17\/x.op=18\/x.op=19\/x.op=20
 ·obtain ⟨b,e⟩:=aEn (m:=m) (l:=x.args.map g) I
  left
  rw [e,aIc I G];exact⟨rfl,aKw b,fun h=>by rw [yI (by omega)] at h;cases h⟩
 by_cases Y:x.op=13\/x.op=14\/x.op=15\/x.op=16
 ·obtain ⟨n,ap⟩:=aId Y G;obtain ⟨af,ay,_,az⟩:=yH ap;rw [aEo Y,n];have al:=aC4 ay;have F:∀a∈x.args,iM (g a).num:=fun a i=>(L a i).num (al a i)
  have ab:0<x.args.length:=by unfold jW at af;split at af <;> omega
  have s:nth x.args 0∈x.args:=cB ab;have hd:(x.args.map g).drop 1=(x.args.drop 1).map g:=by rw [List.map_drop]
  have Z:∀v∈(x.args.map g).drop 1,iM v.num:=fun v j=>by
   rw [hd] at j;obtain ⟨a,i,rfl⟩:=qA.1 j;exact F a (pV i)
  have aw:bI (x.args.map g) 0=g (nth x.args 0):=yG ab;dsimp only;unfold pC;rw [lB,aw];by_cases z:x.op=14/\x.args.length=1
  ·rw [if_pos z]
   left
   obtain ⟨A,C⟩:=aKv (F _ s);refine⟨rfl,⟨rfl,fun _=>A⟩,fun h=>?_⟩;show((oG (g (nth x.args 0)).num).num.length=0↔_);rw [C];unfold dJ at h ⊢;rw [if_neg (by omega),if_pos (.inl z.1)] at h ⊢
   split at h
   ·rename_i R
    rw [if_pos (.inr z.2)] at h;rw [if_pos R,if_pos (.inr z.2)];exact K _ s h
   ·cases h
  ·rw [if_neg z];by_cases y:x.op=16
   ·rw [y];have ar:∀v∈(x.args.map g).drop 1,iM v.num/\v.num.num.length≠0:=fun v j=>by
     refine⟨Z v j,?_⟩;rw [hd] at j;obtain ⟨a,i,rfl⟩:=qA.1 j;obtain ⟨ai,aj⟩:=aVk (az y) a i;intro e;have:=(K a (pV i) ai).1 e;rw [aj] at this;cases this
    rcases aGb ((x.args.map g).drop 1) (F _ s) ar with ⟨A,C,a0⟩ | q
    ·refine .inl ⟨A,⟨rfl,fun _=>C⟩,fun h=>?_⟩;rw [a0];unfold dJ at h ⊢;rw [if_neg (by omega),if_pos (.inr y)] at h ⊢
     split at h
     ·rename_i R
      rw [if_pos (.inl y)] at h;rw [if_pos R,if_pos (.inl y)];exact K _ s h
     ·cases h
    ·exact .inr q
   ·rcases aEk (op:=x.op) (by omega) ((x.args.map g).drop 1) (F _ s) Z with ⟨A,C⟩ | q
    ·refine .inl ⟨A,⟨rfl,fun _=>C⟩,fun h=>?_⟩
     exfalso
     unfold dJ at h;rw [if_neg (by omega)] at h;by_cases ak:x.op=14
     ·rw [if_pos (.inl ak)] at h
      split at h
      ·rw [if_neg (by omega)] at h;cases h
      ·cases h
     ·rw [if_neg (by omega)] at h;cases h
    ·exact .inr q
 have au:x.op=10\/x.op=11:=by omega
 rcases au with U | D
 ·left
  have e:bN m x (x.args.map g)=(if (bI (x.args.map g) 0).bool then bI (x.args.map g) 1 else bI (x.args.map g) 2,0):=by
   unfold bN;rw [U];rfl
  have H:xM T x.args=(x.sort,true):=by rw [<-G];unfold aD;rw [U];rfl
  unfold xM at H
  split at H
  ·rename_i aa
   injection H with n _
   have Q:=aa.1;have J:=aa.2.2;unfold jV at J;simp only [jS,lA] at J;have i:=aC4 J.2;have ag:(bI (x.args.map g) 1)=g (nth x.args 1):=yG (by omega);have ah:(bI (x.args.map g) 2)=g (nth x.args 2):=yG (by omega);have m1:nth x.args 1∈x.args:=cB (by omega);have m2:nth x.args 2∈x.args:=cB (by omega);obtain ⟨o,k,O⟩:∃o k,x.args=o :: k:=by
    cases ax:x.args with
    | nil=>rw [ax] at Q;cases Q
    | cons a l=>exact⟨a,l,rfl⟩
   have aq:nth (x.args.drop 1) 0=nth x.args 1:=by rw [O];rfl
   rw [aq] at i;have a1:(nodeAt T (nth x.args 2)).sort=x.sort:=by
    rw [<-n];have ao:(o :: k).length=3:=by rw [<-O];exact Q
    have ae:nth (o :: k) 2∈(o :: k).drop 1:=by
     show nth k 1∈k;exact cB (by simp at ao;omega)
    rw [<-O] at ae;exact i _ ae
   rw [e,ag,ah];refine⟨rfl,?_,fun h=>by rw [yI (by omega)] at h;cases h⟩;dsimp only
   split
   ·rw [<-n];exact L _ m1
   ·rw [<-a1];exact L _ m2
  ·injection H with _ h;cases h
 ·left
  have e:bN m x (x.args.map g)=(⟨1,false,x.val,0⟩,0):=by unfold bN;rw [D];rfl
  have n:x.sort=1:=by
   have:(aD T x.op x.name x.args).1=1:=by unfold aD;rw [D];rfl
   rw [G] at this;exact this
  rw [e,n];refine⟨rfl,⟨rfl,fun _=>⟨?_,ad.1,ad.2⟩⟩,fun _=>?_⟩
  ·unfold fR at j;rw [D] at j;exact(by simpa using j:x.name=ByteArray.empty/\iR x.val=true).2
  ·unfold dJ;rw [if_pos D];simp
theorem Reach.trans {T:aC} {i x y:Int} (h:Reach T i x) (k:Reach T x y):Reach T i y:=by
 induction h with
 | refl _=>exact k
 | arg ha _ ih=>exact .arg ha (ih k)
theorem aOy {T:aC} (m:wU T) {i:Int} (l:dH T i=true):(nodeAt T i).op≠12->aD T (nodeAt T i).op (nodeAt T i).name (nodeAt T i).args=((nodeAt T i).sort,true)/\eN (nodeAt T i).op (nodeAt T i).args=false/\fR (nodeAt T i).op (nodeAt T i).name (nodeAt T i).val=false:=fun h=>by
 obtain ⟨j,n⟩:=cX.1 l;obtain ⟨k,rfl⟩:=fK j;exact m.so _ (fP (cR (by omega))) (.inr h)
theorem aW4 {T:aC} (m:wU T):ArT T:=fun x n=>by
 by_cases l:x.op=12
 ·exact⟨by omega,by omega⟩
 ·obtain ⟨k,i,_⟩:=m.so x n (.inr l);have s:1<=x.op/\x.op<=20:=by unfold eN at i;simp at i;omega
  have h:(aD T x.op x.name x.args).2=true:=by rw [k]
  unfold aD at h;unfold aD1
  repeat' split at h
  all_goals (try simp only [jS,lA] at h)
  all_goals first
   | exact⟨by omega,by omega⟩
   | (unfold jV at h;simp only [jS,lA] at h;exact⟨by omega,by omega⟩)
   | (
    unfold xM at h;split at h
    ·rename_i o;exact⟨by omega,fun _=>by omega⟩
    ·cases h)
   | (have j:=(yH h).1;unfold jW at j;split at j <;> exact⟨by omega,by omega⟩)
theorem aAh {T:aC} {m:gL} (l:pR T) (y:wU T) (o:aTj T):∀(f:Nat) (i:Int),i<(f:Int)->dH T i=true->aEm m T i->∀v,ev m T i=some v->Typed (nodeAt T i).sort v/\((numAt T i).1=true->(v.num.num.length=0↔(numAt T i).2=true))
 | 0,i,hf,hi,_,_,_=>by have:=cX.1 hi;omega
 |
  f+1,i,hf,hi,hfit,v,hv=>by
  obtain ⟨C,I⟩:=cX.1 hi;have s:=l.ok.ord;obtain ⟨G,F⟩:=aH6 s hi hv;have x:∀a∈(nodeAt T i).args,Typed (nodeAt T a).sort ((ev m T a).getD eZ)/\((numAt T a).1=true->(((ev m T a).getD eZ).num.num.length=0↔(numAt T a).2=true)):=fun a j=>by
   have J:=pD s j;cases z:ev m T a with
   | none=>exact absurd z (G a j)
   | some u=>exact aAh l y o f a (by omega) (cX.2 (by omega)) (hfit.arg j) u z
  obtain ⟨k,rfl⟩:=fK C;have A:=cR (T:=T) (k:=k) (by omega);have H:=l.nu.nums k _ A;have:=aEp (m:=m) (g:=fun a=>(ev m T a).getD eZ) (aOy y hi) (o _ (fP A)) (fun a j=>(x a j).1) (fun a j=>(x a j).2) (fun h=>hfit _ (.refl _) h);rw [F] at this;rcases this with ⟨_,D,n⟩ | E
  ·rw [<-H] at n;exact⟨D,n⟩
  ·cases E
theorem aKx {T:aC} {m:gL} (A:pR T) (z:wU T) (s:aTj T) {i:Int} (E:dH T i=true) (G:aEm m T i):(∃v,ev m T i=some v/\mG m T i=(v,0)/\Typed (nodeAt T i).sort v)\/(ev m T i=none/\mG m T i=(eZ,4)):=by
 have n:=A.ok.ord;rcases aBr (m:=m) n E with ⟨v,l,C⟩ | ⟨l,C,J,x,Q,H,F,K⟩
 ·exact .inl ⟨v,l,C,(aAh A z s (i.toNat+1) i (by omega) E G v l).1⟩
 ·have I:=aBa n E H;have O:=cX.1 I;have D:aEm m T x:=fun y hy n=>G y (H.trans hy) n
  have L:=aEc F;have:=aEp (m:=m) (g:=fun a=>(ev m T a).getD eZ) (aOy z I) (by
   obtain ⟨k,rfl⟩:=fK O.1;exact s _ (fP (cR (by omega)))) (fun a j=>by
   obtain ⟨v,o⟩:=wM F a j;rw [o];have l:=pD n j;exact(aAh A z s (a.toNat+1) a (by omega) (cX.2 (by omega)) (D.arg j) v o).1) (fun a j=>by
   obtain ⟨v,o⟩:=wM F a j;rw [o];have l:=pD n j;exact(aAh A z s (a.toNat+1) a (by omega) (cX.2 (by omega)) (D.arg j) v o).2) (fun h=>D _ (.refl _) h)
  rw [<-L,K] at this;refine .inr ⟨l,qX C ?_⟩;rcases this with ⟨h,_⟩ | h
  ·exact absurd h J
  ·exact h
theorem aIe (D:Bool) (i h:List Int) (x y:Nat) (a b:Option Addr) (c d:Nat) (w:World) (A:i=limbs x) (z:h=limbs y) (L:bT cH.u64 (fun _=>True) w a i.length i) (O:bT cH.u64 (fun _=>True) w b h.length h) (ah:iB i=true) (ai:iB h=true) (an:i.length<=64) (am:h.length<=64)
  (Q:i.length<=c/\c<=maxLen) (hd:h.length<=d/\d<=maxLen) (ak:0<h.length) (U:D=true->0<i.length) :
  Calls prog 116 #[fA ⟨D,i,h⟩ a c b d] w fun e w'=>e = .returned (.bool (Nat.gcd x y == 1))/\Below w.heap.size w w':=by
 have m:Below w.heap.size w (w.alloc (.cells #[.bool D,.slice a i.length c,.slice b h.length d] 36)):=bJ;have af:=cC w (.cells #[.bool D,.slice a i.length c,.slice b h.length d] 36);have F:=Z m;have V:=Z (mH a i.length c i _ (L.below m aA) (by omega));have Y:=Z (mH b h.length d h _ (O.below m aA) (by omega));rw [ah] at V;rw [ai] at Y;have ad:rR x w (.slice a i.length c):=⟨a,c,by rw [<-A],by rw [<-A];exact L,by rw [<-A];exact Q.1,Q.2,by rw [<-A];omega⟩;have ae:rR y w (.slice b h.length d):=⟨b,d,by rw [<-z],by rw [<-z];exact O,by rw [<-z];exact hd.1,hd.2,by rw [<-z];omega⟩;have G:=Z (aKl (.slice a i.length c) (.slice b h.length d) x y _ (ad.all m) (ae.all m));have ag:=Z (zX (g:=Nat.gcd x y));have al:(0:Int)<h.length:=by omega
 obtain ⟨aq,ar,au⟩:=eH af;clear m af L O ah ai A z ad ae Q hd;cases D
 case false=>
  clear U;go_enter func116,ntmps116
  go_wp2_with fail
  generalize w.alloc (.cells #[.bool false,.slice a i.length c,.slice b h.length d] 36)=w0 at *;refine V.o.mono ?_;rintro e w' ⟨rfl,rfl⟩
  go_wp2_with fail
  refine Y.o.mono ?_;rintro e w' ⟨rfl,rfl⟩
  go_wp2_with fail
  refine G.o.mono ?_;rintro e j ⟨aj,rfl,s,v⟩;have K:=Z s;have H:=Z (F.o.trans (v.mono F.o.size));clear s v G
  go_wp2_with fail
  refine(aKm j).mono ?_;rintro e E ⟨rfl,l⟩;have k:Below j.heap.size j E:=by rw [l];exact bJ
  have n:rR 1 E (.slice (some ⟨j.heap.size,0,none⟩) 1 1):=⟨some ⟨j.heap.size,0,none⟩,1,by rw [gP];rfl,by rw [gP,l];exact zO j,by rw [gP];exact aA,by unfold maxLen;omega,by rw [gP];decide⟩;have R:=Z (aH7 (K.o.all k) n);have I:=Z (aG H k);clear l k n
  go_wp2_with fail
  refine R.o.mono ?_;rintro e ab ⟨rfl,aa,C⟩;have J:=Z (show Below w.heap.size w ab from by rw [C];exact I.o.drewN aa);clear C;go_wp2;go_ret;exact⟨aI ag.o,J.o⟩
 case true=>
  have ao:=U rfl;have ap:(0:Int)<i.length:=by omega
  clear U;go_enter func116,ntmps116
  go_wp2_with fail
  generalize w.alloc (.cells #[.bool true,.slice a i.length c,.slice b h.length d] 36)=w0 at *;refine V.o.mono ?_;rintro e w' ⟨rfl,rfl⟩
  go_wp2_with fail
  refine Y.o.mono ?_;rintro e w' ⟨rfl,rfl⟩
  go_wp2_with fail
  refine G.o.mono ?_;rintro e j ⟨aj,rfl,s,v⟩;have K:=Z s;have H:=Z (F.o.trans (v.mono F.o.size));clear s v G
  go_wp2_with fail
  refine(aKm j).mono ?_;rintro e E ⟨rfl,l⟩;have k:Below j.heap.size j E:=by rw [l];exact bJ
  have n:rR 1 E (.slice (some ⟨j.heap.size,0,none⟩) 1 1):=⟨some ⟨j.heap.size,0,none⟩,1,by rw [gP];rfl,by rw [gP,l];exact zO j,by rw [gP];exact aA,by unfold maxLen;omega,by rw [gP];decide⟩;have R:=Z (aH7 (K.o.all k) n);have I:=Z (aG H k);clear l k n
  go_wp2_with fail
  refine R.o.mono ?_;rintro e ab ⟨rfl,aa,C⟩;have J:=Z (show Below w.heap.size w ab from by rw [C];exact I.o.drewN aa);clear C;go_wp2;go_ret;exact⟨aI ag.o,J.o⟩
theorem aNi {S:Nat->Prop} (r:cJ) (a b:Option Addr) (c d:Nat) (w:World) (x:bT cH.u64 S w a r.num.length r.num) (y:bT cH.u64 S w b r.den.length r.den) (G:r.num.length<=1000000) (F:r.den.length<=1000000) (C:r.num.length<=c/\c<=maxLen) (hd:r.den.length<=d/\d<=maxLen) :
  Calls prog 116 #[fA r a c b d] w fun e w'=>e = .returned (.bool (iR r))/\Below w.heap.size w w':=by
 have n:=@Z (iR r=(iB r.num && (iB r.den && (!decide (r.den.length=0) && (!(r.neg && decide (r.num.length=0)) && (Nat.gcd (aJ r.num) (aJ r.den) == 1)))))) rfl;obtain ⟨m,k,i⟩:=r;dsimp only at *;have z:Below w.heap.size w (w.alloc (.cells #[.bool m,.slice a k.length c,.slice b i.length d] 36)):=bJ;have D:=Z z;have v:=Z (mH a k.length c k _ (x.below z aA) (by omega));have A:=Z (mH b i.length d i _ (y.below z aA) (by omega));cases j:iB k
 case false=>
  have s:=@Z (false=iR ⟨m,k,i⟩) (by rw [n.o,j];rfl);rw [j] at v;clear j n A x y G F C hd z;go_enter func116,ntmps116
  go_wp2_with fail
  refine v.o.mono ?_;rintro e w' ⟨rfl,rfl⟩;go_wp2;go_ret;exact⟨aI s.o,D.o⟩
 cases l:iB i
 case false=>
  have s:=@Z (false=iR ⟨m,k,i⟩) (by rw [n.o,j,l];rfl);rw [j] at v;rw [l] at A;clear j l n x y G F C hd z;go_enter func116,ntmps116
  go_wp2_with fail
  refine v.o.mono ?_;rintro e w' ⟨rfl,rfl⟩
  go_wp2_with fail
  refine A.o.mono ?_;rintro e w' ⟨rfl,rfl⟩;go_wp2;go_ret;exact⟨aI s.o,D.o⟩
 by_cases E:i.length=0
 ·obtain rfl:i = []:=jR E;have s:=@Z (false=iR ⟨m,k,[]⟩) (by rw [n.o,j,l];rfl);rw [j] at v;rw [l] at A;clear j l n x y G F C hd z E;go_enter func116,ntmps116
  go_wp2_with fail
  refine v.o.mono ?_;rintro e w' ⟨rfl,rfl⟩
  go_wp2_with fail
  refine A.o.mono ?_;rintro e w' ⟨rfl,rfl⟩;go_wp2;go_ret;exact⟨aI s.o,D.o⟩
 by_cases H:m=true/\k.length=0
 ·obtain ⟨rfl,J⟩:=H;obtain rfl:k = []:=jR J;have s:=@Z (false=iR ⟨true,[],i⟩) (by rw [n.o,j,l];simp);rw [j] at v;rw [l] at A;have U:(0:Int)<i.length:=by omega
  have V:0<i.length:=by omega
  clear j l n x y G F C hd z E J;go_enter func116,ntmps116
  go_wp2_with fail
  refine v.o.mono ?_;rintro e w' ⟨rfl,rfl⟩
  go_wp2_with fail
  refine A.o.mono ?_;rintro e w' ⟨rfl,rfl⟩;go_wp2;go_ret;exact⟨aI s.o,D.o⟩
 obtain ⟨K,Q⟩:=mQ x.us j;obtain ⟨L,R⟩:=mQ y.us l;have I:m=true->0<k.length:=fun h=>Nat.pos_of_ne_zero fun e=>H ⟨h,e⟩
 have O:(m && decide (k.length=0))=false:=by
  cases m with
  | false=>rfl
  | true=>have:=I rfl;rw [aR (by omega)];rfl
 have s:iR ⟨m,k,i⟩=(Nat.gcd (aJ k) (aJ i) == 1):=by rw [n.o,j,l,O,aR E];rfl
 rw [s];exact aIe m k i (aJ k) (aJ i) a b c d w K L (x.mono fun _ _ _=>trivial) (y.mono fun _ _ _=>trivial) j l Q R C hd (by omega) I
section
variable {S S' : Nat -> Prop}
theorem oF (s:Bool) (a:Option Addr) (n c x:Nat) (w:World) (i:bT cH.u64 S w a n (limbs x)) (v:n<=64) (m:s=true->0<x):Calls prog 146 #[mX s a n c] w fun e w'=>e = .returned (.bool true)/\Below w.heap.size w w':=by
 have j:=i.1;have k:=qG (n:=x) (by omega);have h:=Z (mH a n c (limbs x) _ (i.below ((aO w.heap.size w).alloc aA (.cells #[.bool s,.slice a n c] 160)) aA) (by omega));rw [k] at h;have l:=Z (show s=true->0<n from fun h=>by rw [<-j];exact bK.2 (m h));clear i j k m;cases s
 case false=>
  go_enter func146,ntmps146
  go_wp2_with fail
  refine h.o.mono ?_;rintro e w' ⟨rfl,rfl⟩;go_wp2;go_ret;exact⟨rfl,bJ⟩
 case true=>
  have y:(0:Int)<n:=by have:=l.o rfl;omega
  go_enter func146,ntmps146
  go_wp2_with fail
  refine h.o.mono ?_;rintro e w' ⟨rfl,rfl⟩;go_wp2;go_ret;exact⟨aI (by first | rfl | (simp;have:=l.o trivial;omega)),bJ⟩
theorem aEq (s:Bool) (a:Option Addr) (n c:Nat) (w:World):Calls prog 148 #[.bool s,.slice a n c] w fun e w'=>e = .returned (mX (s && decide (0<n)) a n c)/\Below w.heap.size w w':=by
 cases s
 case false=>
  go_enter func148,ntmps148
  go_wp2;refine bodyPost_ret (v:=mX false a n c) (by simp [results,results148,go_sem, *]) rfl ?_;exact⟨rfl,bJ⟩
 case true=>
  by_cases h:0<n
  ·have i:(0:Int)<n:=by omega
   rw [bV h];go_enter func148,ntmps148
   go_wp2;refine bodyPost_ret (v:=mX true a n c) (by simp [results,results148,go_sem, *]) rfl ?_;exact⟨rfl,bJ⟩
  ·obtain rfl:n=0:=by omega
   go_enter func148,ntmps148
   go_wp2;refine bodyPost_ret (v:=mX false a 0 c) (by simp [results,results148,go_sem, *]) rfl ?_;exact⟨rfl,bJ⟩
end
def zOf (n:Int):ZD:=⟨decide (n<0),n.natAbs⟩
theorem aTk {n:Int} (h:eI n):(0<=n->IntKind.u64.wrap n=(n.natAbs:Nat))/\(n<0->IntKind.u64.wrap (-IntKind.u64.wrap n)=(n.natAbs:Nat)):=by
 unfold eI at h;constructor
 ·intro i;simp only [IntKind.wrap,IntKind.signed,IntKind.bits];simp;omega
 ·intro i;simp only [IntKind.wrap,IntKind.signed,IntKind.bits];simp;omega
theorem aTl (u:Nat) (h:u<aK):aJ [(u:Int)]=u:=by
 rcases gD u with rfl | i
 ·rfl
 ·have e:limbs u = [(u:Int)]:=by rw [iU i,lY h,nM h,dI]
  rw [<-e,aY]
theorem aGc (s:Bool) (z:Nat) (n:Int) (A:zOf n=⟨s && decide (0<z),z⟩) (w h l:World) (i:Option Addr) (c1:Nat) (C D:Value) (y:w.heap.size<h.heap.size) (m:Below w.heap.size w h) (x:h.heap[w.heap.size]? = some (.cells #[C,D] 160 (0,0)))
  (v:bT cH.u64 (fH w.heap.size h) h i (limbs z).length (limbs z)) (o:(limbs z).length<=c1/\c1<=maxLen) (j:Below h.heap.size h l) :
  ZP (zOf n) w (.returned (mX (s && decide (0<(limbs z).length)) i (limbs z).length c1)) (setL w.heap.size [(0,.bool (s && decide (0<(limbs z).length))),(1,.slice i (limbs z).length c1)] l):=by
 rw [A];have y2:=(j.block w.heap.size y).trans x;have k:=dQ (p:=w.heap.size) (t:=160) (by decide) (by decide) [(0,.bool (s && decide (0<(limbs z).length))),(1,.slice i (limbs z).length c1)] l _ y2;exact⟨i,c1,by rw [oJ],(v.move (Below.dat j) j.size).move k.1 (cD k.2.1.symm),o,k.2.2 _ _ aA (m.trans (j.mono m.size))⟩
theorem aEr (n:Int) (H:eI n) (w:World):Calls prog 95 #[.int .i64 n] w fun e w'=>ZP (zOf n) w e w':=by
 obtain ⟨z,I⟩:∃z,n.natAbs=z:=⟨_,rfl⟩;have ag:z<aK:=by unfold eI at H;rw [show aK=18446744073709551616 from rfl];omega
 have D:=aTk H;rw [I] at D;have ae:Below w.heap.size w ((w.alloc (.cells #[.bool false,.slice none 0 0] 160)).alloc (.cells #[.int .u64 (z:Nat)] 177)):=cV w _ _;have ab:=Z (fI w (.cells #[.bool false,.slice none 0 0] 160) (.cells #[.int .u64 (z:Nat)] 177));have af:=aXn (eV w (.cells #[.bool false,.slice none 0 0] 160) (.cells #[.int .u64 (z:Nat)] 177)) (by unfold okU;rw [show aK=18446744073709551616 from rfl] at ag;omega);have C:=Z (nU (some ⟨w.heap.size+1,0,none⟩) 1 1 [(z:Int)] _ af (by omega) aA);rw [aTl z ag] at C;have x:=Z ae;have J:=Z (show ∀s:Bool,s=decide (n<0)->zOf n=⟨s && decide (0<z),z⟩ from fun s ak=>by
  subst ak;unfold zOf;rw [I]
  congr 1
  by_cases h:n<0
  ·rw [bV h,bV (by omega)];rfl
  ·rw [aR h];rfl)
 clear af ae;by_cases ad:0<=n
 case pos=>
  have ah:IntKind.u64.wrap n=(z:Nat):=D.1 ad;have V:¬n<0:=by omega
  have U:decide (n<0)=false:=aR V;have Q:=Z (J.o false U.symm);clear J I D H;go_enter func95,ntmps95
  go_wp2_with fail
  refine C.o.mono ?_;rintro e i ⟨j,c1,rfl,G,E,F,l⟩;have K:=Z (x.o.trans (l.mono x.o.size));have k:=Z ((l.block w.heap.size (by simp;omega)).trans ab.o);have O:=Z (show bT cH.u64 (fH w.heap.size i) i j _ _ from G.mono fun _ _ A=>⟨A.1,aH x.o.size A.2⟩);have L:=Z (And.intro E F);have y:=Z (show w.heap.size<i.heap.size from(bH k.o).1);have Y:=Z (aEq false j (limbs z).length c1 i);clear G E F l C
  go_wp2_with fail
  refine Y.o.mono ?_;rintro e aa ⟨rfl,m⟩;have R:=Z (aGc false z n Q.o w i aa j c1 _ _ y.o K.o k.o O.o L.o m);have y2:=(m.block w.heap.size y.o).trans k.o;obtain ⟨al,am⟩:=kE y2;obtain ⟨ai,aj⟩:=kX y2;clear m y2;go_wp2;refine bodyPost_ret (v:=mX false j (limbs z).length c1) (by simp [results,results95,go_sem, *]) rfl ?_;exact R.o
 case neg=>
  have ah:IntKind.u64.wrap (-IntKind.u64.wrap n)=(z:Nat):=D.2 (by omega);have V:n<0:=by omega
  have U:decide (n<0)=true:=bV V;have Q:=Z (J.o true U.symm);clear J I D H ad;go_enter func95,ntmps95
  go_wp2_with fail
  refine C.o.mono ?_;rintro e i ⟨j,c1,rfl,G,E,F,l⟩;have K:=Z (x.o.trans (l.mono x.o.size));have k:=Z ((l.block w.heap.size (by simp;omega)).trans ab.o);have O:=Z (show bT cH.u64 (fH w.heap.size i) i j _ _ from G.mono fun _ _ A=>⟨A.1,aH x.o.size A.2⟩);have L:=Z (And.intro E F);have y:=Z (show w.heap.size<i.heap.size from(bH k.o).1);have Y:=Z (aEq true j (limbs z).length c1 i);clear G E F l C
  go_wp2_with fail
  refine Y.o.mono ?_;rintro e aa ⟨rfl,m⟩;have R:=Z (aGc true z n Q.o w i aa j c1 _ _ y.o K.o k.o O.o L.o m);have y2:=(m.block w.heap.size y.o).trans k.o;obtain ⟨al,am⟩:=kE y2;obtain ⟨ai,aj⟩:=kX y2;clear m y2;go_wp2;refine bodyPost_ret (v:=mX (true && decide (0<(limbs z).length)) j (limbs z).length c1) (by simp [results,results95,go_sem, *]) rfl ?_;exact R.o
theorem aGd (s:Bool) (ae af:Value) (x y:Nat) (w:World) (av:rR x w ae) (hy:rR y w af) (aD:0<y):Calls prog 147 #[.bool s,ae,af] w fun e w'=>dP (wP s x y) w e w':=by
 have an:Below w.heap.size w (w.alloc (.cells #[.bool false,.slice none 0 0,.slice none 0 0] 36)):=bJ;have aM:=Z (cC w (.cells #[.bool false,.slice none 0 0,.slice none 0 0] 36));have a5:=Z an;have aU:=Z av;have aV:=Z hy;have a7:=Z (show 0<Nat.gcd x y from aGm _ aD);have a6:=Z (aKl ae af x y _ (av.all an) (hy.all an));obtain ⟨P,ao⟩:∃P,x / Nat.gcd x y=P:=⟨_,rfl⟩;obtain ⟨Q,ap⟩:∃Q,y / Nat.gcd x y=Q:=⟨_,rfl⟩;have a8:=Z (show wP s x y=⟨s && decide (0<P),limbs P,limbs Q⟩ from by unfold wP;rw [ao,ap]);have aR:=Z ao;have aS:=Z ap;clear hy av aD ao ap;go_enter func147,ntmps147
 go_wp2_with fail
 refine a6.o.mono ?_;rintro e bd ⟨a4,rfl,aw,aq⟩;have ax:=Z (a5.o.trans (aq.mono a5.o.size));have a1:=Z ((aq.block w.heap.size (by simp)).trans aM.o);have aL:=Z aw;have aa:=vE ae a4 x (Nat.gcd x y) bd (aU.o.all ax.o) aw a7.o;unfold aS7 at aa;rw [aR.o] at aa;have aB:=Z aa;clear aw aq a6 aa
 go_wp2_with fail
 refine aB.o.mono ?_;rintro e be ⟨bg,aE,rfl,aF,_,V⟩;have ay:=Z (aG ax V);have a2:=Z ((V.block w.heap.size (bH a1.o).1).trans a1.o);have az:=Z aF;have ab:=vE af a4 y (Nat.gcd x y) be (aV.o.all ay.o) (aL.o.all V) a7.o;unfold aS7 at ab;rw [aS.o] at ab;have aC:=Z ab;clear aF V aB ab
 go_wp2_with fail
 refine aC.o.mono ?_;rintro e bf ⟨bh,bi,rfl,aZ,_,Y⟩;have O:=Z (aG ay Y);have U:=Z ((Y.block w.heap.size (bH a2.o).1).trans a2.o);obtain ⟨aN,c2,rfl,aI,u2,ba,bb⟩:=az.o.all Y;obtain ⟨a3,c3,rfl,aJ,u3,bc,aK⟩:=aZ;have au:=nU aN (limbs P).length c2 (limbs P) bf aI (by omega) u2;rw [aY] at au;have ad:=Z au;have a0:=Z aJ;have R:=Z (And.intro u3 aK);have a9:decide ((0:Int)<(limbs P).length)=decide (0<P):=by
  rw [<-oJ (z:=P)];exact decide_eq_decide.2 (by omega)
 have aT:=Z a9;clear aI u2 ba bb aJ u3 bc aK Y az au aC a9;clear aT;cases s
 case false=>
  have ar:=Z (show(false && decide (0<P))=false from rfl)
  go_wp2_with fail
  refine ad.o.mono ?_;rintro e A ⟨l,c4,rfl,J,F,G,j⟩;have C:=Z (aG O j);have D:=Z ((j.block w.heap.size (bH U.o).1).trans U.o);have aj:=Z (show bT cH.u64 (fH w.heap.size A) A l (limbs P).length (limbs P) from J.mono fun _ _ i=>⟨i.1,aH O.o.size i.2⟩);have ah:=Z (And.intro F G);have n:=nU a3 (limbs Q).length c3 (limbs Q) A (a0.o.below j aA) (by have:=R.o.2;omega) R.o.1;rw [aY] at n;have E:=Z n;clear J F G j n ad
  go_wp2_with fail
  refine E.o.mono ?_;rintro e L ⟨m,c5,rfl,K,H,I,h⟩;have ag:=Z (aG C h);have k:=(h.block w.heap.size (bH D.o).1).trans D.o;have am:=Z k;have ak:=Z (show bT cH.u64 (fH w.heap.size L) L m (limbs Q).length (limbs Q) from K.mono fun _ _ i=>⟨i.1,aH C.o.size i.2⟩);have al:=Z (aj.o.move (Below.dat h) h.size);have ai:=Z (And.intro H I);obtain ⟨aW,aX,aE⟩:=eH k;obtain ⟨aO,aP,aQ⟩:=gB k;clear K H I h k E;go_wp2;refine bodyPost_ret (v:=fA ⟨false,limbs P,limbs Q⟩ l c4 m c5) (by simp [results,results147,go_sem, *]) rfl ?_;rw [a8.o,ar.o];exact dP.set (r:=⟨false,limbs P,limbs Q⟩) (by decide) (by decide) am.o aA al.o ak.o ah.o ai.o ag.o [(0,.bool false),(1,.slice l (limbs P).length c4),(2,.slice m (limbs Q).length c5)]
 case true=>
  have ar:=Z (show(true && decide (0<P))=(decide (0<(limbs P).length)) from by rw [oJ];rfl)
  go_wp2_with fail
  refine ad.o.mono ?_;rintro e A ⟨l,c4,rfl,J,F,G,j⟩;have C:=Z (aG O j);have D:=Z ((j.block w.heap.size (bH U.o).1).trans U.o);have aj:=Z (show bT cH.u64 (fH w.heap.size A) A l (limbs P).length (limbs P) from J.mono fun _ _ i=>⟨i.1,aH O.o.size i.2⟩);have ah:=Z (And.intro F G);have n:=nU a3 (limbs Q).length c3 (limbs Q) A (a0.o.below j aA) (by have:=R.o.2;omega) R.o.1;rw [aY] at n;have E:=Z n;clear J F G j n ad
  go_wp2_with fail
  refine E.o.mono ?_;rintro e L ⟨m,c5,rfl,K,H,I,h⟩;have ag:=Z (aG C h);have k:=(h.block w.heap.size (bH D.o).1).trans D.o;have am:=Z k;have ak:=Z (show bT cH.u64 (fH w.heap.size L) L m (limbs Q).length (limbs Q) from K.mono fun _ _ i=>⟨i.1,aH C.o.size i.2⟩);have al:=Z (aj.o.move (Below.dat h) h.size);have ai:=Z (And.intro H I);obtain ⟨aW,aX,aE⟩:=eH k;obtain ⟨aO,aP,aQ⟩:=gB k;clear K H I h k E;go_wp2;refine bodyPost_ret (v:=fA ⟨(decide (0<(limbs P).length)),limbs P,limbs Q⟩ l c4 m c5) (by simp [results,results147,go_sem, *]) rfl ?_;rw [a8.o,ar.o];exact dP.set (r:=⟨(decide (0<(limbs P).length)),limbs P,limbs Q⟩) (by decide) (by decide) am.o aA al.o ak.o ah.o ai.o ag.o [(0,.bool (decide (0<(limbs P).length))),(1,.slice l (limbs P).length c4),(2,.slice m (limbs Q).length c5)]
theorem aTm {S S':Nat->Prop} (s:Bool) (a b:Option Addr) (n m c d x y:Nat) (w:World) (az:bT cH.u64 S w a n (limbs x)) (hy:bT cH.u64 S' w b m (limbs y)) (a9:n<=64) (a8:m<=64) (a7:n<=c/\c<=maxLen) (hd:m<=d/\d<=maxLen) (ay:s=true->0<x) (a0:0<y) :
  Calls prog 94 #[mX s a n c,mX false b m d] w fun e w'=>∃v,e = .returned (.tuple #[v,.int .i64 0])/\dP (wP s x y) w (.returned v) w':=by
 have am:=Z az;have an:=Z hy;have D:=Z az.1;have C:=Z hy.1;have ap:=Z a7;have aq:=Z hd;have aB:=Z a0;have aQ:0<m:=by rw [<-C.o];exact bK.2 a0
 have aO:(m:Int)≠0:=by omega
 have aP:(0:Int)<m:=by omega
 obtain ⟨A,aw⟩:∃R,wP s x y=R:=⟨_,rfl⟩;rw [aw];have ao:=Z aw;clear az hy a7 hd a0 aw;cases s
 case false=>
  clear ay;have F:=cC ((w.alloc (.cells #[.bool false,.slice a n c] 160)).alloc (.cells #[.bool false,.slice b m d] 160)) (.cells #[.bool false,.slice none 0 0,.slice none 0 0] 36);have ad:=(fB ((w.alloc (.cells #[.bool false,.slice a n c] 160)).alloc (.cells #[.bool false,.slice b m d] 160)) (.cells #[.bool false,.slice none 0 0,.slice none 0 0] 36) w.heap.size (by simp;omega)).trans (fI w (.cells #[.bool false,.slice a n c] 160) (.cells #[.bool false,.slice b m d] 160));have ae:=(fB ((w.alloc (.cells #[.bool false,.slice a n c] 160)).alloc (.cells #[.bool false,.slice b m d] 160)) (.cells #[.bool false,.slice none 0 0,.slice none 0 0] 36) (w.heap.size+1) (by simp)).trans (eV w (.cells #[.bool false,.slice a n c] 160) (.cells #[.bool false,.slice b m d] 160));have G:Below w.heap.size w (((w.alloc (.cells #[.bool false,.slice a n c] 160)).alloc (.cells #[.bool false,.slice b m d] 160)).alloc (.cells #[.bool false,.slice none 0 0,.slice none 0 0] 36)):=(cV w _ _).alloc (by simp;omega) _;rw [iD,iD] at F;go_enter func94,ntmps94
  go_wp2_with fail
  generalize ax:((w.alloc (.cells #[.bool false,.slice a n c] 160)).alloc (.cells #[.bool false,.slice b m d] 160)).alloc (.cells #[.bool false,.slice none 0 0,.slice none 0 0] 36)=av at *;clear ax;have L:=Z F;have O:=Z ad;have Q:=Z ae;have ar:=Z G;have ak:=Z (oF false a n c x av (am.o.below G aA) a9 (fun h=>by cases h));clear F ad ae G;refine ak.o.mono ?_;rintro e J ⟨rfl,j⟩;have K:=Z (aG ar j);have y1:=(j.block (w.heap.size+1) (bH Q.o).1).trans Q.o;have U:=Z ((j.block (w.heap.size+1+1) (bH L.o).1).trans L.o);have P1:=Z ((j.block w.heap.size (bH O.o).1).trans O.o);have P2:=Z y1;have a1:J.cell? ⟨w.heap.size+1,0,none⟩=some (.bool false):=E y1 0;have a2:J.cell? ⟨w.heap.size+1,1,none⟩=some (.slice b m d):=E y1 1;have al:=Z (oF false b m d y J (an.o.below K.o aA) a8 (fun h=>by cases h));clear j y1 ak
  go_wp2_with fail
  refine al.o.mono ?_;rintro e z ⟨rfl,k⟩;have i:=Z (aG K k);have y0:=(k.block (w.heap.size+1+1) (bH U.o).1).trans U.o;have y1:=(k.block w.heap.size (bH P1.o).1).trans P1.o;have y2:=(k.block (w.heap.size+1) (bH P2.o).1).trans P2.o;have aI:z.cell? ⟨w.heap.size,0,none⟩=some (.bool false):=E y1 0;have m1:z.cell? ⟨w.heap.size,1,none⟩=some (.slice a n c):=E y1 1;have aJ:z.cell? ⟨w.heap.size+1,0,none⟩=some (.bool false):=E y2 0;have aK:z.cell? ⟨w.heap.size+1,1,none⟩=some (.slice b m d):=E y2 1;have V:=Z y0;have I:=aGd false (.slice a n c) (.slice b m d) x y z ⟨a,c,by rw [D.o],by rw [D.o];exact(am.o.below i.o aA).mono fun _ _ _=>trivial,by rw [D.o];exact ap.o.1,ap.o.2,by rw [D.o];omega⟩ ⟨b,d,by rw [C.o],by rw [C.o];exact(an.o.below i.o aA).mono fun _ _ _=>trivial,by rw [C.o];exact aq.o.1,aq.o.2,by rw [C.o];omega⟩ aB.o;rw [ao.o] at I;have af:=Z I;clear k y0 y1 y2 a1 a2 al I ao
  go_wp2_with fail
  refine af.o.mono ?_;rintro e a6 ⟨Y,c3,aa,ab,rfl,ai,aj,ag,ah,H⟩;have y0:=(H.block (w.heap.size+1+1) (bH V.o).1).trans V.o;obtain ⟨aL,aM,aN⟩:=eH y0;obtain ⟨aC,aD,aE⟩:=gB y0;have au:=Z (dP.set (r:=A) (w:=w) (W:=a6) (by decide) (by decide) y0 (by omega) (ai.mono fun _ _ l=>⟨l.1,aH i.o.size l.2⟩) (aj.mono fun _ _ l=>⟨l.1,aH i.o.size l.2⟩) ag ah (aG i H) [(0,.bool A.neg),(1,.slice Y A.num.length c3),(2,.slice aa A.den.length ab)]);clear ai aj ag ah H y0 af;obtain ⟨a4,a5,a3⟩:=A;dsimp only;go_wp2;refine bodyPost_ret (v:=.tuple #[fA ⟨a4,a5,a3⟩ Y c3 aa ab,.int .i64 0]) (by simp [results,results94,go_sem, *]) rfl ?_;exact⟨_,rfl,au.o⟩
 case true=>
  have aF:=Z (ay rfl);clear ay;have F:=cC ((w.alloc (.cells #[.bool true,.slice a n c] 160)).alloc (.cells #[.bool false,.slice b m d] 160)) (.cells #[.bool false,.slice none 0 0,.slice none 0 0] 36);have ad:=(fB ((w.alloc (.cells #[.bool true,.slice a n c] 160)).alloc (.cells #[.bool false,.slice b m d] 160)) (.cells #[.bool false,.slice none 0 0,.slice none 0 0] 36) w.heap.size (by simp;omega)).trans (fI w (.cells #[.bool true,.slice a n c] 160) (.cells #[.bool false,.slice b m d] 160));have ae:=(fB ((w.alloc (.cells #[.bool true,.slice a n c] 160)).alloc (.cells #[.bool false,.slice b m d] 160)) (.cells #[.bool false,.slice none 0 0,.slice none 0 0] 36) (w.heap.size+1) (by simp)).trans (eV w (.cells #[.bool true,.slice a n c] 160) (.cells #[.bool false,.slice b m d] 160));have G:Below w.heap.size w (((w.alloc (.cells #[.bool true,.slice a n c] 160)).alloc (.cells #[.bool false,.slice b m d] 160)).alloc (.cells #[.bool false,.slice none 0 0,.slice none 0 0] 36)):=(cV w _ _).alloc (by simp;omega) _;rw [iD,iD] at F;go_enter func94,ntmps94
  go_wp2_with fail
  generalize ax:((w.alloc (.cells #[.bool true,.slice a n c] 160)).alloc (.cells #[.bool false,.slice b m d] 160)).alloc (.cells #[.bool false,.slice none 0 0,.slice none 0 0] 36)=av at *;clear ax;have L:=Z F;have O:=Z ad;have Q:=Z ae;have ar:=Z G;have ak:=Z (oF true a n c x av (am.o.below G aA) a9 (fun _=>aF.o));clear F ad ae G;refine ak.o.mono ?_;rintro e J ⟨rfl,j⟩;have K:=Z (aG ar j);have y1:=(j.block (w.heap.size+1) (bH Q.o).1).trans Q.o;have U:=Z ((j.block (w.heap.size+1+1) (bH L.o).1).trans L.o);have P1:=Z ((j.block w.heap.size (bH O.o).1).trans O.o);have P2:=Z y1;have a1:J.cell? ⟨w.heap.size+1,0,none⟩=some (.bool false):=E y1 0;have a2:J.cell? ⟨w.heap.size+1,1,none⟩=some (.slice b m d):=E y1 1;have al:=Z (oF false b m d y J (an.o.below K.o aA) a8 (fun h=>by cases h));clear j y1 ak
  go_wp2_with fail
  refine al.o.mono ?_;rintro e z ⟨rfl,k⟩;have i:=Z (aG K k);have y0:=(k.block (w.heap.size+1+1) (bH U.o).1).trans U.o;have y1:=(k.block w.heap.size (bH P1.o).1).trans P1.o;have y2:=(k.block (w.heap.size+1) (bH P2.o).1).trans P2.o;have aI:z.cell? ⟨w.heap.size,0,none⟩=some (.bool true):=E y1 0;have m1:z.cell? ⟨w.heap.size,1,none⟩=some (.slice a n c):=E y1 1;have aJ:z.cell? ⟨w.heap.size+1,0,none⟩=some (.bool false):=E y2 0;have aK:z.cell? ⟨w.heap.size+1,1,none⟩=some (.slice b m d):=E y2 1;have V:=Z y0;have I:=aGd true (.slice a n c) (.slice b m d) x y z ⟨a,c,by rw [D.o],by rw [D.o];exact(am.o.below i.o aA).mono fun _ _ _=>trivial,by rw [D.o];exact ap.o.1,ap.o.2,by rw [D.o];omega⟩ ⟨b,d,by rw [C.o],by rw [C.o];exact(an.o.below i.o aA).mono fun _ _ _=>trivial,by rw [C.o];exact aq.o.1,aq.o.2,by rw [C.o];omega⟩ aB.o;rw [ao.o] at I;have af:=Z I;clear k y0 y1 y2 a1 a2 al I ao
  go_wp2_with fail
  refine af.o.mono ?_;rintro e a6 ⟨Y,c3,aa,ab,rfl,ai,aj,ag,ah,H⟩;have y0:=(H.block (w.heap.size+1+1) (bH V.o).1).trans V.o;obtain ⟨aL,aM,aN⟩:=eH y0;obtain ⟨aC,aD,aE⟩:=gB y0;have au:=Z (dP.set (r:=A) (w:=w) (W:=a6) (by decide) (by decide) y0 (by omega) (ai.mono fun _ _ l=>⟨l.1,aH i.o.size l.2⟩) (aj.mono fun _ _ l=>⟨l.1,aH i.o.size l.2⟩) ag ah (aG i H) [(0,.bool A.neg),(1,.slice Y A.num.length c3),(2,.slice aa A.den.length ab)]);clear ai aj ag ah H y0 af;obtain ⟨a4,a5,a3⟩:=A;dsimp only;go_wp2;refine bodyPost_ret (v:=.tuple #[fA ⟨a4,a5,a3⟩ Y c3 aa ab,.int .i64 0]) (by simp [results,results94,go_sem, *]) rfl ?_;exact⟨_,rfl,au.o⟩
def ofR (n d:Int):cJ:=wP (decide (n<0)) n.natAbs d.natAbs
theorem aVm (n d:Int) (j:eI n) (ao:0<d) (hd:eI d) (w:World):Calls prog 39 #[.int .i64 n,.int .i64 d] w fun e w'=>dP (ofR n d) w e w':=by
 have Y:Below w.heap.size w (w.alloc (.cells #[.bool false,.slice none 0 0,.slice none 0 0] 36)):=bJ;have al:=Z (cC w (.cells #[.bool false,.slice none 0 0,.slice none 0 0] 36));have aa:=Z Y;have av:=Z (fun W=>aEr n j W);have aw:=Z (fun W=>aEr d hd W);have a5:(d == 0)=false:=by simp;omega
 have a6:d≠0:=by omega
 have az:=Z (show n.natAbs<aK from by unfold eI at j;rw [show aK=18446744073709551616 from rfl];omega);have a0:=Z (show d.natAbs<aK from by unfold eI at hd;rw [show aK=18446744073709551616 from rfl];omega);have ap:=Z (show(limbs (zOf n).n).length<=1 from fO (by rw [Nat.pow_one];exact az.o));have aq:=Z (show(limbs (zOf d).n).length<=1 from fO (by rw [Nat.pow_one];exact a0.o));have ax:=Z (show(zOf n).neg=true->0<(zOf n).n from fun h=>by have:n<0:=oU h;show 0<n.natAbs;omega);have ay:=Z (show(zOf d).neg=false from aR (by omega));have au:=Z (show 0<(zOf d).n from by show 0<d.natAbs;omega);obtain ⟨Q,F⟩:∃R,ofR n d=R:=⟨_,rfl⟩;rw [F];have ab:=Z (show Q=wP (zOf n).neg (zOf n).n (zOf d).n from F.symm);clear F;clear Y j hd ao;go_enter func39,ntmps39
 go_wp2_with fail
 refine(av.o _).mono ?_;rintro e aC ⟨am,c1,rfl,af,ad,G⟩;have ah:=Z (aa.o.trans (G.mono aa.o.size));have U:=Z ((G.block w.heap.size (by simp)).trans al.o);have ak:=Z af;have aj:=Z ad;clear af ad G
 go_wp2_with fail
 refine(aw.o _).mono ?_;rintro e a1 ⟨an,c2,rfl,ag,ae,C⟩;have D:=Z (aG ah C);have V:=Z ((C.block w.heap.size (bH U.o).1).trans U.o);have j:=aTm (zOf n).neg am an _ _ c1 c2 (zOf n).n (zOf d).n a1 (ak.o.below C aA) ag (aH ap.o (by decide)) (aH aq.o (by decide)) aj.o ae ax.o au.o;rw [<-ay.o,<-ab.o] at j;have ar:=Z j;clear ag ae C j
 go_wp2_with fail
 refine ar.o.mono ?_;rintro e A ⟨v,rfl,s,c3,x,y,I,L,O,J,K,H⟩;injection I with I
 subst I;have y3:=(H.block w.heap.size (bH V.o).1).trans V.o;have E:=aG D H;clear ab;obtain ⟨l,m,k⟩:=Q;dsimp only at L O J K;have i:Below A.heap.size A (A.alloc (.cells #[.bool l,.slice s m.length c3,.slice x k.length y] 36)):=bJ;have y4:=(i.block w.heap.size (bH y3).1).trans y3;obtain ⟨a8,a9,aB⟩:=eH y4;obtain ⟨a2,a3,a4⟩:=gB y4;have z3:=cC A (.cells #[.bool l,.slice s m.length c3,.slice x k.length y] 36);obtain ⟨a7,m1,m2⟩:=eH z3;have ai:=Z (dP.set (r:=⟨l,m,k⟩) (w:=w) (by decide) (by decide) y4 aA ((L.mono fun _ _ z=>⟨z.1,aH D.o.size z.2⟩).move (Below.dat i) i.size) ((O.mono fun _ _ z=>⟨z.1,aH D.o.size z.2⟩).move (Below.dat i) i.size) J K (E.trans (i.mono E.size)) [(0,.bool l),(1,.slice s m.length c3),(2,.slice x k.length y)]);clear L O J K H y3 i z3 E y4
 go_wp2_with fail
 generalize A.alloc (.cells #[.bool l,.slice s m.length c3,.slice x k.length y] 36)=aD at *;go_wp2;refine bodyPost_ret (v:=fA ⟨l,m,k⟩ s c3 x y) (by simp [results,results39,go_sem, *]) rfl ?_;exact ai.o
def qK:gL->List kG->Prop
 | [],[]=>True
 | t :: m,f :: l=>t.name=f.name/\aEl f.res t/\qK m l
 | _,_=>False
theorem qK.len:∀ {m:gL} {l:List kG},qK m l->m.length=l.length
 | [],[],_=>rfl
 | _ :: _,_ :: _,h=>by rw [fQ,fQ,qK.len h.2.2]
 | [],_ :: _,h=>h.elim
 | _ :: _,[],h=>h.elim
theorem qK.snoc:∀ {m:gL} {l:List kG} {t:TbD} {f:kG},qK m l->t.name=f.name->aEl f.res t->qK (m ++ [t]) (l ++ [f])
 | [],[],_,_,_,h1,h2=>⟨h1,h2,trivial⟩
 | _ :: _,_ :: _,_,_,h,h1,h2=>⟨h.1,h.2.1,qK.snoc h.2.2 h1 h2⟩
 | [],_ :: _,_,_,h,_,_=>h.elim
 | _ :: _,[],_,_,h,_,_=>h.elim
theorem aIf {a b:ByteArray}:eqS a b=true↔a=b:=by
 unfold eqS
 first | exact wF | (constructor;intro h;simpa using h;rintro rfl;simp)
theorem qK.find:∀ {m:gL} {l:List kG},qK m l->(∀f∈l,∀g∈l,f.name=g.name->f.res=g.res)->∀f∈l,∃t,jB m f.name=some t/\aEl f.res t
 | [],[],_,_,f,i=>by cases i
 |
  t :: m,g :: l,h,hd,f,i=>by
  by_cases e:t.name=f.name
  ·refine⟨t,?_,?_⟩
   ·unfold jB;rw [yZ,aIf.2 e]
   ·rw [hd f i g (by simp) (e.symm.trans h.1)];exact h.2.1
  ·have n:f∈l:=by
    rcases mB.1 i with rfl | i
    ·exact absurd h.1 e
    ·exact i
   obtain ⟨u,j,k⟩:=qK.find h.2.2 (fun f i g o=>hd f (by simp [i]) g (by simp [o])) f n;refine⟨u,?_,k⟩;unfold jB;rw [yZ];have:eqS t.name f.name=false:=by rw [Bool.eq_false_iff];intro h;exact e (aIf.1 h)
   rw [this];exact j
 | [],_ :: _,h,_,_,_=>h.elim
 | _ :: _,[],h,_,_,_=>h.elim
theorem aTn:∀f∈eC,∀g∈eC,f.name=g.name->f.res=g.res:=by
 intro f m g n e;have:∀i j:Fin 10,(eC.getD i.val qD).name.data.toList=(eC.getD j.val qD).name.data.toList->(eC.getD i.val qD).res=(eC.getD j.val qD).res:=by decide +kernel
 obtain ⟨i,k,rfl⟩:=gU m;obtain ⟨j,l,rfl⟩:=gU n;have h:=this ⟨i,k⟩ ⟨j,l⟩;rw [iW,iW,cK k,cK l] at h;exact h (by show eC[i].name.data.toList=eC[j].name.data.toList;rw [e])
theorem aTo {T:aC} {m:gL} (hd:DcI T) (G:mD T) (A:T.S.funs=eC) (E:qK m eC) {i:Int} (C:dH T i=true):aEm m T i:=fun x H l=>by
 obtain ⟨o,I⟩:=cX.1 (aBa G C H);obtain ⟨k,rfl⟩:=fK o;have h:=hd.so _ (fP (cR (T:=T) (k:=k) (by omega))) l;rw [l] at h;have e:aD T 12 (nodeAt T k).name (nodeAt T k).args=iA T (nodeAt T k).name (nodeAt T k).args:=rfl;rw [e] at h;unfold iA at h
 split at h
 ·rename_i n
  cases j:jA T.S (nodeAt T k).name with
  | none=>rw [j] at n;exact absurd n.1 (by decide)
  |
   some f=>
   have s:=tI j;have v:f.name=(nodeAt T k).name:=aIf.1 s;have F:f∈eC:=by rw [<-A];exact mK j
   obtain ⟨t,y,z⟩:=E.find aTn f F
   split at h
   ·injection h with h _
    have D:fM T.S (nodeAt T k).name=f:=by unfold fM;rw [j];rfl
    rw [D] at h;exact⟨t,by rw [<-v];exact y,by rw [<-h];exact z⟩
   ·exact absurd (congrArg Prod.snd h) (by simp)
 ·exact absurd (congrArg Prod.snd h) (by simp)
theorem dG.limbs {B p:Nat} {T:aC} {w:World} (h:dG B p T w):aTj T:=fun x s=>by
 obtain ⟨q,z,A,m,l⟩:=h;obtain ⟨k,n,rfl⟩:=gU s;obtain ⟨css,v,y,j⟩:=l.nodes;obtain ⟨cs,_,o⟩:=j k _ (cK n);obtain ⟨a,c,b,d,g,e,_,i⟩:=vT.1 o;exact⟨i.num.us64,i.den.us64⟩
theorem aTp {n d:Int} (m:-2<=n/\n<=2) (hd:1<=d/\d<=2):iM (ofR n d)/\(ofR n d).num.length<=1/\(ofR n d).den.length<=1:=by
 have:∀i:Fin 5,∀j:Fin 2,aL9 (ofR ((i.val:Int) - 2) (1+(j.val:Int)))=false/\(ofR ((i.val:Int) - 2) (1+(j.val:Int))).num.length<=1/\(ofR ((i.val:Int) - 2) (1+(j.val:Int))).den.length<=1:=by decide +kernel
 have h:=this ⟨(n+2).toNat,by omega⟩ ⟨(d - 1).toNat,by omega⟩;have k:(((n+2).toNat:Nat):Int) - 2=n:=by omega
 have l:1+(((d - 1).toNat:Nat):Int)=d:=by omega
 simp only [k,l] at h;exact⟨aEj (aOg (by omega) h.1),h.2⟩
def qR (w:World) (base g N:Nat) (f:Nat->Bool):Prop:=base<=g/\∃cur:Array Value,w.heap[g]? = some (.cells cur 4 (0,0))/\cur.toList=(List.range N).map fun j=>.bool (f j)
section
variable {w w' : World} {base g N : Nat} {f : Nat -> Bool}
theorem qR.lt (h:qR w base g N f):g<w.heap.size:=by obtain ⟨_,cur,i,_⟩:=h;exact(bH i).1
theorem qR.same (h:qR w base g N f) (k:w'.heap[g]? = w.heap[g]?):qR w' base g N f:=by obtain ⟨i,cur,l,j⟩:=h;exact⟨i,cur,k.trans l,j⟩
theorem qR.cell (h:qR w base g N f) {j:Nat} (m:j<N):w.cell? ⟨g,j,none⟩=some (.bool (f j)):=by
 obtain ⟨n,cur,l,i⟩:=h;have k:cur.toList[j]? = some (.bool (f j)):=by rw [i,mZ,List.getElem?_range m];rfl
 simp only [World.cell?,l,vL,vM,if_false];rw [<-vI];exact k
theorem qR.frz (h:qR w base g N f) (j:Nat):w.frozen? ⟨g,j,none⟩=false:=by obtain ⟨k,cur,i,l⟩:=h;exact aQ i j
theorem qR.set (h:qR w base g N f) {j:Nat} (x:Bool):qR (w.setCell ⟨g,j,none⟩ (.bool x)) base g N (fun i=>if i=j then x else f i):=by
 obtain ⟨k,cur,m,l⟩:=h;refine⟨k,cur.setIfInBounds j (.bool x),?_,?_⟩
 ·unfold World.setCell;rw [iN,if_pos rfl,m];rfl
 ·rw [aGi,l];refine List.ext_getElem (by simp) fun i n k=>?_
  rw [List.getElem_set];by_cases e:j=i
  ·rw [if_pos e];simp [e]
  ·rw [if_neg e];simp [lN e]
theorem qR.congr {f':Nat->Bool} (h:qR w base g N f) (m:∀j,j<N->f j=f' j):qR w base g N f':=by
 obtain ⟨i,cur,l,k⟩:=h;refine⟨i,cur,l,k.trans (List.map_congr_left fun j n=>?_)⟩;rw [m j (List.mem_range.1 n)]
end
theorem aNj:(Tryz.prog.info? 4).map (fun i=>(i.zero,i.size,i.bytes))=some (some (.bool false),1,1):=by kernel_rfl
theorem aNk (n base:Nat) (w:World) (F:n<=1099511627776) (l:base<=w.heap.size) :
  ∃w',(Instr.makeSlice 72 (.int .i64 n) (.int .i64 n)).run prog w = .ok (.slice (some ⟨w.heap.size,0,none⟩) n n) w'/\qR w' base w.heap.size n (fun _=>false)/\Below w.heap.size w w':=by
 obtain ⟨C,v,y,z,A⟩:=info_parts aNj;obtain ⟨w',m,o,h⟩:=run_make_full (P:=prog) w base 72 4 C (.bool false) 1 underlying72 v y z .i64 .i64 n (by rw [A];omega) (by unfold maxLen;omega) l;refine⟨w',m,⟨l,?_⟩,⟨h.os,h.tape,h.output,h.size,fun k x=>h.block k x (by simp)⟩⟩;rcases o.2 with ⟨i,_⟩ | ⟨g,E,cur,i,_,s,G,H,D,j⟩
 ·cases i
 ·cases i;refine⟨cur,s,?_⟩;rw [jN] at D j;rw [show(Value.bool false).cells = #[.bool false] from rfl,toList_madeCells_one] at j;rw [List.map_const',List.length_range,<-j,fL (by rw [aGv];omega)]
theorem rE {T:aC} {l:List Int} {i:Nat} (h:i<l.length):dB T (l.take (i+1))=(dB T (l.take i) && (numAt T (nth l i)).1):=by
 unfold dB;rw [jD h,aCu,cE h];simp
theorem aBx (r:Nat) (T:aC) (aO:rS T) (aU:mD T) (b3:T.nodes.length<=16384) (aV:SmN T) (id:Nat) (w:World) (h:RRd r T.nodes w) (Z:id<T.nodes.length) :
  Calls prog 165 #[.pointer (some ⟨r,0,none⟩),.int .i64 id] w fun e w'=>e = .returned (.bool (numAt T id).1)/\Below w.heap.size w w':=by
 obtain ⟨bC,bj,aW,aK⟩:=aNk (id+1) w.heap.size w (by omega) aA;rw [show((id+1:Nat):Int)=(id:Int)+1 by simp] at bj;have bf:=aT h;have aY:=aT aW;have aX:=aT aK;have bg:=aT aO;have bk:=aT aU;have bl:=aT aV;clear h aW aK aO aU aV;go_enter func165,ntmps165
 go_wp2
 go_loopw [6,7,8] (fun aF _ _ wr=>∃k:Nat,k<=id+1/\aF = .int .i64 k/\Hid (qR wr w.heap.size w.heap.size (id+1) (fun j=>decide (j<k) && (numAt T j).1))/\Hid (Below w.heap.size w wr)) (fun aF _ _ _=>id+1 - (intOf aF).toNat)
 case atStart=>exact⟨0,by omega,rfl,aY.o.congr fun j _=>(by simp),aX.o⟩
 case round=>
  obtain ⟨l,bm⟩:∃l,l=wr:=⟨_,rfl⟩;subst bm;obtain ⟨k,bw,rfl,a6,ab⟩:=hrel;by_cases b1:k<=id
  case neg=>
   obtain rfl:k=id+1:=by omega
   have y0:=a6.o.cell (j:=id) (by omega);have bh:decide (id<id+1)=true:=by simp
   rw [bh,eT] at y0;have ay:¬(((id+1:Nat):Int)<=id):=by omega
   have bv:(id:Int)<id+1:=by omega
   obtain ⟨z,a9⟩:∃z,z=(numAt T id).1:=⟨_,rfl⟩;rw [<-a9] at y0;have bn:=aT a9;clear a9;go_wp2;go_ret;exact⟨by rw [<-bn.o];rfl,ab.o⟩
  case pos=>
   have bi:k<T.nodes.length:=by omega
   have au:=cR bi;obtain ⟨b5,ba,bb,f,aL,aM⟩:=bf.o;have b4:l.cell? ⟨r,1,none⟩=some (.slice ba T.nodes.length bb):=aB ab.o (E aL 1);obtain ⟨b,o,C,F,D,d,g,e,rfl,aS,aj⟩:=aM.nodeAt au;have bp:=aB ab.o (aj 0 _ rfl);rw [cU] at bp;have b6:=aB ab.o (aj 1 _ rfl);have b7:=aB ab.o (aj 2 _ rfl);have b8:=aB ab.o (aj 3 _ rfl);have b9:=aB ab.o (aj 4 _ rfl);have bA:=aB ab.o (aj 5 _ rfl);have bB:=aB ab.o (aj 6 _ rfl);have b0:(k:Int)<T.nodes.length:=by omega
   have bx:(k:Int)<=id:=by omega
   have bz:(k:Int)<id+1:=by omega
   have a1:=aT aS.args.toI;have aw:=aT (bk.o k _ au);have bu:=(bl.o _ (fP au)).2.2;have az:=aT (bg.o.is au);have a0:=aT (show aOv (nodeAt T k)=(((nodeAt T k).op == 11) || (((nodeAt T k).op == 16) || (((nodeAt T k).op == 14) && decide ((nodeAt T k).args.length=1)))) from rfl);clear aS aj aL aM au;generalize aOv (nodeAt T k)=m at *;generalize nodeAt T k=bo at *;obtain ⟨op,nm,⟨H,I,G⟩,args,J⟩:=bo;dsimp only at *;have aP:=a6.o.lt;have aJ:=cC l (.cells #[.int .i64 op,.string nm,.bool H,.slice C I.length F,.slice D G.length d,.slice g args.length e,.int .i64 J] 38);have aI:=ab.o.alloc ab.o.size (.cells #[.int .i64 op,.string nm,.bool H,.slice C I.length F,.slice D G.length d,.slice g args.length e,.int .i64 J] 38);have av:=a6.o.same (fB l (.cells #[.int .i64 op,.string nm,.bool H,.slice C I.length F,.slice D G.length d,.slice g args.length e,.int .i64 J] 38) w.heap.size aP);have y0:=av.cell (j:=k) (by omega);have bq:=av.frz k;have aZ:=aT aJ;have ax:=fun v=>World.setCell_alloc_past (w:=l) (.cells #[.int .i64 op,.string nm,.bool H,.slice C I.length F,.slice D G.length d,.slice g args.length e,.int .i64 J] 38) w.heap.size k v aP
   have ag:=fun v=>aT (show Below w.heap.size w ((l.setCell ⟨w.heap.size,k,none⟩ v).alloc (.cells #[.int .i64 op,.string nm,.bool H,.slice C I.length F,.slice D G.length d,.slice g args.length e,.int .i64 J] 38)) from by rw [<-ax];exact aI.setCell (p:=⟨w.heap.size,k,none⟩) aA v)
   have ai:=fun v=>aT (show((l.setCell ⟨w.heap.size,k,none⟩ v).alloc (.cells #[.int .i64 op,.string nm,.bool H,.slice C I.length F,.slice D G.length d,.slice g args.length e,.int .i64 J] 38)).heap[l.heap.size]? = some (.cells #[.int .i64 op,.string nm,.bool H,.slice C I.length F,.slice D G.length d,.slice g args.length e,.int .i64 J] 38 (0,0)) from by
    rw [<-ax,dZ _ _ _ _ (by simp;omega)];exact aZ.o)
   have ah:=fun v=>aT (show qR ((l.setCell ⟨w.heap.size,k,none⟩ (.bool v)).alloc (.cells #[.int .i64 op,.string nm,.bool H,.slice C I.length F,.slice D G.length d,.slice g args.length e,.int .i64 J] 38)) w.heap.size w.heap.size (id+1) _ from by rw [<-ax];exact av.set (j:=k) v)
   clear aJ aI av ax;by_cases a3:op=11
   case pos=>
    subst a3;have ae:=aT (show m=true from by rw [a0.o];rfl);have am:=aT ((ah (true)).o.congr (f':=fun j=>if j=k then m && dB T (args.take 0) else(decide (j<k) && (numAt T j).1)) fun j _=>by
     by_cases e:j=k
     ·rw [if_pos e,if_pos e,ae.o];simp [dB]
     ·rw [if_neg e,if_neg e])
    have ak:=ag (.bool (true));have an:=ai (.bool (true));clear ah ag ai ae;go_wp2;generalize (l.setCell ⟨w.heap.size,k,none⟩ (.bool (true))).alloc (.cells #[.int .i64 11,.string nm,.bool H,.slice C I.length F,.slice D G.length d,.slice g args.length e,.int .i64 J] 38)=aG at *
    go_loopw [8] (fun Y wr=>∃i:Nat,i<=args.length/\Y = .int .i64 i/\Hid (qR wr w.heap.size w.heap.size (id+1) (fun j=>if j=k then m && dB T (args.take i) else(decide (j<k) && (numAt T j).1)))/\Hid (wr.heap[l.heap.size]? = some (.cells #[.int .i64 11,.string nm,.bool H,.slice C I.length F,.slice D G.length d,.slice g args.length e,.int .i64 J] 38 (0,0)))/\Hid (Below w.heap.size w wr)) (fun Y _=>args.length - (intOf Y).toNat)
    case atStart=>exact⟨0,aN,rfl,am.o,an.o,ak.o⟩
    case round=>
     obtain ⟨i,a7,rfl,n,ad,Q⟩:=hrel;have aE:wr.cell? ⟨l.heap.size,5,none⟩=some (.slice g args.length e):=E ad.o 5;by_cases R:i<args.length
     case neg=>
      obtain rfl:i=args.length:=by omega
      have al:=aT (n.o.congr (f':=fun j=>decide (j<k+1) && (numAt T j).1) fun j _=>by
       by_cases e:j=k
       ·rw [if_pos e,fL aA,e,az.o];simp
       ·rw [if_neg e];by_cases h:j<k
        ·rw [bV h,bV (by omega)]
        ·rw [aR h,aR (by omega)])
      go_wp2
      go_roundw
      case rel=>exact⟨k+1,by omega,by go_num,al.o,Q.o⟩
      case measure=>first | (simp [intOf];done) | (simp [intOf];omega)
     case pos=>
      have ay:(i:Int)<args.length:=by omega
      have U:=aT (rE (T:=T) R);obtain ⟨aa,ao⟩:=aw.o (nth args i) (cB R);obtain ⟨j,af⟩:=fK aa;have ap:j<k:=by omega
      have a8:(j:Int)<id+1:=by omega
      obtain ⟨b2,aD,rfl,aq⟩:=(a1.o.below Q.o aA).at i R;rw [af] at aq U;have y1:=n.o.cell (j:=k) (by omega);rw [if_pos rfl] at y1;have y2:=n.o.cell (j:=j) (by omega);rw [if_neg (by omega),bV ap,eT] at y2;have a2:=n.o.frz k;have s:=fun v=>aT (Q.o.setCell (p:=⟨w.heap.size,k,none⟩) aA v)
      have y:=fun v=>aT (show(wr.setCell ⟨w.heap.size,k,none⟩ v).heap[l.heap.size]? = _ from(dZ _ _ _ _ (by simp;omega)).trans ad.o)
      have x:=fun v=>aT (n.o.set (j:=k) v)
      clear aa ao af;generalize A:(m && dB T (args.take i))=ar at *;cases ar
      case false=>
       have L:=aT ((x false).o.congr (f':=fun j=>if j=k then m && dB T (args.take (i+1)) else(decide (j<k) && (numAt T j).1)) fun V _=>by
        by_cases e:V=k
        ·rw [if_pos e,if_pos e,U.o,<-qU,A];rfl
        ·rw [if_neg e,if_neg e,if_neg e])
       have K:=s (.bool false);have O:=y (.bool false);clear x s y A;go_wp2
       go_roundw
       case rel=>exact⟨i+1,by omega,by go_num,L.o,O.o,K.o⟩
       case measure=>first | (simp [intOf];done) | (simp [intOf];omega)
      case true=>
       have L:=aT ((x (numAt T j).1).o.congr (f':=fun j=>if j=k then m && dB T (args.take (i+1)) else(decide (j<k) && (numAt T j).1)) fun V _=>by
        by_cases e:V=k
        ·rw [if_pos e,if_pos e,U.o,<-qU,A];rfl
        ·rw [if_neg e,if_neg e,if_neg e])
       have K:=s (.bool (numAt T j).1);have O:=y (.bool (numAt T j).1);clear x s y A;generalize (numAt T j).1=aH at *;go_wp2
       go_roundw
       case rel=>exact⟨i+1,by omega,by go_num,L.o,O.o,K.o⟩
       case measure=>first | (simp [intOf];done) | (simp [intOf];omega)
   have br:decide (op=11)=false:=aR a3;have bc:(op == 11)=false:=by simpa using a3
   by_cases a5:op=16
   case pos=>
    subst a5;have ae:=aT (show m=true from by rw [a0.o];rfl);have am:=aT ((ah (true)).o.congr (f':=fun j=>if j=k then m && dB T (args.take 0) else(decide (j<k) && (numAt T j).1)) fun j _=>by
     by_cases e:j=k
     ·rw [if_pos e,if_pos e,ae.o];simp [dB]
     ·rw [if_neg e,if_neg e])
    have ak:=ag (.bool (true));have an:=ai (.bool (true));clear ah ag ai ae;go_wp2;generalize (l.setCell ⟨w.heap.size,k,none⟩ (.bool (true))).alloc (.cells #[.int .i64 16,.string nm,.bool H,.slice C I.length F,.slice D G.length d,.slice g args.length e,.int .i64 J] 38)=aG at *
    go_loopw [8] (fun Y wr=>∃i:Nat,i<=args.length/\Y = .int .i64 i/\Hid (qR wr w.heap.size w.heap.size (id+1) (fun j=>if j=k then m && dB T (args.take i) else(decide (j<k) && (numAt T j).1)))/\Hid (wr.heap[l.heap.size]? = some (.cells #[.int .i64 16,.string nm,.bool H,.slice C I.length F,.slice D G.length d,.slice g args.length e,.int .i64 J] 38 (0,0)))/\Hid (Below w.heap.size w wr)) (fun Y _=>args.length - (intOf Y).toNat)
    case atStart=>exact⟨0,aN,rfl,am.o,an.o,ak.o⟩
    case round=>
     obtain ⟨i,a7,rfl,n,ad,Q⟩:=hrel;have aE:wr.cell? ⟨l.heap.size,5,none⟩=some (.slice g args.length e):=E ad.o 5;by_cases R:i<args.length
     case neg=>
      obtain rfl:i=args.length:=by omega
      have al:=aT (n.o.congr (f':=fun j=>decide (j<k+1) && (numAt T j).1) fun j _=>by
       by_cases e:j=k
       ·rw [if_pos e,fL aA,e,az.o];simp
       ·rw [if_neg e];by_cases h:j<k
        ·rw [bV h,bV (by omega)]
        ·rw [aR h,aR (by omega)])
      go_wp2
      go_roundw
      case rel=>exact⟨k+1,by omega,by go_num,al.o,Q.o⟩
      case measure=>first | (simp [intOf];done) | (simp [intOf];omega)
     case pos=>
      have ay:(i:Int)<args.length:=by omega
      have U:=aT (rE (T:=T) R);obtain ⟨aa,ao⟩:=aw.o (nth args i) (cB R);obtain ⟨j,af⟩:=fK aa;have ap:j<k:=by omega
      have a8:(j:Int)<id+1:=by omega
      obtain ⟨b2,aD,rfl,aq⟩:=(a1.o.below Q.o aA).at i R;rw [af] at aq U;have y1:=n.o.cell (j:=k) (by omega);rw [if_pos rfl] at y1;have y2:=n.o.cell (j:=j) (by omega);rw [if_neg (by omega),bV ap,eT] at y2;have a2:=n.o.frz k;have s:=fun v=>aT (Q.o.setCell (p:=⟨w.heap.size,k,none⟩) aA v)
      have y:=fun v=>aT (show(wr.setCell ⟨w.heap.size,k,none⟩ v).heap[l.heap.size]? = _ from(dZ _ _ _ _ (by simp;omega)).trans ad.o)
      have x:=fun v=>aT (n.o.set (j:=k) v)
      clear aa ao af;generalize A:(m && dB T (args.take i))=ar at *;cases ar
      case false=>
       have L:=aT ((x false).o.congr (f':=fun j=>if j=k then m && dB T (args.take (i+1)) else(decide (j<k) && (numAt T j).1)) fun V _=>by
        by_cases e:V=k
        ·rw [if_pos e,if_pos e,U.o,<-qU,A];rfl
        ·rw [if_neg e,if_neg e,if_neg e])
       have K:=s (.bool false);have O:=y (.bool false);clear x s y A;go_wp2
       go_roundw
       case rel=>exact⟨i+1,by omega,by go_num,L.o,O.o,K.o⟩
       case measure=>first | (simp [intOf];done) | (simp [intOf];omega)
      case true=>
       have L:=aT ((x (numAt T j).1).o.congr (f':=fun j=>if j=k then m && dB T (args.take (i+1)) else(decide (j<k) && (numAt T j).1)) fun V _=>by
        by_cases e:V=k
        ·rw [if_pos e,if_pos e,U.o,<-qU,A];rfl
        ·rw [if_neg e,if_neg e,if_neg e])
       have K:=s (.bool (numAt T j).1);have O:=y (.bool (numAt T j).1);clear x s y A;generalize (numAt T j).1=aH at *;go_wp2
       go_roundw
       case rel=>exact⟨i+1,by omega,by go_num,L.o,O.o,K.o⟩
       case measure=>first | (simp [intOf];done) | (simp [intOf];omega)
   have bt:decide (op=16)=false:=aR a5;have be:(op == 16)=false:=by simpa using a5
   by_cases a4:op=14
   case pos=>
    subst a4;have aQ:(((args.length:Nat):Int) == 1)=decide (args.length=1):=by
     by_cases h:args.length=1
     ·rw [h];rfl
     ·rw [aR h];simp;omega
    have ae:=aT (show m=((args.length:Int) == 1) from by rw [a0.o,aQ];rfl);clear aQ;have am:=aT ((ah (((args.length:Int) == 1))).o.congr (f':=fun j=>if j=k then m && dB T (args.take 0) else(decide (j<k) && (numAt T j).1)) fun j _=>by
     by_cases e:j=k
     ·rw [if_pos e,if_pos e,ae.o];simp [dB]
     ·rw [if_neg e,if_neg e])
    have ak:=ag (.bool (((args.length:Int) == 1)));have an:=ai (.bool (((args.length:Int) == 1)));clear ah ag ai ae;go_wp2;generalize (l.setCell ⟨w.heap.size,k,none⟩ (.bool (((args.length:Int) == 1)))).alloc (.cells #[.int .i64 14,.string nm,.bool H,.slice C I.length F,.slice D G.length d,.slice g args.length e,.int .i64 J] 38)=aG at *
    go_loopw [8] (fun Y wr=>∃i:Nat,i<=args.length/\Y = .int .i64 i/\Hid (qR wr w.heap.size w.heap.size (id+1) (fun j=>if j=k then m && dB T (args.take i) else(decide (j<k) && (numAt T j).1)))/\Hid (wr.heap[l.heap.size]? = some (.cells #[.int .i64 14,.string nm,.bool H,.slice C I.length F,.slice D G.length d,.slice g args.length e,.int .i64 J] 38 (0,0)))/\Hid (Below w.heap.size w wr)) (fun Y _=>args.length - (intOf Y).toNat)
    case atStart=>exact⟨0,aN,rfl,am.o,an.o,ak.o⟩
    case round=>
     obtain ⟨i,a7,rfl,n,ad,Q⟩:=hrel;have aE:wr.cell? ⟨l.heap.size,5,none⟩=some (.slice g args.length e):=E ad.o 5;by_cases R:i<args.length
     case neg=>
      obtain rfl:i=args.length:=by omega
      have al:=aT (n.o.congr (f':=fun j=>decide (j<k+1) && (numAt T j).1) fun j _=>by
       by_cases e:j=k
       ·rw [if_pos e,fL aA,e,az.o];simp
       ·rw [if_neg e];by_cases h:j<k
        ·rw [bV h,bV (by omega)]
        ·rw [aR h,aR (by omega)])
      go_wp2
      go_roundw
      case rel=>exact⟨k+1,by omega,by go_num,al.o,Q.o⟩
      case measure=>first | (simp [intOf];done) | (simp [intOf];omega)
     case pos=>
      have ay:(i:Int)<args.length:=by omega
      have U:=aT (rE (T:=T) R);obtain ⟨aa,ao⟩:=aw.o (nth args i) (cB R);obtain ⟨j,af⟩:=fK aa;have ap:j<k:=by omega
      have a8:(j:Int)<id+1:=by omega
      obtain ⟨b2,aD,rfl,aq⟩:=(a1.o.below Q.o aA).at i R;rw [af] at aq U;have y1:=n.o.cell (j:=k) (by omega);rw [if_pos rfl] at y1;have y2:=n.o.cell (j:=j) (by omega);rw [if_neg (by omega),bV ap,eT] at y2;have a2:=n.o.frz k;have s:=fun v=>aT (Q.o.setCell (p:=⟨w.heap.size,k,none⟩) aA v)
      have y:=fun v=>aT (show(wr.setCell ⟨w.heap.size,k,none⟩ v).heap[l.heap.size]? = _ from(dZ _ _ _ _ (by simp;omega)).trans ad.o)
      have x:=fun v=>aT (n.o.set (j:=k) v)
      clear aa ao af;generalize A:(m && dB T (args.take i))=ar at *;cases ar
      case false=>
       have L:=aT ((x false).o.congr (f':=fun j=>if j=k then m && dB T (args.take (i+1)) else(decide (j<k) && (numAt T j).1)) fun V _=>by
        by_cases e:V=k
        ·rw [if_pos e,if_pos e,U.o,<-qU,A];rfl
        ·rw [if_neg e,if_neg e,if_neg e])
       have K:=s (.bool false);have O:=y (.bool false);clear x s y A;go_wp2
       go_roundw
       case rel=>exact⟨i+1,by omega,by go_num,L.o,O.o,K.o⟩
       case measure=>first | (simp [intOf];done) | (simp [intOf];omega)
      case true=>
       have L:=aT ((x (numAt T j).1).o.congr (f':=fun j=>if j=k then m && dB T (args.take (i+1)) else(decide (j<k) && (numAt T j).1)) fun V _=>by
        by_cases e:V=k
        ·rw [if_pos e,if_pos e,U.o,<-qU,A];rfl
        ·rw [if_neg e,if_neg e,if_neg e])
       have K:=s (.bool (numAt T j).1);have O:=y (.bool (numAt T j).1);clear x s y A;generalize (numAt T j).1=aH at *;go_wp2
       go_roundw
       case rel=>exact⟨i+1,by omega,by go_num,L.o,O.o,K.o⟩
       case measure=>first | (simp [intOf];done) | (simp [intOf];omega)
   have bs:decide (op=14)=false:=aR a4;have bd:(op == 14)=false:=by simpa using a4
   have ae:=aT (show m=false from by rw [a0.o,bc,be,bd];rfl);have am:=aT ((ah (false)).o.congr (f':=fun j=>if j=k then m && dB T (args.take 0) else(decide (j<k) && (numAt T j).1)) fun j _=>by
    by_cases e:j=k
    ·rw [if_pos e,if_pos e,ae.o];simp [dB]
    ·rw [if_neg e,if_neg e])
   have ak:=ag (.bool (false));have an:=ai (.bool (false));clear ah ag ai ae;go_wp2;generalize (l.setCell ⟨w.heap.size,k,none⟩ (.bool (false))).alloc (.cells #[.int .i64 op,.string nm,.bool H,.slice C I.length F,.slice D G.length d,.slice g args.length e,.int .i64 J] 38)=aG at *
   go_loopw [8] (fun Y wr=>∃i:Nat,i<=args.length/\Y = .int .i64 i/\Hid (qR wr w.heap.size w.heap.size (id+1) (fun j=>if j=k then m && dB T (args.take i) else(decide (j<k) && (numAt T j).1)))/\Hid (wr.heap[l.heap.size]? = some (.cells #[.int .i64 op,.string nm,.bool H,.slice C I.length F,.slice D G.length d,.slice g args.length e,.int .i64 J] 38 (0,0)))/\Hid (Below w.heap.size w wr)) (fun Y _=>args.length - (intOf Y).toNat)
   case atStart=>exact⟨0,aN,rfl,am.o,an.o,ak.o⟩
   case round=>
    obtain ⟨i,a7,rfl,n,ad,Q⟩:=hrel;have aE:wr.cell? ⟨l.heap.size,5,none⟩=some (.slice g args.length e):=E ad.o 5;by_cases R:i<args.length
    case neg=>
     obtain rfl:i=args.length:=by omega
     have al:=aT (n.o.congr (f':=fun j=>decide (j<k+1) && (numAt T j).1) fun j _=>by
      by_cases e:j=k
      ·rw [if_pos e,fL aA,e,az.o];simp
      ·rw [if_neg e];by_cases h:j<k
       ·rw [bV h,bV (by omega)]
       ·rw [aR h,aR (by omega)])
     go_wp2
     go_roundw
     case rel=>exact⟨k+1,by omega,by go_num,al.o,Q.o⟩
     case measure=>first | (simp [intOf];done) | (simp [intOf];omega)
    case pos=>
     have ay:(i:Int)<args.length:=by omega
     have U:=aT (rE (T:=T) R);obtain ⟨aa,ao⟩:=aw.o (nth args i) (cB R);obtain ⟨j,af⟩:=fK aa;have ap:j<k:=by omega
     have a8:(j:Int)<id+1:=by omega
     obtain ⟨b2,aD,rfl,aq⟩:=(a1.o.below Q.o aA).at i R;rw [af] at aq U;have y1:=n.o.cell (j:=k) (by omega);rw [if_pos rfl] at y1;have y2:=n.o.cell (j:=j) (by omega);rw [if_neg (by omega),bV ap,eT] at y2;have a2:=n.o.frz k;have s:=fun v=>aT (Q.o.setCell (p:=⟨w.heap.size,k,none⟩) aA v)
     have y:=fun v=>aT (show(wr.setCell ⟨w.heap.size,k,none⟩ v).heap[l.heap.size]? = _ from(dZ _ _ _ _ (by simp;omega)).trans ad.o)
     have x:=fun v=>aT (n.o.set (j:=k) v)
     clear aa ao af;generalize A:(m && dB T (args.take i))=ar at *;cases ar
     case false=>
      have L:=aT ((x false).o.congr (f':=fun j=>if j=k then m && dB T (args.take (i+1)) else(decide (j<k) && (numAt T j).1)) fun V _=>by
       by_cases e:V=k
       ·rw [if_pos e,if_pos e,U.o,<-qU,A];rfl
       ·rw [if_neg e,if_neg e,if_neg e])
      have K:=s (.bool false);have O:=y (.bool false);clear x s y A;go_wp2
      go_roundw
      case rel=>exact⟨i+1,by omega,by go_num,L.o,O.o,K.o⟩
      case measure=>first | (simp [intOf];done) | (simp [intOf];omega)
     case true=>
      have L:=aT ((x (numAt T j).1).o.congr (f':=fun j=>if j=k then m && dB T (args.take (i+1)) else(decide (j<k) && (numAt T j).1)) fun V _=>by
       by_cases e:V=k
       ·rw [if_pos e,if_pos e,U.o,<-qU,A];rfl
       ·rw [if_neg e,if_neg e,if_neg e])
      have K:=s (.bool (numAt T j).1);have O:=y (.bool (numAt T j).1);clear x s y A;generalize (numAt T j).1=aH at *;go_wp2
      go_roundw
      case rel=>exact⟨i+1,by omega,by go_num,L.o,O.o,K.o⟩
      case measure=>first | (simp [intOf];done) | (simp [intOf];omega)
structure qL (X:Nat->Prop) (Bq q r:Nat) (T:aC) (a:Option Addr) (n c:Nat) (xs:List Int) (w:World):Prop where
 h:RRd r T.nodes w
 cq:w.cell? ⟨r,0,none⟩=some (.pointer (some ⟨q,0,none⟩))
 sq:kC X Bq q T.S w
 hx:jQ w a n xs
 hn:n<=64
 hi:InT T xs
 hs:wV T.S
 nu:rS T
 ord:mD T
 le:T.nodes.length<=16384
 sn:SmN T
def aX (T:aC) (op:Int) (nm:ByteArray) (xs:List Int) (w:World) (e:Ending) (w':World):Prop:=∃s,e = .returned (.tuple #[.int .i64 s,.bool (aD T op nm xs).2])/\((aD T op nm xs).2=true->s=(aD T op nm xs).1)/\Below w.heap.size w w'
theorem aX.of {T:aC} {op:Int} {nm:ByteArray} {xs:List Int} {w w':World} {s:Int} {b:Bool} (h:aD T op nm xs=(s,b)) (i:Below w.heap.size w w'):aX T op nm xs w (.returned (.tuple #[.int .i64 s,.bool b])) w':=⟨s,by rw [h],fun _=>by rw [h],i⟩
theorem aX.of2 {T:aC} {op:Int} {nm:ByteArray} {xs:List Int} {w w':World} {s:Int} {b b2:Bool} (h:aD T op nm xs=(s,b)) (e:b2=b) (i:Below w.heap.size w w'):aX T op nm xs w (.returned (.tuple #[.int .i64 s,.bool b2])) w':=by subst e;exact .of h i
theorem aX.no {T:aC} {op:Int} {nm:ByteArray} {xs:List Int} {w w':World} {s:Int} (h:(aD T op nm xs).2=false) (i:Below w.heap.size w w'):aX T op nm xs w (.returned (.tuple #[.int .i64 s,.bool false])) w':=⟨s,by rw [h],fun e=>(by rw [h] at e;cases e),i⟩
theorem RRd.len {r:Nat} {M:List aZ} {w:World} (h:RRd r M w):∃i j,w.cell? ⟨r,1,none⟩=some (.slice i M.length j)/\bT uO (fun _=>True) w i M.length M:=by
 obtain ⟨m,i,j,f,k,l⟩:=h;exact⟨i,j,E k 1,l⟩
theorem RRd.sortCell {r:Nat} {T:aC} {w:World} (h:RRd r T.nodes w) {k:Nat} (n:k<T.nodes.length):∃b o i,w.cell? ⟨r,1,none⟩=some (.slice (some ⟨b,o,none⟩) T.nodes.length i)/\w.cell? ⟨b,o+k * 7+6,none⟩=some (.int .i64 (nodeAt T k).sort):=by
 obtain ⟨s,i,j,l⟩:=h.len;obtain ⟨b,o,_,_,_,_,_,_,rfl,_,m⟩:=l.nodeAt (cR n);exact⟨b,o,i,j,m 6 _ rfl⟩
variable {X : Nat -> Prop} {Bq q r : Nat}
theorem aNl (T:aC) (nm:ByteArray) (a:Option Addr) (n c:Nat) (xs:List Int) (w:World) (h:qL X Bq q r T a n c xs w) :
  Calls prog 117 #[.pointer (some ⟨r,0,none⟩),.int .i64 1,.string nm,.slice a n c] w fun e w'=>aX T 1 nm xs w e w':=by
 have j:=Z h.hx.len;have i:=@Z (aD T 1 nm xs=(0,decide (n=0))) (by show(_,_)=_;rw [j.o]);have k:=h.hn;clear h;go_enter func117,ntmps117
 go_wp2;go_ret2;exact aX.of2 (b2:=decide ((n:Int)=0)) i.o (by simp) (aO _ _)
theorem aNm (T:aC) (nm:ByteArray) (a:Option Addr) (n c:Nat) (xs:List Int) (w:World) (h:qL X Bq q r T a n c xs w) :
  Calls prog 117 #[.pointer (some ⟨r,0,none⟩),.int .i64 2,.string nm,.slice a n c] w fun e w'=>aX T 2 nm xs w e w':=by
 have j:=Z h.hx.len;have i:=@Z (aD T 2 nm xs=(0,decide (n=0))) (by show(_,_)=_;rw [j.o]);have k:=h.hn;clear h;go_enter func117,ntmps117
 go_wp2;go_ret2;exact aX.of2 (b2:=decide ((n:Int)=0)) i.o (by simp) (aO _ _)
theorem aKz (T:aC) (nm:ByteArray) (a:Option Addr) (n c:Nat) (xs:List Int) (w:World) (h:qL X Bq q r T a n c xs w) :
  Calls prog 117 #[.pointer (some ⟨r,0,none⟩),.int .i64 11,.string nm,.slice a n c] w fun e w'=>aX T 11 nm xs w e w':=by
 have j:=Z h.hx.len;have i:=@Z (aD T 11 nm xs=(1,decide (n=0))) (by show(_,_)=_;rw [j.o]);have k:=h.hn;clear h;go_enter func117,ntmps117
 go_wp2;go_ret2;exact aX.of2 (b2:=decide ((n:Int)=0)) i.o (by simp) (aO _ _)
theorem aNn (T:aC) (nm:ByteArray) (a:Option Addr) (n c:Nat) (xs:List Int) (w:World) (i:qL X Bq q r T a n c xs w) :
  Calls prog 117 #[.pointer (some ⟨r,0,none⟩),.int .i64 3,.string nm,.slice a n c] w fun e w'=>aX T 3 nm xs w e w':=by
 have x:=Z i.hx.len;have s:=Z (iY r T a n c xs 0 w i.h i.hx (by have:=i.hn;omega) i.hi);have hd:=@Z (aD T 3 nm xs=(0,decide (n=1) && eM T xs 0)) (by show(_,_)=_;rw [x.o]);have C:=i.hn;clear i;by_cases j:n=1
 ·have k:=@Z (aD T 3 nm xs=(0,eM T xs 0)) (by rw [hd.o,bV j,eT]);subst j;clear hd;go_enter func117,ntmps117
  go_wp2_with fail
  refine s.o.mono ?_;rintro e z ⟨rfl,y,l⟩;have v:=Z (show Below w.heap.size w z from by rw [l];exact(aO _ _).drewN y);clear l;go_wp2;go_ret2;exact aX.of k.o v.o
 ·have k:=@Z (aD T 3 nm xs=(0,false)) (by rw [hd.o,aR j,kR]);have m:¬(n:Int)=1:=by omega
  have A:decide ((n:Int)=1)=false:=by simpa using m
  clear hd;go_enter func117,ntmps117
  go_wp2;go_ret2;exact aX.of k.o (aO _ _)
theorem aNo (T:aC) (nm:ByteArray) (a:Option Addr) (n c:Nat) (xs:List Int) (w:World) (i:qL X Bq q r T a n c xs w) :
  Calls prog 117 #[.pointer (some ⟨r,0,none⟩),.int .i64 4,.string nm,.slice a n c] w fun e w'=>aX T 4 nm xs w e w':=by
 have x:=Z i.hx.len;have s:=Z (iY r T a n c xs 0 w i.h i.hx (by have:=i.hn;omega) i.hi);have hd:=@Z (aD T 4 nm xs=(0,decide (2<=n) && eM T xs 0)) (by show(_,_)=_;rw [x.o]);have C:=i.hn;clear i;by_cases k:2<=n
 ·have j:=@Z (aD T 4 nm xs=(0,eM T xs 0)) (by rw [hd.o,bV k,eT]);have l:(2:Int)<=n:=by omega
  clear hd;go_enter func117,ntmps117
  go_wp2_with fail
  refine s.o.mono ?_;rintro e z ⟨rfl,y,m⟩;have v:=Z (show Below w.heap.size w z from by rw [m];exact(aO _ _).drewN y);clear m;go_wp2;go_ret2;exact aX.of j.o v.o
 ·have j:=@Z (aD T 4 nm xs=(0,false)) (by rw [hd.o,aR k,kR]);have l:¬(2:Int)<=n:=by omega
  have A:decide ((2:Int)<=n)=false:=by simpa using l
  clear hd;go_enter func117,ntmps117
  go_wp2;go_ret2;exact aX.of j.o (aO _ _)
theorem aNp (T:aC) (nm:ByteArray) (a:Option Addr) (n c:Nat) (xs:List Int) (w:World) (i:qL X Bq q r T a n c xs w) :
  Calls prog 117 #[.pointer (some ⟨r,0,none⟩),.int .i64 5,.string nm,.slice a n c] w fun e w'=>aX T 5 nm xs w e w':=by
 have x:=Z i.hx.len;have s:=Z (iY r T a n c xs 0 w i.h i.hx (by have:=i.hn;omega) i.hi);have hd:=@Z (aD T 5 nm xs=(0,decide (2<=n) && eM T xs 0)) (by show(_,_)=_;rw [x.o]);have C:=i.hn;clear i;by_cases k:2<=n
 ·have j:=@Z (aD T 5 nm xs=(0,eM T xs 0)) (by rw [hd.o,bV k,eT]);have l:(2:Int)<=n:=by omega
  clear hd;go_enter func117,ntmps117
  go_wp2_with fail
  refine s.o.mono ?_;rintro e z ⟨rfl,y,m⟩;have v:=Z (show Below w.heap.size w z from by rw [m];exact(aO _ _).drewN y);clear m;go_wp2;go_ret2;exact aX.of j.o v.o
 ·have j:=@Z (aD T 5 nm xs=(0,false)) (by rw [hd.o,aR k,kR]);have l:¬(2:Int)<=n:=by omega
  have A:decide ((2:Int)<=n)=false:=by simpa using l
  clear hd;go_enter func117,ntmps117
  go_wp2;go_ret2;exact aX.of j.o (aO _ _)
theorem aNq (T:aC) (nm:ByteArray) (a:Option Addr) (n c:Nat) (xs:List Int) (w:World) (i:qL X Bq q r T a n c xs w) :
  Calls prog 117 #[.pointer (some ⟨r,0,none⟩),.int .i64 6,.string nm,.slice a n c] w fun e w'=>aX T 6 nm xs w e w':=by
 have x:=Z i.hx.len;have s:=Z (iY r T a n c xs 0 w i.h i.hx (by have:=i.hn;omega) i.hi);have hd:=@Z (aD T 6 nm xs=(0,decide (2<=n) && eM T xs 0)) (by show(_,_)=_;rw [x.o]);have C:=i.hn;clear i;by_cases k:2<=n
 ·have j:=@Z (aD T 6 nm xs=(0,eM T xs 0)) (by rw [hd.o,bV k,eT]);have l:(2:Int)<=n:=by omega
  clear hd;go_enter func117,ntmps117
  go_wp2_with fail
  refine s.o.mono ?_;rintro e z ⟨rfl,y,m⟩;have v:=Z (show Below w.heap.size w z from by rw [m];exact(aO _ _).drewN y);clear m;go_wp2;go_ret2;exact aX.of j.o v.o
 ·have j:=@Z (aD T 6 nm xs=(0,false)) (by rw [hd.o,aR k,kR]);have l:¬(2:Int)<=n:=by omega
  have A:decide ((2:Int)<=n)=false:=by simpa using l
  clear hd;go_enter func117,ntmps117
  go_wp2;go_ret2;exact aX.of j.o (aO _ _)
theorem aNr (T:aC) (nm:ByteArray) (a:Option Addr) (n c:Nat) (xs:List Int) (w:World) (i:qL X Bq q r T a n c xs w) :
  Calls prog 117 #[.pointer (some ⟨r,0,none⟩),.int .i64 7,.string nm,.slice a n c] w fun e w'=>aX T 7 nm xs w e w':=by
 have x:=Z i.hx.len;have s:=Z (iY r T a n c xs 0 w i.h i.hx (by have:=i.hn;omega) i.hi);have hd:=@Z (aD T 7 nm xs=(0,decide (2<=n) && eM T xs 0)) (by show(_,_)=_;rw [x.o]);have C:=i.hn;clear i;by_cases k:2<=n
 ·have j:=@Z (aD T 7 nm xs=(0,eM T xs 0)) (by rw [hd.o,bV k,eT]);have l:(2:Int)<=n:=by omega
  clear hd;go_enter func117,ntmps117
  go_wp2_with fail
  refine s.o.mono ?_;rintro e z ⟨rfl,y,m⟩;have v:=Z (show Below w.heap.size w z from by rw [m];exact(aO _ _).drewN y);clear m;go_wp2;go_ret2;exact aX.of j.o v.o
 ·have j:=@Z (aD T 7 nm xs=(0,false)) (by rw [hd.o,aR k,kR]);have l:¬(2:Int)<=n:=by omega
  have A:decide ((2:Int)<=n)=false:=by simpa using l
  clear hd;go_enter func117,ntmps117
  go_wp2;go_ret2;exact aX.of j.o (aO _ _)
theorem aK0 (T:aC) (nm:ByteArray) (a:Option Addr) (n c:Nat) (xs:List Int) (w:World) (i:qL X Bq q r T a n c xs w) :
  Calls prog 117 #[.pointer (some ⟨r,0,none⟩),.int .i64 17,.string nm,.slice a n c] w fun e w'=>aX T 17 nm xs w e w':=by
 have y:=Z i.hx.len;have v:=Z (iY r T a n c xs 1 w i.h i.hx (by have:=i.hn;omega) i.hi);have hd:=@Z (aD T 17 nm xs=(0,decide (2<=n) && eM T xs 1)) (by
  rw [<-y.o];show(_,bP T 17 xs)=_;unfold bP jW;by_cases m:2<=xs.length
  ·rw [if_neg (by simp;omega),bV m,eT];cases eM T xs 1 <;> rfl
  ·rw [if_pos (by simp;omega),aR m];rfl)
 have D:=i.hn;clear i;by_cases k:2<=n
 ·have j:=@Z (aD T 17 nm xs=(0,eM T xs 1)) (by rw [hd.o,bV k,eT]);have l:(2:Int)<=n:=by omega
  clear hd;go_enter func117,ntmps117
  go_wp2_with fail
  refine v.o.mono ?_;rintro e A ⟨rfl,z,s⟩;have x:=Z (show Below w.heap.size w A from by rw [s];exact(aO _ _).drewN z);clear s;go_wp2;go_ret2;exact aX.of j.o x.o
 ·have j:=@Z (aD T 17 nm xs=(0,false)) (by rw [hd.o,aR k,kR]);have l:¬(2:Int)<=n:=by omega
  have C:decide ((2:Int)<=n)=false:=by simpa using l
  clear hd;go_enter func117,ntmps117
  go_wp2;go_ret2;exact aX.of j.o (aO _ _)
theorem aK1 (T:aC) (nm:ByteArray) (a:Option Addr) (n c:Nat) (xs:List Int) (w:World) (i:qL X Bq q r T a n c xs w) :
  Calls prog 117 #[.pointer (some ⟨r,0,none⟩),.int .i64 18,.string nm,.slice a n c] w fun e w'=>aX T 18 nm xs w e w':=by
 have y:=Z i.hx.len;have v:=Z (iY r T a n c xs 1 w i.h i.hx (by have:=i.hn;omega) i.hi);have hd:=@Z (aD T 18 nm xs=(0,decide (2<=n) && eM T xs 1)) (by
  rw [<-y.o];show(_,bP T 18 xs)=_;unfold bP jW;by_cases m:2<=xs.length
  ·rw [if_neg (by simp;omega),bV m,eT];cases eM T xs 1 <;> rfl
  ·rw [if_pos (by simp;omega),aR m];rfl)
 have D:=i.hn;clear i;by_cases k:2<=n
 ·have j:=@Z (aD T 18 nm xs=(0,eM T xs 1)) (by rw [hd.o,bV k,eT]);have l:(2:Int)<=n:=by omega
  clear hd;go_enter func117,ntmps117
  go_wp2_with fail
  refine v.o.mono ?_;rintro e A ⟨rfl,z,s⟩;have x:=Z (show Below w.heap.size w A from by rw [s];exact(aO _ _).drewN z);clear s;go_wp2;go_ret2;exact aX.of j.o x.o
 ·have j:=@Z (aD T 18 nm xs=(0,false)) (by rw [hd.o,aR k,kR]);have l:¬(2:Int)<=n:=by omega
  have C:decide ((2:Int)<=n)=false:=by simpa using l
  clear hd;go_enter func117,ntmps117
  go_wp2;go_ret2;exact aX.of j.o (aO _ _)
theorem aK2 (T:aC) (nm:ByteArray) (a:Option Addr) (n c:Nat) (xs:List Int) (w:World) (i:qL X Bq q r T a n c xs w) :
  Calls prog 117 #[.pointer (some ⟨r,0,none⟩),.int .i64 19,.string nm,.slice a n c] w fun e w'=>aX T 19 nm xs w e w':=by
 have y:=Z i.hx.len;have v:=Z (iY r T a n c xs 1 w i.h i.hx (by have:=i.hn;omega) i.hi);have hd:=@Z (aD T 19 nm xs=(0,decide (2<=n) && eM T xs 1)) (by
  rw [<-y.o];show(_,bP T 19 xs)=_;unfold bP jW;by_cases m:2<=xs.length
  ·rw [if_neg (by simp;omega),bV m,eT];cases eM T xs 1 <;> rfl
  ·rw [if_pos (by simp;omega),aR m];rfl)
 have D:=i.hn;clear i;by_cases k:2<=n
 ·have j:=@Z (aD T 19 nm xs=(0,eM T xs 1)) (by rw [hd.o,bV k,eT]);have l:(2:Int)<=n:=by omega
  clear hd;go_enter func117,ntmps117
  go_wp2_with fail
  refine v.o.mono ?_;rintro e A ⟨rfl,z,s⟩;have x:=Z (show Below w.heap.size w A from by rw [s];exact(aO _ _).drewN z);clear s;go_wp2;go_ret2;exact aX.of j.o x.o
 ·have j:=@Z (aD T 19 nm xs=(0,false)) (by rw [hd.o,aR k,kR]);have l:¬(2:Int)<=n:=by omega
  have C:decide ((2:Int)<=n)=false:=by simpa using l
  clear hd;go_enter func117,ntmps117
  go_wp2;go_ret2;exact aX.of j.o (aO _ _)
theorem aK3 (T:aC) (nm:ByteArray) (a:Option Addr) (n c:Nat) (xs:List Int) (w:World) (i:qL X Bq q r T a n c xs w) :
  Calls prog 117 #[.pointer (some ⟨r,0,none⟩),.int .i64 20,.string nm,.slice a n c] w fun e w'=>aX T 20 nm xs w e w':=by
 have y:=Z i.hx.len;have v:=Z (iY r T a n c xs 1 w i.h i.hx (by have:=i.hn;omega) i.hi);have hd:=@Z (aD T 20 nm xs=(0,decide (2<=n) && eM T xs 1)) (by
  rw [<-y.o];show(_,bP T 20 xs)=_;unfold bP jW;by_cases m:2<=xs.length
  ·rw [if_neg (by simp;omega),bV m,eT];cases eM T xs 1 <;> rfl
  ·rw [if_pos (by simp;omega),aR m];rfl)
 have D:=i.hn;clear i;by_cases k:2<=n
 ·have j:=@Z (aD T 20 nm xs=(0,eM T xs 1)) (by rw [hd.o,bV k,eT]);have l:(2:Int)<=n:=by omega
  clear hd;go_enter func117,ntmps117
  go_wp2_with fail
  refine v.o.mono ?_;rintro e A ⟨rfl,z,s⟩;have x:=Z (show Below w.heap.size w A from by rw [s];exact(aO _ _).drewN z);clear s;go_wp2;go_ret2;exact aX.of j.o x.o
 ·have j:=@Z (aD T 20 nm xs=(0,false)) (by rw [hd.o,aR k,kR]);have l:¬(2:Int)<=n:=by omega
  have C:decide ((2:Int)<=n)=false:=by simpa using l
  clear hd;go_enter func117,ntmps117
  go_wp2;go_ret2;exact aX.of j.o (aO _ _)
theorem aK4 (T:aC) (nm:ByteArray) (a:Option Addr) (n c:Nat) (xs:List Int) (w:World) (i:qL X Bq q r T a n c xs w) :
  Calls prog 117 #[.pointer (some ⟨r,0,none⟩),.int .i64 13,.string nm,.slice a n c] w fun e w'=>aX T 13 nm xs w e w':=by
 have y:=Z i.hx.len;have v:=Z (iY r T a n c xs 1 w i.h i.hx (by have:=i.hn;omega) i.hi);have hd:=@Z (aD T 13 nm xs=(1,decide (2<=n) && eM T xs 1)) (by
  rw [<-y.o];show(_,bP T 13 xs)=_;unfold bP jW;by_cases m:2<=xs.length
  ·rw [if_neg (by simp;omega),bV m,eT];cases eM T xs 1 <;> rfl
  ·rw [if_pos (by simp;omega),aR m];rfl)
 have D:=i.hn;clear i;by_cases k:2<=n
 ·have j:=@Z (aD T 13 nm xs=(1,eM T xs 1)) (by rw [hd.o,bV k,eT]);have l:(2:Int)<=n:=by omega
  clear hd;go_enter func117,ntmps117
  go_wp2_with fail
  refine v.o.mono ?_;rintro e A ⟨rfl,z,s⟩;have x:=Z (show Below w.heap.size w A from by rw [s];exact(aO _ _).drewN z);clear s;go_wp2;go_ret2;exact aX.of j.o x.o
 ·have j:=@Z (aD T 13 nm xs=(1,false)) (by rw [hd.o,aR k,kR]);have l:¬(2:Int)<=n:=by omega
  have C:decide ((2:Int)<=n)=false:=by simpa using l
  clear hd;go_enter func117,ntmps117
  go_wp2;go_ret2;exact aX.of j.o (aO _ _)
theorem aK5 (T:aC) (nm:ByteArray) (a:Option Addr) (n c:Nat) (xs:List Int) (w:World) (i:qL X Bq q r T a n c xs w) :
  Calls prog 117 #[.pointer (some ⟨r,0,none⟩),.int .i64 14,.string nm,.slice a n c] w fun e w'=>aX T 14 nm xs w e w':=by
 have y:=Z i.hx.len;have v:=Z (iY r T a n c xs 1 w i.h i.hx (by have:=i.hn;omega) i.hi);have hd:=@Z (aD T 14 nm xs=(1,decide (1<=n) && eM T xs 1)) (by
  rw [<-y.o];show(_,bP T 14 xs)=_;unfold bP jW;by_cases m:1<=xs.length
  ·rw [if_neg (by simp;omega),bV m,eT];cases eM T xs 1 <;> rfl
  ·rw [if_pos (by simp;omega),aR m];rfl)
 have D:=i.hn;clear i;by_cases k:1<=n
 ·have j:=@Z (aD T 14 nm xs=(1,eM T xs 1)) (by rw [hd.o,bV k,eT]);have l:(1:Int)<=n:=by omega
  clear hd;go_enter func117,ntmps117
  go_wp2_with fail
  refine v.o.mono ?_;rintro e A ⟨rfl,z,s⟩;have x:=Z (show Below w.heap.size w A from by rw [s];exact(aO _ _).drewN z);clear s;go_wp2;go_ret2;exact aX.of j.o x.o
 ·have j:=@Z (aD T 14 nm xs=(1,false)) (by rw [hd.o,aR k,kR]);have l:¬(1:Int)<=n:=by omega
  have C:decide ((1:Int)<=n)=false:=by simpa using l
  clear hd;go_enter func117,ntmps117
  go_wp2;go_ret2;exact aX.of j.o (aO _ _)
theorem aNs (T:aC) (nm:ByteArray) (a:Option Addr) (n c:Nat) (xs:List Int) (w:World) (i:qL X Bq q r T a n c xs w) :
  Calls prog 117 #[.pointer (some ⟨r,0,none⟩),.int .i64 8,.string nm,.slice a n c] w fun e w'=>aX T 8 nm xs w e w':=by
 have E:=Z i.hx.len;have hd:=@Z (aD T 8 nm xs=(0,decide (2<=n) && eM T xs (nodeAt T (nth xs 0)).sort)) (by rw [<-E.o];rfl);have K:=i.hn;by_cases s:2<=n
 ·have j:=@Z (aD T 8 nm xs=(0,eM T xs (nodeAt T (nth xs 0)).sort)) (by rw [hd.o,bV s,eT]);have v:(2:Int)<=n:=by omega
  have y:=Z (fun W (x:Below w.heap.size w W)=>iY r T a n c xs (nodeAt T (nth xs 0)).sort W (i.h.all x) (i.hx.below x aA) (by omega) i.hi);obtain ⟨b,o,rfl,D⟩:=i.hx.at 0 (by omega);rw [cU] at D;obtain ⟨l,m⟩:=i.hi (nth xs 0) (cB (by rw [E.o];omega));obtain ⟨k,A⟩:=fK l;rw [A] at D m j y;have C:k<T.nodes.length:=by omega
  have I:(k:Int)<T.nodes.length:=m;have L:(0:Int)<n:=by omega
  have O:0<n:=by omega
  have J:=C;obtain ⟨F,U,G,Q,R⟩:=i.h.sortCell C;clear i hd A l;generalize (nodeAt T k).sort=z at *;go_enter func117,ntmps117
  go_wp2
  go_quiet ((go_at_call 164;exact Calls.quiet_of (y.o _ ((aO _ _).drewN _))))
  go_wp2;go_ret2;exact aX.of j.o ((aO _ _).drewN _)
 ·have j:=@Z (aD T 8 nm xs=(0,false)) (by rw [hd.o,aR s,kR]);have v:¬(2:Int)<=n:=by omega
  have H:decide ((2:Int)<=n)=false:=by simpa using v
  clear hd i;go_enter func117,ntmps117
  go_wp2
  go_quiet (fail)
  go_wp2;go_ret2;exact aX.of j.o ((aO _ _).drewN _)
theorem aNt (T:aC) (nm:ByteArray) (a:Option Addr) (n c:Nat) (xs:List Int) (w:World) (i:qL X Bq q r T a n c xs w) :
  Calls prog 117 #[.pointer (some ⟨r,0,none⟩),.int .i64 9,.string nm,.slice a n c] w fun e w'=>aX T 9 nm xs w e w':=by
 have E:=Z i.hx.len;have hd:=@Z (aD T 9 nm xs=(0,decide (2<=n) && eM T xs (nodeAt T (nth xs 0)).sort)) (by rw [<-E.o];rfl);have K:=i.hn;by_cases s:2<=n
 ·have j:=@Z (aD T 9 nm xs=(0,eM T xs (nodeAt T (nth xs 0)).sort)) (by rw [hd.o,bV s,eT]);have v:(2:Int)<=n:=by omega
  have y:=Z (fun W (x:Below w.heap.size w W)=>iY r T a n c xs (nodeAt T (nth xs 0)).sort W (i.h.all x) (i.hx.below x aA) (by omega) i.hi);obtain ⟨b,o,rfl,D⟩:=i.hx.at 0 (by omega);rw [cU] at D;obtain ⟨l,m⟩:=i.hi (nth xs 0) (cB (by rw [E.o];omega));obtain ⟨k,A⟩:=fK l;rw [A] at D m j y;have C:k<T.nodes.length:=by omega
  have I:(k:Int)<T.nodes.length:=m;have L:(0:Int)<n:=by omega
  have O:0<n:=by omega
  have J:=C;obtain ⟨F,U,G,Q,R⟩:=i.h.sortCell C;clear i hd A l;generalize (nodeAt T k).sort=z at *;go_enter func117,ntmps117
  go_wp2
  go_quiet ((go_at_call 164;exact Calls.quiet_of (y.o _ ((aO _ _).drewN _))))
  go_wp2;go_ret2;exact aX.of j.o ((aO _ _).drewN _)
 ·have j:=@Z (aD T 9 nm xs=(0,false)) (by rw [hd.o,aR s,kR]);have v:¬(2:Int)<=n:=by omega
  have H:decide ((2:Int)<=n)=false:=by simpa using v
  clear hd i;go_enter func117,ntmps117
  go_wp2
  go_quiet (fail)
  go_wp2;go_ret2;exact aX.of j.o ((aO _ _).drewN _)
variable {X : Nat -> Prop} {Bq q r : Nat}
theorem qL.idAt {T:aC} {a:Option Addr} {n c:Nat} {xs:List Int} {w:World} (h:qL X Bq q r T a n c xs w) {i:Nat} (l:i<n):∃j:Nat,nth xs i=(j:Int)/\j<T.nodes.length:=by
 obtain ⟨k,o⟩:=h.hi (nth xs i) (cB (by rw [h.hx.len];exact l));obtain ⟨j,m⟩:=fK k;exact⟨j,m,by omega⟩
theorem aK6 (T:aC) (nm:ByteArray) (a:Option Addr) (n c:Nat) (xs:List Int) (w:World) (j:qL X Bq q r T a n c xs w) :
  Calls prog 117 #[.pointer (some ⟨r,0,none⟩),.int .i64 10,.string nm,.slice a n c] w fun e w'=>aX T 10 nm xs w e w':=by
 have F:=j.hx.len;have hd:=@Z (aD T 10 nm xs=xM T xs) rfl;by_cases I:n=3
 case neg=>
  have H:=@Z (aD T 10 nm xs=(0,false)) (by rw [hd.o];unfold xM;rw [if_neg (by rw [F];intro e;exact I e.1)]);have U:¬(n:Int)=3:=by omega
  have ak:((n:Int) != 3)=true:=by simpa using U
  clear j hd F;go_enter func117,ntmps117
  go_wp2
  go_quiet (fail)
  go_wp2;go_ret2;exact aX.of H.o ((aO _ _).drewN _)
 subst I;obtain ⟨s,y,ab⟩:=j.idAt (i:=0) (by omega);obtain ⟨k,z,ad⟩:=j.idAt (i:=1) (by omega);obtain ⟨m,A,ae⟩:=j.idAt (i:=2) (by omega);obtain ⟨b,o,rfl,V⟩:=j.hx.at 0 (by omega);obtain ⟨O,af,l,Y⟩:=j.hx.at 1 (by omega);cases l;obtain ⟨O,af,l,aa⟩:=j.hx.at 2 (by omega);cases l;rw [cU,y] at V;rw [z] at Y;rw [A] at aa;obtain ⟨ah,ao,ai,m1,ap⟩:=j.h.sortCell ab;obtain ⟨Q,ag,R,v,aq⟩:=j.h.sortCell ad;rw [m1] at v;cases v;obtain ⟨Q,ag,R,v,ar⟩:=j.h.sortCell ae;rw [m1] at v;cases v;have K:xs = [(s:Int),k,m]:=by
  match xs,F with
  | [x0,x1,x2],_=>simp [nth] at y z A;rw [y,z,A]
 have E:=@Z (aD T 10 nm xs=if (nodeAt T s).sort=0/\(nodeAt T m).sort=(nodeAt T k).sort then((nodeAt T k).sort,true) else(0,false)) (by
  rw [hd.o,K];unfold xM jV;simp only [fQ,aCs,dL,cW,true_and,nth,List.getD_cons_zero,List.getD_cons_succ];rw [aEd];have:(decide (2<=0+1+1) && decide (∀x ∈ [(k:Int),(m:Int)],(nodeAt T x).sort=(nodeAt T k).sort))=true↔(nodeAt T m).sort=(nodeAt T k).sort:=by simp
  by_cases C:(nodeAt T s).sort=0
  ·by_cases D:(nodeAt T m).sort=(nodeAt T k).sort
   ·rw [if_pos ⟨C,this.2 D⟩,if_pos ⟨C,D⟩]
   ·rw [if_neg (fun e=>D (this.1 e.2)),if_neg (fun e=>D e.2)]
  ·rw [if_neg (fun e=>C e.1),if_neg (fun e=>C e.1)])
 have al:(s:Int)<T.nodes.length:=by omega
 have am:(k:Int)<T.nodes.length:=by omega
 have an:(m:Int)<T.nodes.length:=by omega
 clear j hd F y z A K;generalize (nodeAt T s).sort=L at *;generalize (nodeAt T k).sort=z1 at *;generalize (nodeAt T m).sort=z2 at *;by_cases G:L=0
 case neg=>
  have H:=@Z (aD T 10 nm xs=(0,false)) (by rw [E.o,if_neg (fun e=>G e.1)]);have aj:(L != 0)=true:=by simpa using G
  clear E;go_enter func117,ntmps117
  go_wp2
  go_quiet (fail)
  go_wp2;go_ret2;exact aX.of H.o ((aO _ _).drewN _)
 subst G;have J:(aD T 10 nm xs).2=decide (z2=z1)/\(decide (z2=z1)=true->(aD T 10 nm xs).1=z1):=by
  rw [E.o];by_cases h:z2=z1
  ·rw [if_pos ⟨rfl,h⟩,bV h];exact⟨rfl,fun _=>rfl⟩
  ·rw [if_neg (fun e=>h e.2),aR h];exact⟨rfl,fun e=>by cases e⟩
 have l:=Z J;clear J E;go_enter func117,ntmps117
 go_wp2
 go_quiet (fail)
 go_wp2
 go_quiet (fail)
 go_wp2
 go_quiet (fail)
 go_wp2;go_ret2;refine⟨z1,by rw [l.o.1];rfl,fun e=>(l.o.2 (by rw [<-l.o.1];exact e)).symm,?_⟩;exact(((aO _ _).drewN _).drewN _).drewN _
theorem aK7 (T:aC) (nm:ByteArray) (a:Option Addr) (n c:Nat) (xs:List Int) (w:World) (A:qL X Bq q r T a n c xs w) :
  Calls prog 117 #[.pointer (some ⟨r,0,none⟩),.int .i64 12,.string nm,.slice a n c] w fun e w'=>aX T 12 nm xs w e w':=by
 have hd:=@Z (aD T 12 nm xs=if (jA T.S nm).isSome/\(fM T.S nm).args.length=xs.length then(if dN T xs (fM T.S nm).args then((fM T.S nm).res,true) else(0,false)) else(0,false)) rfl;have aa:=Z A.hx.len;have ab:=Z A;have K:=Z (aF6 Bq q T.S nm w A.sq A.hs);have aH:=A.cq;have aB:=A.hn;have ae:=A.hs.a;clear A;cases G:(jA T.S nm).isSome
 case false=>
  have v:=@Z (aD T 12 nm xs=(0,false)) (by rw [hd.o,G];simp);rw [G] at K;clear G hd ae;go_enter func117,ntmps117
  go_wp2_with fail
  refine K.o.mono ?_;rintro e x ⟨m,s,rfl,D,I,J,l⟩;have H:=Z (l.alloc l.size (.cells #[.string (fM T.S nm).name,.slice m (fM T.S nm).args.length s,.int .i64 (fM T.S nm).res] 114));clear l D I J;go_wp2;go_ret2;exact aX.of v.o H.o
 case true=>
 rw [G] at K;have R:=@Z (aD T 12 nm xs=if (fM T.S nm).args.length=xs.length then(if dN T xs (fM T.S nm).args then((fM T.S nm).res,true) else(0,false)) else(0,false)) (by rw [hd.o,G];simp);clear G hd;generalize ad:fM T.S nm=F at *;have a4:F.args.length<1099511627776:=by
  rw [<-ad];unfold fM;cases ap:jA T.S nm with
  | none=>simp [qD]
  | some f=>exact ae f (mK ap)
 clear ae;by_cases U:F.args.length=n
 case neg=>
  have v:=@Z (aD T 12 nm xs=(0,false)) (by rw [R.o,aa.o,if_neg U]);have av:¬(F.args.length:Int)=n:=by omega
  have a9:((F.args.length:Int) != n)=true:=by simpa using av
  clear R;go_enter func117,ntmps117
  go_wp2_with fail
  refine K.o.mono ?_;rintro e x ⟨m,s,rfl,D,I,J,l⟩;have H:=Z (l.alloc l.size (.cells #[.string F.name,.slice m F.args.length s,.int .i64 F.res] 114));clear l D I J ad;go_wp2;go_ret2;exact aX.of v.o H.o
 case pos=>
 have am:=@Z (aD T 12 nm xs=if dN T xs F.args then(F.res,true) else(0,false)) (by rw [R.o,aa.o,if_pos U]);have af:=Z (show xs.length=F.args.length by rw [aa.o,U]);clear R;subst U;go_enter func117,ntmps117
 go_wp2_with fail
 refine K.o.mono ?_;rintro e x ⟨m,s,rfl,D,I,J,l⟩;have H:=Z (l.alloc l.size (.cells #[.string F.name,.slice m F.args.length s,.int .i64 F.res] 114));have aw:=Z (D.toI.below ((aO _ _).alloc aA (.cells #[.string F.name,.slice m F.args.length s,.int .i64 F.res] 114)) aA);have al:=Z (cC x (.cells #[.string F.name,.slice m F.args.length s,.int .i64 F.res] 114));generalize ak:x.alloc (.cells #[.string F.name,.slice m F.args.length s,.int .i64 F.res] 114)=O at *;have aE:O.heap.size=x.heap.size+1:=by rw [<-ak];simp
 have ao:O.cell? ⟨x.heap.size,1,none⟩=some (.slice m F.args.length s):=E al.o 1;clear l D I J ad;go_wp2;clear ak
 go_loopw [8,9,14] (fun az a0 i wr=>∃k:Nat,k<=F.args.length/\az = .int .i64 0/\a0 = .bool false/\i = .int .i64 k/\Hid (aAv T xs F.args k)/\Hid (Below O.heap.size O wr)) (fun _ _ i _=>F.args.length - (intOf i).toNat)
 case atStart=>exact⟨0,aN,rfl,rfl,rfl,fun j C=>absurd C (oX _),aO _ _⟩
 case round=>
  obtain ⟨k,a7,rfl,rfl,rfl,ag,Q⟩:=hrel;have L:=Z (aG H Q.o);have aj:=Z ((Q.o.block x.heap.size (by omega)).trans al.o);have ao:wr.cell? ⟨x.heap.size,1,none⟩=some (.slice m F.args.length s):=E aj.o 1;have a3:wr.cell? ⟨x.heap.size,2,none⟩=some (.int .i64 F.res):=E aj.o 2;by_cases V:k<F.args.length
  ·have au:k<xs.length:=by rw [aa.o];exact V
   have a8:(k:Int)<F.args.length:=by omega
   obtain ⟨b,o,rfl,ay⟩:=(ab.o.hx.below L.o aA).at k V;obtain ⟨b2,aM,rfl,aI⟩:=(aw.o.below Q.o aA).at k V;obtain ⟨j,C,ar⟩:=ab.o.idAt (i:=k) V;have a6:(j:Int)<T.nodes.length:=by omega
   obtain ⟨a1,aL,a2,aJ,aK⟩:=(ab.o.h.all L.o).sortCell ar;have ai:=@Z ((nodeAt T j).sort=nth F.args k->aAv T xs F.args (k+1)) (fun e i a5=>by
    by_cases aq:i<k
    ·exact ag.o i aq
    ·obtain rfl:i=k:=by omega
     rw [C];exact e)
   have ah:=@Z ((nodeAt T j).sort≠nth F.args k->dN T xs F.args=false) (fun e=>by
    cases ax:dN T xs F.args
    ·rfl
    ·exact absurd (by have:=(mF af.o).1 ax k au;rw [C] at this;exact this) e)
   rw [C] at ay;clear C ag;generalize (nodeAt T j).sort=z at *;generalize nth F.args k=y at *;by_cases Y:z=y
   ·have v:=Z (ai.o Y);subst Y;clear ah ai;go_wp2
    go_quiet (fail)
    go_wp2
    go_roundw
    case rel=>exact⟨k+1,by omega,rfl,rfl,by go_num,v.o,Q.o.drewN _⟩
    case measure=>simp [intOf];omega
   ·have v:=@Z (aD T 12 nm xs=(0,false)) (by rw [am.o,ah.o Y];rfl);have aF:(z != y)=true:=by simpa using Y
    clear ah ai;go_wp2
    go_quiet (fail)
    go_wp2;go_ret2;exact aX.of v.o (L.o.drewN _)
  ·have an:k=xs.length:=by have:=af.o;omega
   have v:=@Z (aD T 12 nm xs=(F.res,true)) (by rw [am.o,if_pos ((mF af.o).2 (an ▸ ag.o))]);clear an;go_wp2;go_ret2;exact aX.of v.o L.o
theorem aK8 {T:aC} {xs:List Int} {i:Nat} (h:i<xs.length):lG T (xs.take (i+1))=lG T (xs.take i)+(if (numAt T (nth xs i)).1 then 0 else 1):=by
 unfold lG;rw [jD h,List.filter_append,dM,cE h];cases j:(numAt T xs[i]).1 <;> simp [j]
theorem aK9 (T:aC) (nm:ByteArray) (a:Option Addr) (n c:Nat) (xs:List Int) (w:World) (D:qL X Bq q r T a n c xs w) :
  Calls prog 117 #[.pointer (some ⟨r,0,none⟩),.int .i64 15,.string nm,.slice a n c] w fun e w'=>aX T 15 nm xs w e w':=by
 have J:=Z D.hx.len;have l:=Z D;have ai:=D.hn;have hd:=@Z (aD T 15 nm xs=(1,decide (2<=n) && (eM T xs 1 && decide (lG T xs<=1)))) (by
  rw [<-J.o];show(_,bP T 15 xs)=_;unfold bP jW lH;by_cases Y:2<=xs.length
  ·rw [if_neg (by simp;omega),bV Y,eT];cases eM T xs 1 <;> rfl
  ·rw [if_pos (by simp;omega),aR Y];rfl)
 clear D;go_enter func117,ntmps117
 go_wp2
 go_loopw [15,16] (fun ad L wr=>∃i f:Nat,i<=n/\L = .int .i64 i/\ad = .int .i64 f/\f<=i/\Hid (lG T (xs.take i)=f)/\Hid (Below w.heap.size w wr)) (fun _ L _=>n - (intOf L).toNat)
 case atStart=>exact⟨0,0,aN,rfl,rfl,aA,rfl,aO _ _⟩
 case round=>
  obtain ⟨i,f,ag,rfl,rfl,af,I,m⟩:=hrel;by_cases G:i<n
  case pos=>
   obtain ⟨b,o,rfl,ab⟩:=(l.o.hx.below m.o aA).at i G;obtain ⟨j,U,V⟩:=l.o.idAt (i:=i) G;have z:=Z (aK8 (T:=T) (xs:=xs) (i:=i) (by rw [J.o];exact G));rw [U] at ab z;have F:=Z (aBx r T l.o.nu l.o.ord l.o.le l.o.sn j wr (l.o.h.all m.o) V);have ah:(i:Int)<n:=by omega
   clear U V;cases k:(numAt T j).1
   case true=>
    have s:=Z (show lG T (xs.take (i+1))=f from by rw [z.o,k,I.o];rfl);rw [k] at F;clear z k
    go_wp2_with fail
    refine F.o.mono ?_;rintro e C ⟨rfl,y⟩;have v:=Z (aG m y);clear y;go_wp2
    go_roundw
    case rel=>exact⟨i+1,f,by omega,by go_num,by first | rfl | go_num,by omega,s.o,v.o⟩
    case measure=>first | (simp [intOf];done) | (simp [intOf];omega)
   case false=>
    have s:=Z (show lG T (xs.take (i+1))=f+1 from by rw [z.o,k,I.o];rfl);rw [k] at F;clear z k
    go_wp2_with fail
    refine F.o.mono ?_;rintro e C ⟨rfl,y⟩;have v:=Z (aG m y);clear y;go_wp2
    go_roundw
    case rel=>exact⟨i+1,f+1,by omega,by go_num,by first | rfl | go_num,by omega,s.o,v.o⟩
    case measure=>first | (simp [intOf];done) | (simp [intOf];omega)
  case neg=>
   obtain rfl:i=n:=by omega
   have H:=I.o;rw [fL (by rw [J.o];exact aA)] at H;have x:=@Z (aD T 15 nm xs=(1,decide (2<=i) && (eM T xs 1 && decide (f<=1)))) (by rw [hd.o,H]);have E:=Z (iY r T a i c xs 1 wr (l.o.h.all m.o) (l.o.hx.below m.o aA) (by omega) l.o.hi);clear H hd;by_cases O:2<=i
   case neg=>
    have s:=@Z (aD T 15 nm xs=(1,false)) (by rw [x.o,aR O];rfl);have Q:¬(2:Int)<=i:=by omega
    have ae:decide ((2:Int)<=i)=false:=by simpa using Q
    clear x;go_wp2;go_ret2;exact aX.of s.o m.o
   have Q:(2:Int)<=i:=by omega
   cases k:eM T xs 1
   case false=>
    have s:=@Z (aD T 15 nm xs=(1,false)) (by rw [x.o,k];simp);rw [k] at E;clear x k
    go_wp2_with fail
    refine E.o.mono ?_;rintro e C ⟨rfl,K,A⟩;have v:=Z (show Below w.heap.size w C from by rw [A];exact m.o.drewN K);clear A;go_wp2;go_ret2;exact aX.of s.o v.o
   case true=>
    have s:=@Z (aD T 15 nm xs=(1,decide (f<=1))) (by rw [x.o,k,bV O];rfl);rw [k] at E;have R:decide ((f:Int)<=1)=decide (f<=1):=by
     by_cases h:f<=1
     ·rw [bV h,bV (by omega)]
     ·rw [aR h,aR (by omega)]
    have aa:=Z R;clear x k R
    go_wp2_with fail
    refine E.o.mono ?_;rintro e C ⟨rfl,K,A⟩;have v:=Z (show Below w.heap.size w C from by rw [A];exact m.o.drewN K);clear A;go_wp2;go_ret2;exact aX.of2 s.o aa.o v.o
theorem aTq {T:aC} {xs:List Int} {i:Nat} (k:1<=i) (h:i<xs.length) (j:jG T (nth xs i)=true):fD T xs=false:=by
 unfold fD;rw [aCo,oW];refine⟨nth xs i,?_,j⟩;rw [cE h];have:xs[i]=(xs.drop 1)[i - 1]'(by rw [kQ];omega):=by rw [tF];congr 1;omega
 rw [this];exact qS _
theorem aQl {T:aC} {xs:List Int} (h:∀j,1<=j->j<xs.length->jG T (nth xs j)=false):fD T xs=true:=by
 unfold fD;rw [tA,oT];intro x l;obtain ⟨i,k,rfl⟩:=gU l;rw [kQ] at k;have:=h (1+i) (by omega) (by omega);rw [cE (by omega)] at this;rw [tF];rw [this]
 decide
theorem aLa (T:aC) (nm:ByteArray) (a:Option Addr) (n c:Nat) (xs:List Int) (w:World) (z:qL X Bq q r T a n c xs w) :
  Calls prog 117 #[.pointer (some ⟨r,0,none⟩),.int .i64 16,.string nm,.slice a n c] w fun e w'=>aX T 16 nm xs w e w':=by
 have Y:=Z z.hx.len;have s:=Z z;have az:=z.hn;have hd:=@Z (aD T 16 nm xs=(1,decide (2<=n) && (eM T xs 1 && fD T xs))) (by
  rw [<-Y.o];show(_,bP T 16 xs)=_;unfold bP jW;by_cases af:2<=xs.length
  ·rw [if_neg (by simp;omega),bV af,eT];cases eM T xs 1 <;> rfl
  ·rw [if_pos (by simp;omega),aR af];rfl)
 have L:=Z (iY r T a n c xs 1 w z.h z.hx (by omega) z.hi);clear z;by_cases A:2<=n
 case neg=>
  have x:=@Z ((aD T 16 nm xs).2=false) (by rw [hd.o,aR A];rfl);have ad:(n:Int)<2:=by omega
  clear hd;go_enter func117,ntmps117
  go_wp2;go_ret2;exact aX.no x.o (aO _ _)
 have ad:¬(n:Int)<2:=by omega
 have aw:decide ((n:Int)<2)=false:=by simpa using ad
 cases l:eM T xs 1
 case false=>
  have x:=@Z ((aD T 16 nm xs).2=false) (by rw [hd.o,l];simp);rw [l] at L;clear hd l;go_enter func117,ntmps117
  go_wp2_with fail
  refine L.o.mono ?_;rintro e Q ⟨rfl,aa,ah⟩;have m:=Z (show Below w.heap.size w Q from by rw [ah];exact(aO _ _).drewN aa);clear ah;go_wp2;go_ret2;exact aX.no x.o m.o
 have E:=@Z (aD T 16 nm xs=(1,fD T xs)) (by rw [hd.o,l,bV A];rfl);rw [l] at L;clear hd l;go_enter func117,ntmps117
 go_wp2_with fail
 refine L.o.mono ?_;rintro e au ⟨rfl,aa,ag⟩;have aj:=Z (show Below w.heap.size w au from by rw [ag];exact(aO _ _).drewN aa);clear ag;go_wp2
 go_loopw [8,9,17] (fun aq ar ab wr=>∃i:Nat,1<=i/\i<=n/\aq = .int .i64 0/\ar = .bool false/\ab = .int .i64 i/\Hid (∀j,1<=j->j<i->jG T (nth xs j)=false)/\Hid (Below w.heap.size w wr)) (fun _ _ ab _=>n - (intOf ab).toNat)
 case atStart=>exact⟨1,aA,by omega,rfl,rfl,rfl,fun j G A=>absurd G (by omega),aj.o⟩
 case round=>
  obtain ⟨i,an,ax,rfl,rfl,rfl,ae,D⟩:=hrel;by_cases I:i<n
  case pos=>
   obtain ⟨b,o,rfl,ao⟩:=(s.o.hx.below D.o aA).at i I;obtain ⟨j,C,J⟩:=s.o.idAt (i:=i) I;have U:=Z (show jG T (nth xs i)=(!(numAt T j).1 || (numAt T j).2) from by rw [C];rfl);have H:=Z (fun h=>aTq (T:=T) (xs:=xs) (i:=i) an (by rw [Y.o];exact I) h);rw [C] at ao;have K:=Z (aBx r T s.o.nu s.o.ord s.o.le s.o.sn j wr (s.o.h.all D.o) J);have ay:(i:Int)<n:=by omega
   cases l:(numAt T j).1
   case false=>
    have x:=@Z ((aD T 16 nm xs).2=false) (by rw [E.o];exact H.o (by rw [U.o,l];rfl));rw [l] at K;clear E l C J H
    go_wp2_with fail
    refine K.o.mono ?_;rintro e Q ⟨rfl,y⟩;have m:=Z (aG D y);clear y;go_wp2;go_ret2;exact aX.no x.o m.o
   case true=>
    have O:=Z (fun W (al:Below w.heap.size w W)=>aQh r T s.o.nu s.o.ord j W (s.o.h.all al) J l);rw [l] at K;have ai:=Z s.o.hx;cases F:(numAt T j).2
    case true=>
     have x:=@Z ((aD T 16 nm xs).2=false) (by rw [E.o];exact H.o (by rw [U.o,l,F];rfl));rw [F] at O;clear E l J H F
     go_wp2_with fail
     refine K.o.mono ?_;rintro e Q ⟨rfl,y⟩;have m:=Z (aG D y);obtain ⟨ak,ap,v,V⟩:=(ai.o.below m.o aA).at i I;cases v;rw [C] at V;clear y C
     go_wp2_with fail
     refine(O.o _ m.o).mono ?_;rintro e av ⟨rfl,v⟩;have R:=Z (aG m v);clear v;go_wp2;go_ret2;exact aX.no x.o R.o
    case false=>
     have am:=Z (show ∀k,1<=k->k<i+1->jG T (nth xs k)=false from fun k G A=>by
      by_cases e:k=i
      ·rw [e,U.o,l,F];rfl
      ·exact ae.o k G (by omega))
     rw [F] at O;clear l J H F
     go_wp2_with fail
     refine K.o.mono ?_;rintro e Q ⟨rfl,y⟩;have m:=Z (aG D y);obtain ⟨ak,ap,v,V⟩:=(ai.o.below m.o aA).at i I;cases v;rw [C] at V;clear y C
     go_wp2_with fail
     refine(O.o _ m.o).mono ?_;rintro e av ⟨rfl,v⟩;have R:=Z (aG m v);clear v;go_wp2
     go_roundw
     case rel=>exact⟨i+1,by omega,by omega,rfl,rfl,by go_num,am.o,R.o⟩
     case measure=>first | (simp [intOf];done) | (simp [intOf];omega)
  case neg=>
   obtain rfl:i=n:=by omega
   have x:=@Z (aD T 16 nm xs=(1,true)) (by rw [E.o,aQl fun j G A=>ae.o j G (by rw [Y.o] at A;exact A)]);clear E;go_wp2;go_ret2;exact aX.of x.o D.o
theorem aNu (T:aC) (op:Int) (nm:ByteArray) (a:Option Addr) (n c:Nat) (xs:List Int) (w:World) (i:qL X Bq q r T a n c xs w) (j:1<=op) (k:op<=20) :
  Calls prog 117 #[.pointer (some ⟨r,0,none⟩),.int .i64 op,.string nm,.slice a n c] w fun e w'=>aX T op nm xs w e w':=by
 have h:op=1\/op=2\/op=3\/op=4\/op=5\/op=6\/op=7\/op=8\/op=9\/op=10\/op=11\/op=12\/op=13\/op=14\/op=15\/op=16\/op=17\/op=18\/op=19\/op=20:=by omega
 rcases h with rfl | rfl | rfl | rfl | rfl | rfl | rfl | rfl | rfl | rfl | rfl | rfl | rfl | rfl | rfl | rfl | rfl | rfl | rfl | rfl
 ·exact aNl T nm a n c xs w i
 ·exact aNm T nm a n c xs w i
 ·exact aNn T nm a n c xs w i
 ·exact aNo T nm a n c xs w i
 ·exact aNp T nm a n c xs w i
 ·exact aNq T nm a n c xs w i
 ·exact aNr T nm a n c xs w i
 ·exact aNs T nm a n c xs w i
 ·exact aNt T nm a n c xs w i
 ·exact aK6 T nm a n c xs w i
 ·exact aKz T nm a n c xs w i
 ·exact aK7 T nm a n c xs w i
 ·exact aK4 T nm a n c xs w i
 ·exact aK5 T nm a n c xs w i
 ·exact aK9 T nm a n c xs w i
 ·exact aLa T nm a n c xs w i
 ·exact aK0 T nm a n c xs w i
 ·exact aK1 T nm a n c xs w i
 ·exact aK2 T nm a n c xs w i
 ·exact aK3 T nm a n c xs w i
def aAi (B:Nat) (X:Nat->Prop) (w:World) (k:Nat):Prop:=k<B\/rI X w k
theorem aAi.same {B:Nat} {X:Nat->Prop} {w w':World} {k:Nat} (h:aAi B X w k) (i:w'.heap[k]? = w.heap[k]?):aAi B X w' k:=h.imp id fun h=>h.same i
structure uJ (X:Nat->Prop) (B r q:Nat) (S:gE) (M:List aZ) (w:World):Prop where
 bp:B<=r
 row:∃v,w.heap[r]? = some (.cells #[.pointer (some ⟨q,0,none⟩),v,.int .i64 0] 51 (0,0))/\cA uO (aAi B X w) w B 38 v M
 sq:kC X B q S w
def rowOf (r:Nat) (w:World) (k:Nat):Prop:=∃u v x t f,w.heap[r]? = some (.cells #[u,v,x] t f)/\v.ownBlock=some k
theorem rowOf.same {r k:Nat} {w w':World} (h:w'.heap[r]? = w.heap[r]?):rowOf r w' k↔rowOf r w k:=by unfold rowOf;rw [h]
structure uC (r:Nat) (w w':World):Prop where
 os:w'.os=w.os
 tape:w'.tape=w.tape
 output:w'.output=w.output
 size:w.heap.size<=w'.heap.size
 block:∀k,k<w.heap.size->k≠r->w'.heap[k]? = w.heap[k]?
 row:∀k,rowOf r w' k->rowOf r w k\/w.heap.size<=k
section
variable {X : Nat -> Prop} {B r q : Nat} {S : gE} {M : List aZ} {w w' W : World}
theorem uC.of_below (j:r<w.heap.size) (h:Below w.heap.size w w'):uC r w w':=⟨h.os,h.tape,h.output,h.size,fun k i _=>h.block k i,fun _ i=>.inl ((rowOf.same (h.block r j)).1 i)⟩
theorem uC.trans {m:World} (h:uC r w w') (k:uC r w' m):uC r w m:=
 ⟨k.os.trans h.os,k.tape.trans h.tape,k.output.trans h.output,aH h.size k.size,fun i j l=>(k.block i (bG j h.size) l).trans (h.block i j l),fun i j=>(k.row i j).elim (h.row i) fun e=>.inr (aH h.size e)⟩
theorem uJ.plt (h:uJ X B r q S M w):r<w.heap.size:=by obtain ⟨v,i,_⟩:=h.row;exact(bH i).1
theorem uJ.all (h:uJ X B r q S M w) (j:Below w.heap.size w w'):uJ X B r q S M w':=by
 obtain ⟨v,o,l⟩:=h.row;refine⟨h.bp,⟨v,(j.block r h.plt).trans o,?_⟩,h.sq.all j⟩;exact(l.keep (fun k m _=>j.block k m) (fun k i=>j.block k (l.lt k i).2) j.size).mono fun k m i=>by
  by_cases n:k<w.heap.size
  ·exact i.same (j.block k n)
  ·rcases i with i | i
   ·exact .inl i
   ·exact absurd i.2.lt n
theorem uJ.rd (h:uJ X B r q S M w):RRd r M w:=by
 obtain ⟨v,l,i⟩:=h.row;obtain ⟨j,k,rfl,_⟩:=i.slice;exact⟨_,j,k,_,l,i.read (fun _ _ _=>trivial) (fun _ _=>trivial)⟩
theorem uJ.cq (h:uJ X B r q S M w):w.cell? ⟨r,0,none⟩=some (.pointer (some ⟨q,0,none⟩)):=by
 obtain ⟨v,i,j⟩:=h.row;exact E i 0
theorem uJ.push (h:uJ X B r q S M w) {U n:Option Addr} {V o C:Nat} {R:List Value} {css:List (List Value)} {x:aZ} {a b g:Option Addr} {c d e:Nat}
  (A:w.heap[r]? = some (.cells #[.pointer (some ⟨q,0,none⟩),.slice U M.length V,.int .i64 0] 51 (0,0)))
  (l:Below w.heap.size w W) (J:jF uO (aAi B X w) w M css) (ak:R=css.flatten++wW x a c b d g e/\C=M.length+1)
  (I:aW W w.heap.size 38 7 (.slice n C o) C R) (E:eD (aAi B X W) W x a c b d g e) :
  uJ X B r q S (M ++ [x]) (W.setCell ⟨r,1,none⟩ (.slice n C o))/\uC r w (W.setCell ⟨r,1,none⟩ (.slice n C o)):=by
 obtain ⟨rfl,rfl⟩:=ak;have L:r<w.heap.size:=h.plt;have G:=(l.block r L).trans A;generalize s:W.setCell ⟨r,1,none⟩ (.slice n (M.length+1) o)=D;have z:∀k,k≠r->D.heap[k]? = W.heap[k]?:=fun k i=>by
  subst s;exact dZ _ _ _ _ (fun e=>i e)
 have Q:D.heap[r]? = some (.cells #[.pointer (some ⟨q,0,none⟩),.slice n (M.length+1) o,.int .i64 0] 51 (0,0)):=by
  subst s;unfold World.setCell;rw [iN,if_pos rfl,G];rfl
 have sz:D.heap.size=W.heap.size:=by subst s;exact eX
 have hdr:∀k,dU W k->k≠r:=fun k i e=>by subst e;exact dU.ne i (by decide) (by decide) ⟨_,_,G⟩
 have ai:uO.rd (aAi B X W) W x (wW x a c b d g e):=vT.2 ⟨a,c,b,d,g,e,rfl,E⟩;have ah:jF uO (aAi B X W) W (M ++ [x]) (css ++ [wW x a c b d g e]):=by
  refine jF.append ⟨J.1,fun j y hy=>?_⟩ (jF.one ai);obtain ⟨cs,Y,Z⟩:=(J.below l).2 j y hy;exact⟨cs,Y,uO.mono Z fun k _ i=>(by
   rcases i with i | i
   ·exact .inl i
   ·exact .inr (i.same (l.block k i.2.lt)))⟩
 have af:=ah.own (base:=B) (by rw [aGx,aGp];exact I.lower (aH h.bp (gM L))) (by simp);have H:∀k,Value.ownBlock (.slice n (M.length+1) o)=some k->w.heap.size<=k:=fun k i=>(I.lt k i).1
 have F:=h.sq;obtain ⟨u1,u2,u3,K,aa,ab,ad⟩:=F.blk;refine⟨⟨h.bp,⟨_,Q,?_⟩,?_⟩,?_⟩
 ·have O:∀k,aAi B X W k->k≠r:=fun k i=>i.elim (fun al e=>by have:=h.bp;omega) fun ae=>hdr k ae.2
  exact(af.keep (fun k _ i=>z k (O k i)) (fun k i=>z k fun e=>by have:=H k i;omega) (cD sz.symm)).mono fun k _ i=>i.same (z k (O k i))
 ·refine(F.all l).keep (fun k i=>z k fun e=>?_) (fun k i=>z k (hdr k i.dat.2)) (cD sz.symm);have ag:=(eQ.same (l.block q F.plt)).1 i;subst e;rcases (qB K).1 ag with m | m | m | m
  ·subst m;exact cO (by decide) ⟨_,_,K⟩ ⟨_,_,A⟩
  ·exact cO (by decide) (aa.ty _ m) ⟨_,_,A⟩
  ·exact cO (by decide) (ab.ty _ m) ⟨_,_,A⟩
  ·exact cO (by decide) (ad.ty _ m) ⟨_,_,A⟩
 ·refine⟨by subst s;exact l.os,by subst s;exact l.tape,by subst s;exact l.output,by rw [sz];exact l.size,fun k i E=>(z k E).trans (l.block k i),fun k i=>?_⟩;obtain ⟨u,v,x',t,f,e,aj⟩:=i;rw [Q] at e;cases e;exact .inr (H k aj)
end
def fS (X:Nat->Prop) (B r q:Nat) (T:aC) (op:Int) (nm:ByteArray) (val:cJ) (args:List Int) (w:World) (e:Ending) (w':World):Prop:=
 e = .returned (.tuple #[.int .i64 (bQ T op nm val args).1.1,.int .i64 (bQ T op nm val args).1.2])/\uJ X B r q T.S (bQ T op nm val args).2.nodes w'/\uC r w w'
structure aWa (B:Nat) (X:Nat->Prop) (w:World) (val:cJ) (args:List Int) (op:Int) (a b g:Option Addr) (c d e:Nat):Prop where
 rnum:bT cH.u64 (aAi B X w) w a val.num.length val.num
 rden:bT cH.u64 (aAi B X w) w b val.den.length val.den
 rargs:jQ w g args.length args
 nc:val.num.length<=c/\c<=maxLen
 dc:val.den.length<=d/\d<=maxLen
 ac:args.length<=e/\e<=maxLen
 nl:val.num.length<=1000000
 dl:val.den.length<=1000000
 al:args.length<=1000000
 opk:eI op
section
variable {X : Nat -> Prop} {B r q : Nat} {T : aC} {op : Int} {nm : ByteArray} {val : cJ} {args : List Int} {w w' W : World} {a b g : Option Addr} {c d e : Nat}
theorem fS.err {z:Int} (h:uJ X B r q T.S T.nodes w) (i:Below w.heap.size w w') (j:bQ T op nm val args=((0,z),T)):fS X B r q T op nm val args w (.returned (.tuple #[.int .i64 0,.int .i64 z])) w':=
 ⟨by rw [j],by rw [j];exact h.all i,.of_below h.plt i⟩
theorem fS.hit {k:Nat} (h:uJ X B r q T.S T.nodes w) (i:Below w.heap.size w w') (j:bQ T op nm val args=(((k:Int),0),T)):fS X B r q T op nm val args w (.returned (.tuple #[.int .i64 k,.int .i64 0])) w':=
 ⟨by rw [j],by rw [j];exact h.all i,.of_below h.plt i⟩
end
variable {X : Nat -> Prop} {B r q : Nat}
theorem aLb {nm:ByteArray} (h:nm.size=0):nm=ByteArray.mk #[]:=by
 obtain ⟨l⟩:=nm;have:l = #[]:=aC7 h;rw [this]
theorem aNv {nm:ByteArray} (h:nm.size≠0):nm.toList.isEmpty=false:=by
 rw [tJ];cases i:nm.data.toList with
 | nil=>exact absurd (by rw [gO,i];rfl) h
 | cons _ _=>rfl
theorem aVn {T:aC} {k:Nat} {x:aZ} (i:k<T.nodes.length) (h:nodeAt T k≠x) {j:Nat} (m:j<k+1) (l:∀j,j<k->T.nodes[j]? ≠ some x):T.nodes[j]? ≠ some x:=by
 by_cases e:j=k
 ·subst e;rw [cR i];intro e;exact h (by injection e)
 ·exact l j (by omega)
theorem aBb {x:aZ} {a b g:Option Addr} {c d e:Nat}:∀u∈wW x a c b d g e,u.oneCell'=true:=zM
theorem bT.datX {α:Type} {R:cH α} {w wr W:World} {a:Option Addr} {n:Nat} {xs:List α} (h:bT R (aAi B X w) w a n xs) (j:Below w.heap.size w wr) (l:Below wr.heap.size wr W):bT R (aAi B X W) W a n xs:=by
 have i:=j.trans (l.mono j.size);exact(h.keep (fun k m _=>i.block k m) i.size).mono fun k _ hd=>(by
  rcases hd with hd | hd
  ·exact .inl hd
  ·exact .inr (hd.same (i.block k hd.2.lt)))
theorem fS.add {T:aC} {op:Int} {nm:ByteArray} {val:cJ} {args:List Int} {w wr w':World} {x:aZ} (h:uJ X B r q T.S T.nodes w) (k:Below w.heap.size w wr) (i:uJ X B r q T.S (T.nodes ++ [x]) w'/\uC r wr w') (j:bQ T op nm val args=(((T.nodes.length:Int),0),addN T x)) :
  fS X B r q T op nm val args w (.returned (.tuple #[.int .i64 T.nodes.length,.int .i64 0])) w':=
 ⟨by rw [j],by rw [j];exact i.1,(uC.of_below h.plt k).trans i.2⟩
theorem aGe {a b:cJ}:aBs a b=true↔a=b:=by
 obtain ⟨j,u1,h⟩:=a;obtain ⟨k,u2,i⟩:=b;unfold aBs;simp only [jS,lA,beq_iff_eq,cJ.mk.injEq]
theorem aTr {T:aC} {op:Int} {nm:ByteArray} {val:cJ} {args:List Int} (h:(eN op args || fR op nm val)=true):bQ T op nm val args=((0,1),T):=by
 unfold bQ;rcases Bool.or_eq_true_iff.1 h with h | h
 ·rw [if_pos h]
 ·by_cases i:eN op args=true
  ·rw [if_pos i]
  ·rw [if_neg i,if_pos h]
theorem aQm {T:aC} {op:Int} {nm:ByteArray} {val:cJ} {args:List Int} (h:eN op args=false) (j:fR op nm val=false):bQ T op nm val args=if args.any (fun i=>!dH T i) then((0,1),T) else if (aD T op nm args).2 then eW T ⟨op,nm,val,args,(aD T op nm args).1⟩ else((0,3),T):=by
 unfold bQ;rw [if_neg (by rw [h];decide),if_neg (by rw [j];decide)]
theorem aVo {T:aC} {args:List Int} {k:Nat} (j:k<args.length) (h:dH T (nth args k)=false):args.any (fun i=>!dH T i)=true:=by
 rw [oW];exact⟨nth args k,cB j,by rw [h];rfl⟩
theorem aTs {T:aC} {args:List Int} (h:∀j,j<args.length->dH T (nth args j)=true):args.any (fun i=>!dH T i)=false:=by
 rw [oT];intro x l;obtain ⟨j,k,rfl⟩:=gU l;have:=h j k;rw [cE k] at this;rw [this];decide
theorem aQn {op:Int} {args:List Int} (h:eN op args=false):1<=op/\op<=20/\args.length<=64:=by
 unfold eN at h;simp only [yN,decide_eq_false_iff_not] at h;omega
theorem aQo (T:aC) (op:Int) (nm:ByteArray) (val:cJ) (args:List Int) (a b g:Option Addr) (c d e:Nat) (w:World) (c4:uJ X B r q T.S T.nodes w) (di:pR T) (da:∀x∈T.nodes,eI x.sort) (cZ:∀f∈T.S.funs,eI f.res) (am:aWa B X w val args op a b g c d e) :
  Calls prog 67 #[.pointer (some ⟨r,0,none⟩),.int .i64 op,.string nm,fA val a c b d,.slice g args.length e] w fun e w'=>fS X B r q T op nm val args w e w':=by
 have ad:=Z c4;have aj:=Z di;have D:=Z am;have db:=Z (tT (op:=op) (nm:=nm) (args:=args) da cZ);have eg:=am.al;have b2:Below w.heap.size w (w.alloc (.cells #[.bool val.neg,.slice a val.num.length c,.slice b val.den.length d] 36)):=bJ;have bO:=cC w (.cells #[.bool val.neg,.slice a val.num.length c,.slice b val.den.length d] 36);have ae:=Z bO;have Y:=Z b2;have de:=Z (aNi val a b c d (w.alloc (.cells #[.bool val.neg,.slice a val.num.length c,.slice b val.den.length d] 36)) (am.rnum.below b2 aA) (am.rden.below b2 aA) am.nl am.dl am.nc am.dc);obtain ⟨c0,c1,c2⟩:=eH bO;have aw:=@Z (mE val=(!val.neg && (decide (val.num.length=0) && decide (val.den.length=0)))) rfl;have I:=@Z ((eN op args || fR op nm val)=((decide (op<1) || decide (20<op) || decide (64<args.length)) || ((!(op == 12) && !(nm.size == 0)) || (!(op == 11) && !mE val) || (op == 11 && !iR val)))) rfl;clear c4 di am b2 bO da cZ;go_enter func67,ntmps67
 go_upto_region 1 with fail
 generalize dI:(w.alloc (.cells #[.bool val.neg,.slice a val.num.length c,.slice b val.den.length d] 36))=bK at *;clear dI;obtain ⟨C,y,n⟩:=val;dsimp only at *
 go_cut [12] from 18 to 32 (fun dU wc=>dU = .bool (mE ⟨C,y,n⟩)/\wc=bK)
 case first=>
  cases C
  case true=>
   have l:=Z (show mE ⟨true,y,n⟩=false from by rw [aw.o];rfl);go_wp2;go_meet
   case rel=>exact⟨congrArg Value.bool l.o.symm,rfl⟩
  case false=>
   by_cases ar:y.length=0
   ·have bT:(y.length:Int)=0:=by omega
    have d2:((y.length:Int) == 0)=true:=by simpa using ar
    have bd:decide ((y.length:Int)=0)=true:=bV bT;by_cases az:n.length=0
    ·have l:=Z (show mE ⟨false,y,n⟩=true from by rw [aw.o,bV ar,bV az];rfl);have bU:(n.length:Int)=0:=by omega
     have d3:((n.length:Int) == 0)=true:=by simpa using az
     have b1:decide ((n.length:Int)=0)=true:=bV bU;go_wp2;go_meet
     case rel=>exact⟨congrArg Value.bool (by rw [l.o] <;> rfl),rfl⟩
    ·have l:=Z (show mE ⟨false,y,n⟩=false from by rw [aw.o,bV ar,aR az];rfl);have bU:¬(n.length:Int)=0:=by omega
     have d3:((n.length:Int) == 0)=false:=by simpa using az
     have b1:decide ((n.length:Int)=0)=false:=aR bU;go_wp2;go_meet
     case rel=>exact⟨congrArg Value.bool (by rw [l.o] <;> rfl),rfl⟩
   ·have l:=Z (show mE ⟨false,y,n⟩=false from by rw [aw.o,aR ar];rfl);have bT:¬(y.length:Int)=0:=by omega
    have d2:((y.length:Int) == 0)=false:=by simpa using ar
    have bd:decide ((y.length:Int)=0)=false:=aR bT;go_wp2;go_meet
    case rel=>exact⟨congrArg Value.bool (by rw [l.o] <;> rfl),rfl⟩
 case rest=>
  obtain ⟨rfl,rfl⟩:=hcut;obtain ⟨bK,rfl⟩:∃bK,bK=wc:=⟨_,rfl⟩
  go_upto_region 2 with fail
  clear aw
  go_cut [68] from 33 to 67 (fun dV wc=>dV = .bool (eN op args || fR op nm ⟨C,y,n⟩)/\Hid (Below w.heap.size w wc)/\Hid (wc.heap[w.heap.size]? = some (.cells #[.bool C,.slice a y.length c,.slice b n.length d] 36 (0,0))))
  case first=>
   generalize a8:(eN op args || fR op nm ⟨C,y,n⟩)=aq at *;clear a8;generalize dM:mE ⟨C,y,n⟩=an at *;generalize ai:iR ⟨C,y,n⟩=cp at *;clear dM ai;by_cases ar:op<1
   ·have l:=Z (show aq=true from by rw [I.o,bV ar];rfl);clear I;go_wp2;go_meet
    case rel=>exact⟨congrArg Value.bool (by rw [l.o] <;> rfl),Y.o,ae.o⟩
   have bd:decide (op<1)=false:=aR ar;by_cases az:20<op
   ·have l:=Z (show aq=true from by rw [I.o,bd,bV az];rfl);clear I;go_wp2;go_meet
    case rel=>exact⟨congrArg Value.bool (by rw [l.o] <;> rfl),Y.o,ae.o⟩
   have b1:decide (20<op)=false:=aR az;by_cases cI:64<args.length
   ·have l:=Z (show aq=true from by rw [I.o,bd,b1,bV cI];rfl);have cM:(64:Int)<args.length:=by omega
    clear I;go_wp2;go_meet
    case rel=>exact⟨congrArg Value.bool (by rw [l.o] <;> rfl),Y.o,ae.o⟩
   have cL:=aR cI;have cM:¬(64:Int)<args.length:=by omega
   have ee:decide ((64:Int)<args.length)=false:=aR cM;have au:=Z (show aq=((!(op == 12) && !(nm.size == 0)) || (!(op == 11) && !an) || (op == 11 && !cp)) from by rw [I.o,bd,b1,cL];rfl);clear I cL;by_cases cg:nm.size=0
   case neg=>
    have el:=aNv cg;have bj:(nm.size == 0)=false:=by simpa using cg
    by_cases bS:op=12
    ·subst bS;have l:=Z (show aq = !an from by rw [au.o];cases an <;> rfl);clear au;cases an
     ·go_wp2;go_meet
      case rel=>exact⟨congrArg Value.bool (by rw [l.o] <;> rfl),Y.o,ae.o⟩
     ·go_wp2;go_meet
      case rel=>exact⟨congrArg Value.bool (by rw [l.o] <;> rfl),Y.o,ae.o⟩
    ·have d1:(op == 12)=false:=by simpa using bS
     have ed:(op != 12)=true:=by simpa using bS
     have l:=Z (show aq=true from by rw [au.o,d1,bj];rfl);clear au;go_wp2;go_meet
     case rel=>exact⟨congrArg Value.bool (by rw [l.o] <;> rfl),Y.o,ae.o⟩
   case pos=>
    have b6:=aLb cg;subst b6;by_cases bR:op=11
    ·subst bR;have l:=Z (show aq = !cp from by rw [au.o];cases an <;> cases cp <;> rfl);clear au;cases an
     all_goals
      go_wp2_with fail
      refine de.o.mono ?_;rintro a4 ak ⟨rfl,bY⟩;have dk:=Z (Y.o.trans (bY.mono Y.o.size));have dn:=Z ((bY.block _ (bH ae.o).1).trans ae.o);clear bY;go_wp2;go_meet
      case rel=>exact⟨congrArg Value.bool (by rw [l.o] <;> rfl),dk.o,dn.o⟩
    ·have d0:(op == 11)=false:=by simpa using bR
     have ec:(op != 11)=true:=by simpa using bR
     have l:=Z (show aq = !an from by
      rw [au.o,d0,show((ByteArray.mk #[]).size == 0)=true from rfl];cases (op == 12) <;> cases an <;> rfl)
     clear au;cases an
     ·go_wp2;go_meet
      case rel=>exact⟨congrArg Value.bool (by rw [l.o] <;> rfl),Y.o,ae.o⟩
     ·go_wp2;go_meet
      case rel=>exact⟨congrArg Value.bool (by rw [l.o] <;> rfl),Y.o,ae.o⟩
  case rest=>
   obtain ⟨rfl,a6,d7⟩:=hcut;obtain ⟨ak,rfl⟩:∃ak,ak=wc:=⟨_,rfl⟩;clear de I c0 c1 c2 ae Y;cases a8:(eN op args || fR op nm ⟨C,y,n⟩)
   case true=>
    have l:=Z (aTr (T:=T) a8);clear a8;go_wp2;go_ret2;exact fS.err ad.o a6.o l.o
   case false=>
    obtain ⟨cf,cb⟩:=yN.1 a8;have cc:=Z (aQm (T:=T) cf cb);obtain ⟨dC,dD,d4⟩:=aQn cf;have cX:=Z (fun b7=>aNe (T:=T) (op:=op) (nm:=nm) (val:=⟨C,y,n⟩) (args:=args) aj.o.fq cb b7);have bN:=Z (ad.o.all a6.o);obtain ⟨dp,dq,bm,_⟩:=bN.o.rd.len;have a1:=Z (D.o.rargs.below a6.o aA);have ek:=aj.o.ok.sm.le;clear a8 cf cb;go_wp2
    go_loopw [10,11,13] (fun cv cw cx wr=>∃k:Nat,k<=args.length/\cv = .int .i64 0/\cw = .int .i64 0/\cx = .int .i64 k/\Hid (∀j,j<k->dH T (nth args j)=true)/\∃z,wr=ak.drewN z) (fun _ _ cx _=>args.length - (intOf cx).toNat)
    case atStart=>exact⟨0,aN,rfl,rfl,rfl,fun j U=>absurd U (by omega),0,rfl⟩
    case round=>
     obtain ⟨k,i,rfl,rfl,rfl,bX,z,rfl⟩:=hrel;by_cases bi:k<args.length
     case pos=>
      obtain ⟨bu,es,rfl,eq⟩:=a1.o.at k bi;have ej:(k:Int)<args.length:=by omega
      have I:=Z (fun h=>show bQ T op nm ⟨C,y,n⟩ args=((0,1),T) from by rw [cc.o,aVo bi h];rfl);have b4:=Z (fun(h:dH T (nth args k)=true)=>show ∀j,j<k+1->dH T (nth args j)=true from fun j U=>by
       by_cases e:j=k
       ·rw [e];exact h
       ·exact bX.o j (by omega))
      have bh:=Z (show dH T (nth args k)=(decide (0<=nth args k) && decide (nth args k<(T.nodes.length:Int))) from rfl);generalize nth args k=x at *;by_cases df:x<0
      ·have l:=Z (I.o (by rw [bh.o,aR (by omega)];rfl));have dJ:decide (x<0)=true:=bV df;clear I b4;go_wp2
       go_quiet (fail)
       go_wp2;go_ret2;exact fS.err ad.o ((a6.o.drewN _).drewN _) l.o
      ·have dJ:decide (x<0)=false:=aR df;by_cases dg:x<T.nodes.length
       ·have l:=Z (b4.o (by rw [bh.o,bV (by omega),bV dg];rfl));have ck:¬(T.nodes.length:Int)<=x:=by omega
        have dK:decide ((T.nodes.length:Int)<=x)=false:=aR ck;clear I b4 bh;go_wp2
        go_quiet (fail)
        go_wp2
        go_roundw
        case rel=>exact⟨k+1,by omega,rfl,rfl,by go_num,l.o,_,by first | rfl | (rw [kP])⟩
        case measure=>first | (simp [intOf];done) | (simp [intOf];omega)
       ·have l:=Z (I.o (by rw [bh.o,aR dg,zE]));have ck:(T.nodes.length:Int)<=x:=by omega
        have dK:decide ((T.nodes.length:Int)<=x)=true:=bV ck;clear I b4 bh;go_wp2
        go_quiet (fail)
        go_wp2;go_ret2;exact fS.err ad.o ((a6.o.drewN _).drewN _) l.o
     case neg=>
      obtain rfl:k=args.length:=by omega
      have bj:=aTs bX.o;have dA:=Z (tO bj);have cd:=Z (show bQ T op nm ⟨C,y,n⟩ args=if (aD T op nm args).2 then eW T ⟨op,nm,⟨C,y,n⟩,args,(aD T op nm args).1⟩ else((0,3),T) from by rw [cc.o,bj];rfl);have bW:Below ak.heap.size ak (ak.drewN z):=(aO _ _).drewN z;have br:=bN.o.all bW;have ci:=Z (aNu (X:=X) (Bq:=B) (q:=q) (r:=r) T op nm g args.length e args (ak.drewN z) ⟨br.rd,br.cq,br.sq,a1.o.below bW aA,d4,dA.o,aj.o.ok.sm.s,aj.o.nu,aj.o.ok.ord,aj.o.ok.sm.le,aj.o.ok.sn⟩ dC dD);have cN:=Z (a6.o.drewN z);have d8:=Z (show(ak.drewN z).heap[w.heap.size]? = _ from d7.o);generalize ak.drewN z=aP at *;clear bj bX cc br bW;cases ai:(aD T op nm args).2
      case false=>
       have l:=Z (show bQ T op nm ⟨C,y,n⟩ args=((0,3),T) from by rw [cd.o,ai];rfl)
       go_wp2_with fail
       refine ci.o.mono ?_;rintro ay ah ⟨s,rfl,_,a7⟩;rw [ai];have a2:=Z (aG cN a7);clear a7 ai;go_wp2;go_ret2;exact fS.err ad.o a2.o l.o
      case true=>
       have d6:=Z (cX.o ai);have ce:=Z (show bQ T op nm ⟨C,y,n⟩ args=eW T ⟨op,nm,⟨C,y,n⟩,args,(aD T op nm args).1⟩ from by rw [cd.o,ai];rfl)
       go_wp2_with fail
       refine ci.o.mono ?_;rintro ay ah ⟨s,rfl,b7,a7⟩;have dF:=b7 ai;rw [ai];subst dF;have a2:=Z (aG cN a7);have bP:=Z (bD a7 d8.o);have c7:=Z (ad.o.all a2.o);clear a7 ai b7 ci cX cd bN a1 bm;obtain ⟨dp,dq,bm,dh⟩:=c7.o.rd.len;have dR:=Z dh;have cj:=Z db.o;clear db;generalize (aD T op nm args).1=V at *;clear dh;go_wp2
       go_loopw [10,11,16,17] (fun cv cw cy _ wr=>∃k:Nat,k<=T.nodes.length/\cv = .int .i64 0/\cw = .int .i64 0/\cy = .int .i64 k/\Hid (∀j,j<k->T.nodes[j]? ≠ some ⟨op,nm,⟨C,y,n⟩,args,V⟩)/\Hid (Below ah.heap.size ah wr)) (fun _ _ cy _ _=>T.nodes.length - (intOf cy).toNat)
       case atStart=>exact⟨0,aN,rfl,rfl,rfl,fun j U=>absurd U (by omega),aO _ _⟩
       case round=>
        obtain ⟨k,i,rfl,rfl,rfl,b6,H⟩:=hrel;have bm:=aB H.o bm;by_cases bi:k<T.nodes.length
        case pos=>
         have bA:=cR bi;have bk:=Z (fun(h:nodeAt T k≠⟨op,nm,⟨C,y,n⟩,args,V⟩)=>show ∀j,j<k+1->T.nodes[j]? ≠ some ⟨op,nm,⟨C,y,n⟩,args,V⟩ from fun j U=>aVn bi h U b6.o);have d9:=Z (fun(h:nodeAt T k=⟨op,nm,⟨C,y,n⟩,args,V⟩)=>show bQ T op nm ⟨C,y,n⟩ args=(((k:Int),0),T) from by rw [ce.o];exact aj.o.ids.hit (by rw [<-h];exact bA));obtain ⟨dY,er,bs,bv,bt,bw,b0,bx,rfl,cY,av⟩:=dR.o.nodeAt bA;have dQ:=aB H.o (av 0 _ rfl);rw [cU] at dQ;have ax:=aB H.o (av 1 _ rfl);have et:=aB H.o (av 2 _ rfl);have eu:=aB H.o (av 3 _ rfl);have ev:=aB H.o (av 4 _ rfl);have ew:=aB H.o (av 5 _ rfl);have ex:=aB H.o (av 6 _ rfl);have ei:(k:Int)<T.nodes.length:=by omega
         have b9:=aj.o.ok.sn _ (fP bA);have b3:=Z cY;clear cY av bA;generalize nodeAt T k=dP at *;obtain ⟨aL,bB,⟨bn,bo,bc⟩,a3,aM⟩:=dP;dsimp only at *;have d5:=Z (aG a2 H.o);have c8:=(fB wr (.cells #[.int .i64 aL,.string bB,.bool bn,.slice bs bo.length bv,.slice bt bc.length bw,.slice b0 a3.length bx,.int .i64 aM] 38) _ (bH (bD H.o bP.o)).1).trans (bD H.o bP.o);have c5:=cC wr (.cells #[.int .i64 aL,.string bB,.bool bn,.slice bs bo.length bv,.slice bt bc.length bw,.slice b0 a3.length bx,.int .i64 aM] 38);have bu:Below wr.heap.size wr (wr.alloc (.cells #[.int .i64 aL,.string bB,.bool bn,.slice bs bo.length bv,.slice bt bc.length bw,.slice b0 a3.length bx,.int .i64 aM] 38)):=bJ;have F:=Z (aG H bu);have bq:=aG d5 bu;have bl:=Z (aQg ⟨bn,bo,bc⟩ ⟨C,y,n⟩ bs bt a b bv bw c d _ (b3.o.num.below F.o aA) (b3.o.den.below F.o aA) (D.o.rnum.below bq aA) (D.o.rden.below bq aA) b9.1 b9.2.1 (lW D.o.nl (by decide)) (lW D.o.dl (by decide)));have dd:=Z (fun W (cP:Below ah.heap.size ah W)=>aFb b0 g a3.length args.length bx e a3 args W (b3.o.args.toI.below cP aA) (D.o.rargs.below (aG a2 cP) aA) b9.2.2 (by omega));have c3:=Z bq;have c6:=Z c5;obtain ⟨c0,c1,c2⟩:=eH c8;clear c8 c5 bu bq b3 b9;by_cases a4:aL=op
         case neg=>
          have ds:(aL == op)=false:=by simpa using a4
          have ea:decide (aL=op)=false:=aR a4;have l:=Z (bk.o fun e=>a4 (congrArg aZ.op e));go_wp2
          go_roundw
          case rel=>exact⟨k+1,by omega,rfl,rfl,by go_num,l.o,F.o⟩
          case measure=>first | (simp [intOf];done) | (simp [intOf];omega)
         have dt:=a4.symm;clear a4;subst dt;have ds:(op == op)=true:=by simp
         cases cE:(bB.toList == nm.toList)
         case false=>
          have l:=Z (bk.o fun e=>aM6 cE (congrArg aZ.name e));go_wp2
          go_roundw
          case rel=>exact⟨k+1,by omega,rfl,rfl,by go_num,l.o,F.o⟩
          case measure=>first | (simp [intOf];done) | (simp [intOf];omega)
         cases bz:aBs ⟨bn,bo,bc⟩ ⟨C,y,n⟩
         case false=>
          rw [bz] at bl
          go_wp2_with fail
          refine bl.o.mono ?_;rintro dx dj ⟨rfl,a0⟩;have aS:=Z (aG F a0);clear a0;have l:=Z (bk.o fun e=>(by have:=aGe.2 (congrArg aZ.val e);rw [bz] at this;cases this));go_wp2
          go_roundw
          case rel=>exact⟨k+1,by omega,rfl,rfl,by go_num,l.o,aS.o⟩
          case measure=>first | (simp [intOf];done) | (simp [intOf];omega)
         rw [bz] at bl
         go_wp2_with fail
         refine bl.o.mono ?_;rintro dx dj ⟨rfl,a0⟩;have aS:=Z (aG F a0);have bM:=(a0.block _ (bH c6.o).1).trans c6.o;have dN:=E bM 5;have dO:=E bM 6;simp only [dW,fF,dS] at dN dO;have b8:=Z (dd.o dj aS.o);have dm:=Z (c3.o.trans (a0.mono c3.o.size));clear a0 bM c0 c1 c2 bl dd;by_cases ay:a3=args
         case neg=>
          rw [aR ay] at b8
          go_wp2_with fail
          refine b8.o.mono ?_;rintro dy dX ⟨rfl,bL,rfl⟩;have l:=Z (bk.o fun e=>ay (congrArg aZ.args e));go_wp2
          go_roundw
          case rel=>exact⟨k+1,by omega,rfl,rfl,by go_num,l.o,aS.o.drewN bL⟩
          case measure=>first | (simp [intOf];done) | (simp [intOf];omega)
         rw [bV ay] at b8;have du:=ay.symm;clear ay;subst du
         go_wp2_with fail
         refine b8.o.mono ?_;rintro dy dX ⟨rfl,bL,rfl⟩;by_cases a5:aM=V
         case neg=>
          have dv:(aM == V)=false:=by simpa using a5
          have eb:decide (aM=V)=false:=aR a5;have l:=Z (bk.o fun e=>a5 (congrArg aZ.sort e));go_wp2
          go_roundw
          case rel=>exact⟨k+1,by omega,rfl,rfl,by go_num,l.o,aS.o.drewN bL⟩
          case measure=>first | (simp [intOf];done) | (simp [intOf];omega)
         have l:=Z (d9.o (by rw [wF.1 cE,aGe.1 bz,a5]));have dw:=a5.symm;clear a5;subst dw;have dv:(V == V)=true:=by simp
         go_wp2;go_ret2;exact fS.hit ad.o (dm.o.drewN bL) l.o
        case neg=>
         obtain rfl:k=T.nodes.length:=by omega
         have b5:=aj.o.ids.miss d6.o (fun dB=>by
          obtain ⟨j,U,e⟩:=gU dB;exact b6.o j U (by rw [cK U,e]))
         have aa:=Z (aG a2 H.o);by_cases cT:16384<=T.nodes.length
         case pos=>
          have l:=Z (show bQ T op nm ⟨C,y,n⟩ args=((0,4),T) from by rw [ce.o,kM b5 cT]);have cS:(16384:Int)<=T.nodes.length:=by omega
          clear b5;go_wp2;go_ret2;exact fS.err ad.o aa.o l.o
         have l:=Z (show bQ T op nm ⟨C,y,n⟩ args=(((T.nodes.length:Int),0),addN T ⟨op,nm,⟨C,y,n⟩,args,V⟩) from by rw [ce.o,iX b5 (by omega)]);have cS:¬(16384:Int)<=T.nodes.length:=by omega
         have eh:decide ((16384:Int)<=T.nodes.length)=false:=aR cS;have ap:=Z (c7.o.all H.o);obtain ⟨ey,ca,co⟩:=ap.o.row;obtain ⟨cB,dr,rfl,_⟩:=co.slice;have ax:wr.cell? ⟨r,1,none⟩=some (.slice cB T.nodes.length dr):=E ca 1;have a9:=Z ca;have ch:=ap.o.plt;obtain ⟨css,bC,cs⟩:=co.pairs;have sA:=Z (show Src wr 7 cB T.nodes.length css.flatten by
          refine⟨bC.1,fun dz=>?_⟩;obtain ⟨g,dZ,l,_⟩:=bC.form dz;cases l;exact⟨_,rfl,fun j u dG=>by rw [lD,dT];exact bC.cells (g:=g) rfl j u dG⟩)
         have cr:=Z cs;have ct:=Z cs.ones;have a1:=D.o.rargs.below aa.o aA;have cz:=Z (show WfI args from a1.wf);have cu:=Z (show Src wr 1 g args.length (args.map (Value.int .i64)) by have:=(a1.srcs (q:=args.length) aA D.o.ac.1).1;rwa [nA] at this);have c9:=bD H.o bP.o;obtain ⟨bE,bG,bI⟩:=eH c9;obtain ⟨eo,aH,aI,aJ,aK⟩:=info_parts aFi;obtain ⟨ep,U,cl,cm,cn⟩:=info_parts lE;clear b5 ca co bC cs a1 c9 cT bm;go_wp2;refine bF (S:=fun W=>Below wr.heap.size wr W) 17 (by kernel_rfl) (by kernel_rfl) (aF wr) (fun ef=>?_);refine aE 0 ?_;refine aE 2 ?_;refine aE 3 ?_;refine aE 4 ?_;refine aE 5 (hy:=(Or.inl ⟨by rfl,by(intro W be;have dE:=aB (p:=⟨r,1,none⟩) be ax;go_simp <;> with_reducible rfl)⟩)) ?_;refine aE 7 ?_;refine aE 8 ?_;refine aE 9 (hy:=(Or.inl ⟨by rfl,by(intro W be;have dE:=aB be bE;have em:=aB be bG;have en:=aB be bI;go_simp <;> with_reducible rfl)⟩)) ?_;refine aE 11 ?_;refine aE 13 ?_;refine gW (rs:=[1,10]) (by decide +kernel) (cQ (by rfl) (fun A m=>?_) (cQ (by rfl) (fun A m=>?_) gV))
         ·skip
          go_simp;refine m.out _ _ (by(exact eJ (by assumption) _)) (fun hHeld2=>?_);clear m A;(try simp only [Act.put,sA,sB,sC]);refine gW (rs:=[6,10]) (by decide +kernel) (cQ (by rfl) (fun A m=>?_) (cQ (by rfl) (fun A m=>?_) gV))
          ·skip
           refine bZ (base:=wr.heap.size) (by rfl) (.tmp 154) (.tmp 158) (by rfl) underlying49 aH aI aJ aK rfl (by decide) (Eq.refl (Value.slice _ _ _)) (by rfl) (by first | exact aW.lit0 (by simp) (by simp) | exact(aW.lit0 (by simp) (by simp)).alloc _) (Src.keep sA.o (by assumption)) ct.o (by unfold maxLen;omega) (by omega) (fU (w:=wr) (by assumption)) ?_;intro v' aP Q L _;rw [dT,iE] at Q;have J:=Z Q;obtain ⟨aX,ba,rfl,_,_⟩:=Q.slice
           first
           | have G:=Z (aW.carry (base:=wr.heap.size) (e:=3) (size:=1) (v:=.slice (some ⟨wr.heap.size+1,0,none⟩) 0 0) (aW.lit0 (by simp) (by simp)).drew L (by intro k i;simp [Value.ownBlock] at i;subst i;simp [Value.ownBlock]))
           | have G:=Z (aW.carry (base:=wr.heap.size) (e:=3) (size:=1) (v:=.slice (some ⟨wr.heap.size,0,none⟩) 0 0) ((aW.lit0 (by simp) (by simp)).alloc _).drew L (by intro k i;simp [Value.ownBlock] at i;subst i;simp [Value.ownBlock]))
           | have G:=Z True.intro
           clear Q;refine m.out _ _ (by(exact eR (by assumption) L (by intro k i;simp [Value.ownBlock] at i;omega))) (fun hHeld3=>?_);clear m A;refine aV 10 fun A m=>?_;go_simp;refine m.out _ _ (by(exact eJ (by assumption) _)) (fun hHeld4=>?_);clear m A;refine aV 12 fun A m=>?_;refine bZ (base:=wr.heap.size) (by rfl) (.tmp 163) (.tmp 164) (by rfl) underlying23 U cl cm cn rfl (by decide) (Eq.refl (Value.slice _ _ _)) (by rfl) (by first | exact G.o | exact aW.lit0 (by first | rfl | simp) (fU (w:=wr) (by assumption))) (Src.keep cu.o (by assumption)) wH (by unfold maxLen;omega) (by omega) (fU (w:=wr) (by assumption)) ?_;intro v' ah R O cV;rw [dT,iE] at R;have ao:=Z R;have ab:=Z (by first
            | exact aW.carry J.o O (fun k i e=>cO (by decide) (J.o.ty k i) (G.o.ty k e))
            | exact aW.carry (J.o.alloc _) O (fun k i e=>by have:=(J.o.lt k i).2;simp [Value.ownBlock] at e;omega):aW ah wr.heap.size 38 7 (.slice aX T.nodes.length ba) T.nodes.length css.flatten)
           obtain ⟨aY,bb,rfl,bf,bg⟩:=R.slice;clear R;refine m.out _ _ (by(exact eR (by assumption) O (by first | exact(fun k i=>(G.o.lt k i).1) | (intro k i;have aw:=fU (w:=wr) (w':=aP) (by assumption);simp [Value.ownBlock] at i;omega)))) (fun hHeld5=>?_);clear m A;(try simp only [Act.put,sA,sB,sC]);refine aE 14 ?_;refine aV 15 fun A m=>?_;go_simp;refine m.out _ _ (by(exact eJ (by assumption) _)) (fun hHeld6=>?_);clear m A;refine aV 16 fun A m=>?_;refine bZ (base:=wr.heap.size) (by rfl) (.tmp 159) (.tmp 168) (by rfl) underlying49 aH aI aJ aK rfl (by decide) (Eq.refl (Value.slice _ _ _)) (by rfl) (ab.o.alloc _) (Src.lit (kH.lit (us:=wW ⟨op,nm,⟨C,y,n⟩,args,V⟩ a c b d aY bb) (by first | rfl | simp)) rfl) aBb (by unfold maxLen;omega) (by omega) (fU (w:=wr) (by assumption)) ?_;intro v' bp ag af _;have aU:=Z ag;have aT:=Z ((ao.o.alloc _).carry af (fun k i e=>cO (by decide) (ab.o.ty k e) (ao.o.ty k i)));obtain ⟨cA,cD,rfl,_,_⟩:=ag.slice;clear ag;refine m.out _ _ (by(exact eR (by assumption) af (fun k i=>(ab.o.lt k i).1))) (fun hHeld7=>?_);clear m A;(try simp only [Act.put,sA,sB,sC]);refine cF (by decide +kernel) ?_;simp only [dL,cW];have K:Below wr.heap.size wr bp:=by assumption
           have F:=Z K;have cH:=aB K ax;have cG:=(aQ ((K.block r ch).trans a9.o) 1);clear L O af K bE bG bI ax;go_wp2;go_ret2;exact fS.add ad.o aa.o (uJ.push ap.o a9.o F.o cr.o ⟨rfl,rfl⟩ aU.o ⟨D.o.rnum.datX aa.o F.o,D.o.nc,D.o.rden.datX aa.o F.o,D.o.dc,(aAc aT.o cz.o ap.o.sq.xlt).mono (fun _ _ i=>.inr i.dat),⟨bf,bg⟩,D.o.opk,cj.o⟩) l.o
          ·skip
           go_simp;refine m.out _ _ (by(exact eJ (by assumption) _)) (fun hHeld3=>?_);clear m A;refine aV 6 fun A m=>?_;refine bZ (base:=wr.heap.size) (by rfl) (.tmp 154) (.tmp 158) (by rfl) underlying49 aH aI aJ aK rfl (by decide) (Eq.refl (Value.slice _ _ _)) (by rfl) (by first | exact aW.lit0 (by simp) (by simp) | exact(aW.lit0 (by simp) (by simp)).alloc _) (Src.keep sA.o (by assumption)) ct.o (by unfold maxLen;omega) (by omega) (fU (w:=wr) (by assumption)) ?_;intro v' aP Q L _;rw [dT,iE] at Q;have J:=Z Q;obtain ⟨aX,ba,rfl,_,_⟩:=Q.slice
           first
           | have G:=Z (aW.carry (base:=wr.heap.size) (e:=3) (size:=1) (v:=.slice (some ⟨wr.heap.size+1,0,none⟩) 0 0) (aW.lit0 (by simp) (by simp)).drew L (by intro k i;simp [Value.ownBlock] at i;subst i;simp [Value.ownBlock]))
           | have G:=Z (aW.carry (base:=wr.heap.size) (e:=3) (size:=1) (v:=.slice (some ⟨wr.heap.size,0,none⟩) 0 0) ((aW.lit0 (by simp) (by simp)).alloc _).drew L (by intro k i;simp [Value.ownBlock] at i;subst i;simp [Value.ownBlock]))
           | have G:=Z True.intro
           clear Q;refine m.out _ _ (by(exact eR (by assumption) L (by intro k i;simp [Value.ownBlock] at i;omega))) (fun hHeld4=>?_);clear m A;refine aV 12 fun A m=>?_;refine bZ (base:=wr.heap.size) (by rfl) (.tmp 163) (.tmp 164) (by rfl) underlying23 U cl cm cn rfl (by decide) (Eq.refl (Value.slice _ _ _)) (by rfl) (by first | exact G.o | exact aW.lit0 (by first | rfl | simp) (fU (w:=wr) (by assumption))) (Src.keep cu.o (by assumption)) wH (by unfold maxLen;omega) (by omega) (fU (w:=wr) (by assumption)) ?_;intro v' ah R O cV;rw [dT,iE] at R;have ao:=Z R;have ab:=Z (by first
            | exact aW.carry J.o O (fun k i e=>cO (by decide) (J.o.ty k i) (G.o.ty k e))
            | exact aW.carry (J.o.alloc _) O (fun k i e=>by have:=(J.o.lt k i).2;simp [Value.ownBlock] at e;omega):aW ah wr.heap.size 38 7 (.slice aX T.nodes.length ba) T.nodes.length css.flatten)
           obtain ⟨aY,bb,rfl,bf,bg⟩:=R.slice;clear R;refine m.out _ _ (by(exact eR (by assumption) O (by first | exact(fun k i=>(G.o.lt k i).1) | (intro k i;have aw:=fU (w:=wr) (w':=aP) (by assumption);simp [Value.ownBlock] at i;omega)))) (fun hHeld5=>?_);clear m A;(try simp only [Act.put,sA,sB,sC]);refine aE 14 ?_;refine aV 15 fun A m=>?_;go_simp;refine m.out _ _ (by(exact eJ (by assumption) _)) (fun hHeld6=>?_);clear m A;refine aV 16 fun A m=>?_;refine bZ (base:=wr.heap.size) (by rfl) (.tmp 159) (.tmp 168) (by rfl) underlying49 aH aI aJ aK rfl (by decide) (Eq.refl (Value.slice _ _ _)) (by rfl) (ab.o.alloc _) (Src.lit (kH.lit (us:=wW ⟨op,nm,⟨C,y,n⟩,args,V⟩ a c b d aY bb) (by first | rfl | simp)) rfl) aBb (by unfold maxLen;omega) (by omega) (fU (w:=wr) (by assumption)) ?_;intro v' bp ag af _;have aU:=Z ag;have aT:=Z ((ao.o.alloc _).carry af (fun k i e=>cO (by decide) (ab.o.ty k e) (ao.o.ty k i)));obtain ⟨cA,cD,rfl,_,_⟩:=ag.slice;clear ag;refine m.out _ _ (by(exact eR (by assumption) af (fun k i=>(ab.o.lt k i).1))) (fun hHeld7=>?_);clear m A;(try simp only [Act.put,sA,sB,sC]);refine cF (by decide +kernel) ?_;simp only [dL,cW];have K:Below wr.heap.size wr bp:=by assumption
           have F:=Z K;have cH:=aB K ax;have cG:=(aQ ((K.block r ch).trans a9.o) 1);clear L O af K bE bG bI ax;go_wp2;go_ret2;exact fS.add ad.o aa.o (uJ.push ap.o a9.o F.o cr.o ⟨rfl,rfl⟩ aU.o ⟨D.o.rnum.datX aa.o F.o,D.o.nc,D.o.rden.datX aa.o F.o,D.o.dc,(aAc aT.o cz.o ap.o.sq.xlt).mono (fun _ _ i=>.inr i.dat),⟨bf,bg⟩,D.o.opk,cj.o⟩) l.o
         ·skip
          go_simp;refine m.out _ _ (by(exact eJ (by assumption) _)) (fun hHeld2=>?_);clear m A;refine aV 1 fun A m=>?_;go_simp;refine m.out _ _ (by(exact eJ (by assumption) _)) (fun hHeld3=>?_);clear m A;refine aV 6 fun A m=>?_;refine bZ (base:=wr.heap.size) (by rfl) (.tmp 154) (.tmp 158) (by rfl) underlying49 aH aI aJ aK rfl (by decide) (Eq.refl (Value.slice _ _ _)) (by rfl) (by first | exact aW.lit0 (by simp) (by simp) | exact(aW.lit0 (by simp) (by simp)).alloc _) (Src.keep sA.o (by assumption)) ct.o (by unfold maxLen;omega) (by omega) (fU (w:=wr) (by assumption)) ?_;intro v' aP Q L _;rw [dT,iE] at Q;have J:=Z Q;obtain ⟨aX,ba,rfl,_,_⟩:=Q.slice
          first
          | have G:=Z (aW.carry (base:=wr.heap.size) (e:=3) (size:=1) (v:=.slice (some ⟨wr.heap.size+1,0,none⟩) 0 0) (aW.lit0 (by simp) (by simp)).drew L (by intro k i;simp [Value.ownBlock] at i;subst i;simp [Value.ownBlock]))
          | have G:=Z (aW.carry (base:=wr.heap.size) (e:=3) (size:=1) (v:=.slice (some ⟨wr.heap.size,0,none⟩) 0 0) ((aW.lit0 (by simp) (by simp)).alloc _).drew L (by intro k i;simp [Value.ownBlock] at i;subst i;simp [Value.ownBlock]))
          | have G:=Z True.intro
          clear Q;refine m.out _ _ (by(exact eR (by assumption) L (by intro k i;simp [Value.ownBlock] at i;omega))) (fun hHeld4=>?_);clear m A;refine aV 12 fun A m=>?_;refine bZ (base:=wr.heap.size) (by rfl) (.tmp 163) (.tmp 164) (by rfl) underlying23 U cl cm cn rfl (by decide) (Eq.refl (Value.slice _ _ _)) (by rfl) (by first | exact G.o | exact aW.lit0 (by first | rfl | simp) (fU (w:=wr) (by assumption))) (Src.keep cu.o (by assumption)) wH (by unfold maxLen;omega) (by omega) (fU (w:=wr) (by assumption)) ?_;intro v' ah R O cV;rw [dT,iE] at R;have ao:=Z R;have ab:=Z (by first
           | exact aW.carry J.o O (fun k i e=>cO (by decide) (J.o.ty k i) (G.o.ty k e))
           | exact aW.carry (J.o.alloc _) O (fun k i e=>by have:=(J.o.lt k i).2;simp [Value.ownBlock] at e;omega):aW ah wr.heap.size 38 7 (.slice aX T.nodes.length ba) T.nodes.length css.flatten)
          obtain ⟨aY,bb,rfl,bf,bg⟩:=R.slice;clear R;refine m.out _ _ (by(exact eR (by assumption) O (by first | exact(fun k i=>(G.o.lt k i).1) | (intro k i;have aw:=fU (w:=wr) (w':=aP) (by assumption);simp [Value.ownBlock] at i;omega)))) (fun hHeld5=>?_);clear m A;(try simp only [Act.put,sA,sB,sC]);refine aE 14 ?_;refine aV 15 fun A m=>?_;go_simp;refine m.out _ _ (by(exact eJ (by assumption) _)) (fun hHeld6=>?_);clear m A;refine aV 16 fun A m=>?_;refine bZ (base:=wr.heap.size) (by rfl) (.tmp 159) (.tmp 168) (by rfl) underlying49 aH aI aJ aK rfl (by decide) (Eq.refl (Value.slice _ _ _)) (by rfl) (ab.o.alloc _) (Src.lit (kH.lit (us:=wW ⟨op,nm,⟨C,y,n⟩,args,V⟩ a c b d aY bb) (by first | rfl | simp)) rfl) aBb (by unfold maxLen;omega) (by omega) (fU (w:=wr) (by assumption)) ?_;intro v' bp ag af _;have aU:=Z ag;have aT:=Z ((ao.o.alloc _).carry af (fun k i e=>cO (by decide) (ab.o.ty k e) (ao.o.ty k i)));obtain ⟨cA,cD,rfl,_,_⟩:=ag.slice;clear ag;refine m.out _ _ (by(exact eR (by assumption) af (fun k i=>(ab.o.lt k i).1))) (fun hHeld7=>?_);clear m A;(try simp only [Act.put,sA,sB,sC]);refine cF (by decide +kernel) ?_;simp only [dL,cW];have K:Below wr.heap.size wr bp:=by assumption
          have F:=Z K;have cH:=aB K ax;have cG:=(aQ ((K.block r ch).trans a9.o) 1);clear L O af K bE bG bI ax;go_wp2;go_ret2;exact fS.add ad.o aa.o (uJ.push ap.o a9.o F.o cr.o ⟨rfl,rfl⟩ aU.o ⟨D.o.rnum.datX aa.o F.o,D.o.nc,D.o.rden.datX aa.o F.o,D.o.dc,(aAc aT.o cz.o ap.o.sq.xlt).mono (fun _ _ i=>.inr i.dat),⟨bf,bg⟩,D.o.opk,cj.o⟩) l.o
structure Two (w0:World) (p r q:Nat) (T:aC) (w:World):Prop where
 st:St w0 p T w
 m:uJ T.X w0.heap.size r q T.S T.nodes w
 ap:∀k,rowOf r w k->¬gR p w k
 xd:∀k,T.X k->w0.heap.size<=k/\∃cs f,w.heap[k]? = some (.cells cs 3 f)
section
variable {w0 w w' : World} {p r q : Nat} {T T' : aC}
theorem uJ.rowTy {X:Nat->Prop} {B:Nat} {S:gE} {M:List aZ} (h:uJ X B r q S M w) {k:Nat} (m:rowOf r w k):B<=k/\k<w.heap.size/\∃cs f,w.heap[k]? = some (.cells cs 38 f):=by
 obtain ⟨v,l,i⟩:=h.row;obtain ⟨u,v',x,t,f,e,j⟩:=m;rw [l] at e;cases e;exact⟨(i.lt k j).1,(i.lt k j).2,i.ty k j⟩
theorem uJ.keep2 {X X':Nat->Prop} {B:Nat} {S:gE} {M:List aZ} (h:uJ X B r q S M w) (F:w'.heap[r]? = w.heap[r]?) (G:∀k,rowOf r w k->w'.heap[k]? = w.heap[k]?) (l:∀k,eQ w q k->w'.heap[k]? = w.heap[k]?)
  (hd:∀k,aAi B X w k->k<w.heap.size->w'.heap[k]? = w.heap[k]?) (m:w.heap.size<=w'.heap.size) (y:∀k,k<w.heap.size->¬X k->¬X' k) (E:∀k,X' k->k<w'.heap.size):uJ X' B r q S M w':=by
 obtain ⟨v,s,D⟩:=h.row;refine⟨h.bp,⟨v,F.trans s,?_⟩,?_⟩
 ·exact(D.keep (fun k o i=>hd k i o) (fun k i=>G k ⟨_,_,_,_,_,s,i⟩) m).mono fun k _ i=>by
   rcases i with i | i
   ·exact .inl i
   ·exact .inr ⟨y k i.2.lt i.1,i.2.same (hd k (.inr i) i.2.lt)⟩
 ·have x:=h.sq;obtain ⟨H,I,J,j,z,A,C⟩:=x.blk;refine⟨x.bp,E,H,I,J,(l q (.inl rfl)).trans j,z.keep (fun _ _ h=>h.elim) (fun k e=>l k ((qB j).2 (.inr (.inl e)))) m,?_,C.keep (fun _ _ h=>h.elim) (fun k e=>l k ((qB j).2 (.inr (.inr (.inr e))))) m⟩;exact(A.keep (fun k o i=>hd k (.inr i.dat) o) (fun k e=>l k ((qB j).2 (.inr (.inr (.inl e))))) m).mono fun k _ i=>⟨y k i.dat.2.lt i.1,by obtain ⟨_,cs,f,n⟩:=i;exact⟨cs,f,(hd k (.inr ⟨by assumption,cs,f,.inl n⟩) (bH n).1).trans n⟩⟩
theorem uJ.sqTy {X:Nat->Prop} {B:Nat} {S:gE} {M:List aZ} (h:uJ X B r q S M w) {k:Nat} (j:eQ w q k):B<=k/\k<w.heap.size/\∃cs t f,w.heap[k]? = some (.cells cs t f)/\(t=107\/t=9\/t=114\/t=329):=by
 obtain ⟨s,v,x,l,m,n,o⟩:=h.sq.blk;refine⟨(h.sq.ownB j).1,(h.sq.ownB j).2,?_⟩;rcases (qB l).1 j with rfl | e | e | e
 ·exact⟨_,_,_,l,.inl rfl⟩
 ·obtain ⟨cs,f,i⟩:=m.ty k e;exact⟨cs,_,f,i,.inr (.inl rfl)⟩
 ·obtain ⟨cs,f,i⟩:=n.ty k e;exact⟨cs,_,f,i,.inr (.inr (.inl rfl))⟩
 ·obtain ⟨cs,f,i⟩:=o.ty k e;exact⟨cs,_,f,i,.inr (.inr (.inr rfl))⟩
theorem uJ.hd {X:Nat->Prop} {B:Nat} {S:gE} {M:List aZ} (h:uJ X B r q S M w):∃cs f,w.heap[r]? = some (.cells cs 51 f):=by
 obtain ⟨v,i,_⟩:=h.row;exact⟨_,_,i⟩
theorem Two.all (h:Two w0 p r q T w) (i:Below w.heap.size w w'):Two w0 p r q T w':=
 ⟨h.st.all i,h.m.all i,fun k j=>fun e=>h.ap k ((rowOf.same (i.block r h.m.plt)).1 j) ((gR.same (i.block p h.st.t.plt)).1 e),fun k j=>by
  obtain ⟨n,cs,f,l⟩:=h.xd k j;exact⟨n,cs,f,(i.block k (bH l).1).trans l⟩⟩
theorem Two.tstep (h:Two w0 p r q T w) (j:dA p w w'):uJ T.X w0.heap.size r q T.S T.nodes w'/\(∀k,rowOf r w' k->¬gR p w' k)/\∀k,T.X k->w0.heap.size<=k/\∃cs f,w'.heap[k]? = some (.cells cs 3 f):=by
 have o:=h.st.t.stay j h.m.hd (by decide) (by decide) (by decide);have z:∀k,rowOf r w k->w'.heap[k]? = w.heap[k]?:=fun k i=>(j.block k (h.m.rowTy i).2.1 (h.ap k i)).1
 refine⟨h.m.keep2 o z (fun k i=>?_) (fun k i x=>?_) j.size (fun _ _ y=>y) (fun k i=>?_),fun k i=>?_,fun k i=>?_⟩
 ·obtain ⟨_,_,cs,t,f,l,A⟩:=h.m.sqTy i;refine h.st.t.stay j ⟨cs,f,l⟩ ?_ ?_ ?_ <;> (rcases A with rfl | rfl | rfl | rfl <;> decide)
 ·rcases i with i | i
  ·refine(j.block k x fun e=>?_).1;obtain ⟨C,D,E,m,v⟩:=h.st.t;have:=(v.ownB e).1;omega
  ·exact h.st.t.dat j i.2
 ·obtain ⟨_,cs,f,l⟩:=h.xd k i;exact bG (bH l).1 j.size
 ·have n:=(rowOf.same o).1 i;exact(j.block k (h.m.rowTy n).2.1 (h.ap k n)).2
 ·obtain ⟨s,cs,f,l⟩:=h.xd k i;exact⟨s,cs,f,(h.st.t.dat j ⟨cs,f,.inl l⟩).trans l⟩
theorem Two.rstep (h:St w0 p T w) (z:uJ T'.X w0.heap.size r q T'.S T'.nodes w) (J:∀k,rowOf r w k->¬gR p w k) (Q:∀k,T.X k->w0.heap.size<=k/\∃cs f,w.heap[k]? = some (.cells cs 3 f)) (j:uC r w w') (L:uJ T.X w0.heap.size r q T.S T.nodes w'):Two w0 p r q T w':=by
 have l:=z.hd;obtain ⟨C,D,E,m,n⟩:=h.t;obtain ⟨R,x⟩:=n.srtX;have A:∀k,gR p w k->w'.heap[k]? = w.heap[k]?:=fun k i=>j.block k (n.ownB i).2 fun e=>by subst e;exact n.notOwn l (by decide) (by decide) (by decide) i
 have O:=A p (n.own.2 (.inl rfl));have I:dO w0.heap.size p T w' C D E m:=by
  refine n.keep A (fun k i=>j.block k i.2.lt fun e=>by subst e;obtain ⟨cs,f,o⟩:=l;exact dU.ne i.2 (by decide) (by decide) ⟨_,_,o⟩) (fun k i=>j.block k (x.ownB i).2 fun e=>?_) j.size;subst e;obtain ⟨u1,u2,u3,y,F,G,H⟩:=x.blk;rcases (qB y).1 i with e | e | e | e
  ·subst e;exact cO (by decide) ⟨_,_,y⟩ l
  ·exact cO (by decide) (F.ty _ e) l
  ·exact cO (by decide) (G.ty _ e) l
  ·exact cO (by decide) (H.ty _ e) l
 have K:Below w0.heap.size w0 w':=by
  refine⟨j.os.trans h.b.os,j.tape.trans h.b.tape,j.output.trans h.b.output,aH h.b.size j.size,fun k i=>?_⟩;rw [j.block k (bG i h.b.size) (fun e=>by have:=z.bp;omega)];exact h.b.block k i
 refine⟨⟨⟨C,D,E,m,I⟩,K⟩,L,fun k i e=>?_,fun k i=>?_⟩
 ·have v:=(gR.same O).1 e;rcases j.row k i with s | s
  ·exact J k s v
  ·have:=(n.ownB v).2;omega
 ·obtain ⟨s,cs,f,o⟩:=Q k i;refine⟨s,cs,f,(j.block k (bH o).1 fun e=>?_).trans o⟩;subst e;exact cO (by decide) ⟨_,_,o⟩ l
theorem Two.excl (h:Two w0 p r q T w) {X':Nat->Prop} (x:Below w0.heap.size w w') (j:∀k,k<w.heap.size->¬T.X k->w'.heap[k]? = w.heap[k]?) (o:∀k,X' k->(T.X k\/w.heap.size<=k)/\∃cs f,w'.heap[k]? = some (.cells cs 3 f)):Two w0 p r q { T with X:=X' } w':=by
 have y:∀k,X' k->k<w'.heap.size:=fun k e=>by obtain ⟨_,cs,f,v⟩:=o k e;exact(bH v).1
 have s:∀k,T.X k->∃cs f,w.heap[k]? = some (.cells cs 3 f):=fun k e=>(h.xd k e).2
 have z:w'.heap[r]? = w.heap[r]?:=j r h.m.plt fun e=>cO (by decide) (s r e) h.m.hd
 have F:=h.st.excl x j (X':=X') fun k e=>⟨(o k e).1,y k e⟩
 have E:w'.heap[p]? = w.heap[p]?:=j p h.st.t.plt fun e=>by
  obtain ⟨H,I,J,m,C⟩:=h.st.t;exact cO (by decide) (s p e) ⟨_,_,C.blk⟩
 refine⟨F,h.m.keep2 z (fun k e=>?_) (fun k e=>?_) (fun k e n=>?_) x.size (fun k n D e=>?_) y,fun k A i=>h.ap k ((rowOf.same z).1 A) ((gR.same E).1 i),fun k e=>⟨?_,(o k e).2⟩⟩
 ·exact j k (h.m.rowTy e).2.1 fun i=>cO (by decide) (s k i) (h.m.rowTy e).2.2
 ·obtain ⟨_,n,cs,t,f,v,G⟩:=h.m.sqTy e;refine j k n fun i=>cO (t:=3) (t':=t) ?_ (s k i) ⟨cs,f,v⟩
  rcases G with rfl | rfl | rfl | rfl <;> decide
 ·rcases e with e | e
  ·exact j k n fun i=>by have:=(h.xd k i).1;omega
  ·exact j k n e.1
 ·rcases (o k e).1 with l | l
  ·exact D l
  ·omega
 ·rcases (o k e).1 with l | l
  ·exact(h.xd k l).1
  ·exact aH h.st.b.size l
end
end Go.Proofs.YtgoojkiccdjplaaGreatDoor
namespace Go.Proofs.YtgoojkiccdjplaaGreatDoor
open Go.RowKit Go.ChangeShapes Go.WideShapes Go.Deep Go.Proofs.Tryz
def lM (P:Program) (t:TypeId) {α:Type} (R:cH α):Prop:=
 P.cellsOf t=R.k/\∀ {H:Type} (enc:TypeId × Value->H) (w:World) (fuel:Nat) (cs:List Value) (x:DataW H × List MemPlace),DataW.trod enc P w 0 (fun _=>true) true fuel t cs=some x->∃y,R.rd (fun _=>True) w y cs
section
variable {P : Program} {t e : TypeId} {α β : Type}
theorem lM.int (j:P.underlying t=some (.int .i64)) (i:P.cellsOf t=1):lM P t cH.int:=⟨i,fun enc w l cs x h=>by
 obtain ⟨n,rfl,_,k⟩:=DataW.trod_int j h;exact⟨n,rfl,bounds_i64 k⟩⟩
theorem lM.bool (j:P.underlying t=some .bool) (i:P.cellsOf t=1):lM P t cH.bool:=⟨i,fun enc w k cs x h=>by
 obtain ⟨n,rfl,_⟩:=DataW.trod_bool j h;exact⟨n,rfl⟩⟩
def cH.strB:cH ByteArray where
 k:=1
 rd _ _ x cs:=cs = [.string x]/\x.size<=maxLen
 len h:=by rw [h.1];rfl
 one h:=by rw [h.1];intro u hu;simp at hu;subst hu;rfl
 keep h _ _:=h
 mono h _:=h
theorem lM.str (k:P.underlying t=some .string) (i:P.cellsOf t=1):lM P t cH.strB:=⟨i,fun enc w l cs x h=>by
 obtain ⟨n,rfl,_,j⟩:=DataW.trod_string k h;exact⟨n,rfl,j⟩⟩
theorem aOz {p:Nat->α->Prop}:∀n,(∀i,i<n->∃y,p i y)->∃ys:List α,ys.length=n/\∀j y,ys[j]? = some y->p j y
 | 0,_=>⟨[],rfl,by simp⟩
 |
  n+1,h=>by
  obtain ⟨ys,l,hy⟩:=aOz n (fun i v=>h i (by omega));obtain ⟨y,s⟩:=h n (by omega);refine⟨ys ++ [y],by simp [l],fun j z k=>?_⟩;by_cases m:j<ys.length
  ·rw [mY m] at k;exact hy j z k
  ·have o:=(gK.1 k).1;rw [dM,kZ] at o;obtain rfl:j=n:=by omega
   rw [<-l,aN9] at k;cases k;exact s
theorem lM.slice {R:cH α} (C:lM P e R) (af:P.underlying t=some (.slice e)) (Q:P.cellsOf t=1) (Y:0<R.k):lM P t (cH.slice R):=⟨Q,fun enc w al cs x h=>by
 rcases open_slice af h with ⟨rfl,_⟩ | ⟨a,z,H,m,n,ai,aj,rfl,_,Z,aa,ab,_,ag⟩
 ·exact⟨[],none,0,0,rfl,aA,aN,bT.nil _ _ _ _⟩
 ·simp only [if_true] at ab;have J:∀i,i<z->∃y,∃l,R.rd (fun _=>True) w y l/\∀j,j<R.k->w.cell? (a.add (i * R.k+j))=l[j]?:=fun i am=>by
   obtain ⟨l,K,L⟩:=ag i (by omega);obtain ⟨y,hy⟩:=C.2 enc w n l _ L;obtain ⟨_,O,A⟩:=World.cells?_some K;rw [C.1] at O A;exact⟨y,l,hy,fun j v=>by rw [<-add_add];exact A j v⟩
  obtain ⟨ys,ah,G⟩:=aOz z J;refine⟨ys,some a,z,H,rfl,Z,aa,ah,fun ao=>?_⟩;obtain ⟨b,o,sp⟩:=a;have I:=cK (show 0<ys.length by omega);obtain ⟨ak,ad,U⟩:=G 0 _ I;have an:=R.len ad;have s:=U 0 Y;rw [nW,cK (by omega)] at s;have ae:sp=none:=by simpa [Addr.add] using World.cell?_spot s
  subst ae;rw [lD] at s;refine⟨b,o,rfl,uK w _ s,trivial,fun j y v=>?_⟩;obtain ⟨l,E,V⟩:=G j y v;refine⟨l,E,fun i u F=>?_⟩;have D:=(gK.1 F).1;rw [R.len E] at D;have:=V i D;rw [lD] at this;rw [nB,this,F]⟩
theorem aNw {R:cH α} {i:Type} {enc:TypeId × Value->i} {w:World} {v:Value} {d:DataW i} {p:List MemPlace} (h:lM P t R) (hd:DataW.Trod enc P w 0 (fun _=>true) true t v d p):∃y,R.rd (fun _=>True) w y v.cells.toList:=by
 obtain ⟨j,k⟩:=hd;exact h.2 enc w j _ _ k
theorem aQp {R:cH α} {i:Type} {enc:TypeId × Value->i} {w:World} {a:Option Addr} {n c:Nat} {d:DataW i} {p:List MemPlace} (h:lM P t (cH.slice R)) (hd:DataW.Trod enc P w 0 (fun _=>true) true t (.slice a n c) d p):∃ys,bT R (fun _=>True) w a n ys/\(n<=c/\c<=9223372036854775807):=by
 obtain ⟨ys,o,v,s,k,l,j,m⟩:=aNw h hd;simp [Value.cells] at k;obtain ⟨rfl,rfl,rfl⟩:=k;exact⟨ys,m,l,by unfold maxLen at j;exact j⟩
def nJ (P:Program) (o:Nat) (fs:List Field) {α:Type} (R:cH α):Prop:=
 ∀(H:Type) (enc:TypeId × Value->H) (w:World) (fuel:Nat) (cs:List Value) (xs:List (DataW H × List MemPlace)),cs.length=o+R.k->xs.length=fs.length ->
  (∀(i:Nat) (f:Field),fs[i]? = some f->DataW.trod enc P w 0 (fun _=>true) true fuel f.type ((cs.drop f.offset).take (P.cellsOf f.type))=xs[i]?)->∃y,R.rd (fun _=>True) w y (cs.drop o)
theorem nJ.one {o:Nat} {f:Field} {R:cH α} (k:f.offset=o) (h:lM P f.type R):nJ P o [f] R:=fun n enc w j cs xs s m l=>by
 obtain ⟨x,rfl⟩:∃x,xs = [x]:=List.length_eq_one_iff.1 m;have i:=l 0 f rfl;simp only [dS] at i;obtain ⟨y,hy⟩:=h.2 enc w j _ x i;refine⟨y,?_⟩;rw [k,h.1] at hy
 rwa [fL (by rw [kQ];omega)] at hy
theorem nJ.cons {o m:Nat} {f:Field} {j:List Field} {R:cH α} {T:cH β} (F:f.offset=o) (h:lM P f.type R) (G:m=o+R.k) (C:nJ P m j T):nJ P o (f :: j) (.prod R T):=fun A enc w n cs xs E l s=>by
 have J:cs.length=o+(R.k+T.k):=E
 match xs,l with
 | x :: ys,l=>
 have v:=s 0 f rfl;simp only [dS] at v;have H:∀(i:Nat) (g:Field),j[i]? = some g->_=ys[i]?:=fun i g D=>by have:=s (i+1) g (by simpa using D);simpa using this
 obtain ⟨y,hy⟩:=h.2 enc w n _ x v;obtain ⟨z,I⟩:=C A enc w n cs ys (by omega) (by simpa using l) H;refine⟨(y,z),(cs.drop o).take R.k,cs.drop m,?_,?_,I⟩
 ·rw [G,<-List.drop_drop];exact(xJ _ _).symm
 ·rw [F,h.1] at hy;exact hy
theorem lM.struct {j:Array Field} {R:cH α} (s:P.underlying t=some (.struct j)) (l:P.cellsOf t=R.k) (h:nJ P 0 j.toList R):lM P t R:=⟨l,fun enc w A cs x v=>by
 obtain ⟨xs,n,_,_,C,z,o⟩:=DataW.trod_struct s v;obtain ⟨y,hy⟩:=h _ enc w n cs xs (by omega) (by simpa using z) (fun i f m=>o i f (by simpa using m));exact⟨y,hy⟩⟩
theorem lM.map {R:cH α} (f:β->α) (g:α->β) (j:∀x,f (g x)=x) (h:lM P t R):lM P t (cH.map f R):=⟨h.1,fun enc w i cs x k=>by
 obtain ⟨y,hy⟩:=h.2 enc w i cs x k;exact⟨g y,by show R.rd _ w (f (g y)) cs;rw [j];exact hy⟩⟩
end
end Go.Proofs.YtgoojkiccdjplaaGreatDoor
