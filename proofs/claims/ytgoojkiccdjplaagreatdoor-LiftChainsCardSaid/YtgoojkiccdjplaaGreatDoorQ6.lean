/-
  Parts of this claim's texts, one behind the other: SH SK RC RD RE RF ZG ZH ZI ZJ ZP UA FN CR UB GA CC CD CE CK CL DA DB UC UD DC. No condition.
-/
import Derived.Test.YtgoojkiccdjplaaGreatDoorQ1
import Derived.BigRegion
import Derived.Test.YtgoojkiccdjplaaGreatDoorQ5
import Derived.Test.YtgoojkiccdjplaaGreatDoorQ3
import Derived.Deep.LoopGhost
import Derived.Lib.ItoaMem
set_option linter.unusedVariables false
set_option linter.unusedSimpArgs false
set_option maxRecDepth 100000
set_option maxHeartbeats 16000000
namespace Go.Proofs.YtgoojkiccdjplaaGreatDoor
open Go.RowKit Go.Sort Go.Lib Go.Proofs.Tryz
def sU:ByteArray:=⟨#[85]⟩
def aKa:ByteArray:=⟨#[66,111,111,108]⟩
def sf:ByteArray:=⟨#[102]⟩
def sg:ByteArray:=⟨#[103]⟩
def sx:ByteArray:=⟨#[120]⟩
def aT0:gE:=⟨[],[],[]⟩
theorem toL (s:ByteArray):s.toList=s.data.toList:=tJ s
theorem aSu (a b:ByteArray):eqS a b=(a.data.toList == b.data.toList):=by unfold eqS;rw [toL,toL]
theorem wG (s:ByteArray):nC s=(!s.data.toList.isEmpty && (decide (s.size<=200) && !zH s)):=by unfold nC;rw [toL]
theorem aXq:nC sU=true:=by rw [wG];decide +kernel
theorem aSv:nC aKa=false:=by rw [wG];decide +kernel
theorem aXr:lO aT0 sU=false:=by unfold lO;rw [aXq];decide +kernel
theorem qC.yes {X:Nat->Prop} {B p:Nat} {T:gE} {s:ByteArray} {w w':World} {e:Ending} (h:qC X B p T s w e w') (a:lO T s=false):e = .returned (.tuple #[.int .i64 ((T.sorts.length:Int)+2),.int .i64 0])/\kS X B p { T with sorts:=T.sorts ++ [s] } w'/\iI p w w':=by
 unfold qC at h;rw [if_neg (by rw [a];decide)] at h;exact⟨h.1.1,h.1.2,h.2⟩
section
variable {X : Nat -> Prop}
theorem cA.funAt {S:Nat->Prop} {w:World} {base:Nat} {e:TypeId} {a:Option Addr} {n c:Nat} {o:List kG} (h:cA oZ S w base e (.slice a n c) o) {k:Nat} {f:kG} (x:o[k]? = some f) :
  ∃g d b,a=some ⟨g,0,none⟩/\w.cell? ⟨g,k * 3,none⟩=some (.string f.name)/\w.cell? ⟨g,k * 3+1,none⟩=some (.slice d f.args.length b)/\w.cell? ⟨g,k * 3+2,none⟩=some (.int .i64 f.res)/\bT cH.int S w d f.args.length f.args/\eI f.res/\f.args.length<=b/\b<=maxLen:=by
 obtain ⟨css,r,j⟩:=h.pairs;have O:=(gK.1 x).1;obtain ⟨g,N,H,_⟩:=r.form (by omega);cases H;obtain ⟨cs,C,E⟩:=j.2 k f x;obtain ⟨d,I,b,rfl,K,L,A,M⟩:=qY.1 E;obtain rfl:I=f.args.length:=A.1.symm;have l:=fun(i:Nat) (u:Value) (G:[Value.string f.name,.slice d f.args.length b,.int .i64 f.res][i]? = some u)=>r.cells (g:=g) rfl _ u (tM (k:=3) (cA.lens j.1 j.2) C G)
 exact⟨g,d,b,rfl,l 0 _ rfl,l 1 _ rfl,l 2 _ rfl,A,M,K,L⟩
theorem aSw {T:gE} {s:ByteArray} {k:Nat} {f:kG} (h:∀j f,j<k->T.funs[j]? = some f->(f.name.toList == s.toList)=false) (d:T.funs[k]? = some f) (l:(f.name.toList == s.toList)=true):jA T s=some f/\fM T s=f:=by
 have e:jA T s=some f:=by
  have:=nQ (p:=fun f:kG=>eqS f.name s) T.funs 0;unfold jA;have c:=rT (p:=fun f:kG=>eqS f.name s) (xs:=T.funs) (fun j f i a=>h j f i a) d l;cases a:T.funs.find? (fun f=>eqS f.name s) with
  | none=>rw [a] at this;dsimp only at this;rw [this] at c;omega
  |
   some y=>
   rw [a] at this;obtain ⟨o,g,b⟩:=this;rw [c] at g;obtain rfl:k=o:=by omega
   rw [d] at b;exact b.symm
 exact⟨e,by unfold fM;rw [e];rfl⟩
theorem aQf {T:gE} {s:ByteArray} (h:∀j f,j<T.funs.length->T.funs[j]? = some f->(f.name.toList == s.toList)=false):jA T s=none/\fM T s=qD:=by
 have e:jA T s=none:=by
  unfold jA;rw [yR];intro f b;obtain ⟨j,a,rfl⟩:=gU b;have:=h j _ a (cK a);show ¬eqS _ _=true;unfold eqS;rw [this];decide
 exact⟨e,by unfold fM;rw [e];rfl⟩
theorem aF6 (B p:Nat) (T:gE) (s:ByteArray) (w:World) (h:kC X B p T w) (N:wV T) :
  Calls prog 112 #[.pointer (some ⟨p,0,none⟩),.string s] w fun e w'=>aV3 X (fM T s) (jA T s).isSome w e w':=by
 have l:Below w.heap.size w (w.alloc (.cells #[.string ⟨#[]⟩,.slice none 0 0,.int .i64 0] 114)):=bJ;have H:=h.all l;have ak:=N.f;have am:=h.plt;obtain ⟨a1,c1,a2,c2,ag,c3,K,_,O,_⟩:=H.look;have ae:=E K 1;simp only [dW,fF,dS] at ae;have U:=Z O;have I:=Z l;have c:=cC w (.cells #[.string ⟨#[]⟩,.slice none 0 0,.int .i64 0] 114);obtain ⟨ao,ap,aq⟩:=eH c;have ah:=aQ c 0;have ai:=aQ c 1;have aj:=aQ c 2;have r:=Z (show ¬kB X (w.alloc (.cells #[.string ⟨#[]⟩,.slice none 0 0,.int .i64 0] 114)) w.heap.size from fun h=>cO (by decide) h.2 ⟨_,_,c⟩);have an:p≠w.heap.size:=by omega
 clear h H l K O c N;go_enter func112,ntmps112
 go_wp2;generalize (w.alloc (.cells #[.string ⟨#[]⟩,.slice none 0 0,.int .i64 0] 114))=w1 at *
 go_loopw [5,6] (fun _ i wr=>∃k:Nat,k<=T.funs.length/\i = .int .i64 k/\wr=w1/\Hid (∀j f,j<k->T.funs[j]? = some f->(f.name.toList == s.toList)=false)) (fun _ i _=>T.funs.length - (intOf i).toNat)
 case atStart=>exact⟨0,aN,rfl,rfl,by intro j f d;omega⟩
 case round=>
  obtain ⟨k,al,rfl,rfl,x⟩:=hrel;by_cases ab:k<T.funs.length
  ·have a:=cK ab;obtain ⟨g,C,G,rfl,ar,au,av,P,af,Q,R⟩:=U.o.funAt a;have V:=Z P;have A:=Z (And.intro Q R);have M:=Z a;clear a P af Q R;cases L:(T.funs[k].name.toList == s.toList)
   ·have ad:=@Z (∀j f,j<k+1->T.funs[j]? = some f->(f.name.toList == s.toList)=false) (fun j f d a=>by
     by_cases aa:j<k
     ·exact x.o j f aa a
     ·obtain rfl:j=k:=by omega
      rw [M.o] at a;cases a;exact L)
    generalize T.funs[k]=f at *;go_wp2
    go_roundw
    case rel=>exact⟨k+1,by omega,by go_num,by trivial,ad.o⟩
    case measure=>simp [intOf];omega
   ·have b:=Z (aSw (fun j f d a=>x.o j f d a) M.o L);generalize T.funs[k]=f at *;go_wp2;refine bodyPost_ret (v:=.tuple #[aC9 f.name C f.args.length G f.res,.bool true]) (by simp [results,results112,go_sem, *]) rfl ?_;refine⟨C,G,by rw [b.o.1,b.o.2] <;> rfl,by rw [b.o.2];exact((V.o.intSet r.o).intSet (fun h=>r.o (jU.1 h))).intSet (fun h=>r.o (jU.1 (jU.1 h))),by rw [b.o.2];exact A.o.1,A.o.2,?_⟩;exact((I.o.setCell aA _).setCell aA _).setCell aA _
  ·have b:=Z (aQf (T:=T) (s:=s) (fun j f d a=>x.o j f (by omega) a));go_wp2;refine bodyPost_ret (v:=.tuple #[aC9 ⟨#[]⟩ none 0 0 0,.bool false]) (by simp [results,results112,go_sem, *]) rfl ?_;refine⟨none,0,by rw [b.o.1,b.o.2] <;> rfl,by rw [b.o.2];exact bT.nil _ _ _ _,by rw [b.o.2];exact aA,aN,?_⟩;exact((I.o.setCell aA _).setCell aA _).setCell aA _
theorem aSx:nC aKa=false:=aSv
theorem aSy:nC ⟨#[82,101,97,108]⟩=false:=by rw [wG];decide +kernel
theorem aYo {T:gE} {s:ByteArray}:(!nC s || (kJ T s).2)=lO T s:=by
 unfold lO;cases a:nC s
 ·rfl
 ·have c:(s.toList == [66,111,111,108])=false:=by
   cases h:(s.toList == [66,111,111,108])
   ·rfl
   ·have:s=aKa:=toList_inj (by rw [toL aKa];simpa [aKa] using h);rw [this,aSx] at a;cases a
  have d:(s.toList == [82,101,97,108])=false:=by
   cases h:(s.toList == [82,101,97,108])
   ·rfl
   ·have:s=⟨#[82,101,97,108]⟩:=toList_inj (by rw [toL ⟨#[82,101,97,108]⟩];simpa using h);rw [this,aSy] at a;cases a
  unfold kJ Lib.containsS;rw [c,d];by_cases b:Lib.idxOfS T.sorts s<0
  ·simp [b]
  ·simp [b];omega
def pS (X:Nat->Prop) (B p:Nat) (T:gE) (s:ByteArray) (w:World) (e:Ending) (w':World):Prop:=
 (if lO T s then e = .returned (.tuple #[.int .i64 0,.int .i64 1])/\kC X B p T w' else e = .returned (.tuple #[.int .i64 ((T.sorts.length:Int)+2),.int .i64 0])/\kC X B p { T with sorts:=T.sorts ++ [s] } w')/\iI p w w'
theorem aSz {z:ByteArray}:∀u ∈ [Value.string z],u.oneCell'=true:=by
 intro u a;obtain rfl:=eP.1 a;rfl
theorem below_grown {w W:World} {b:Option Nat} (h:Below w.heap.size w W):w.grownBy W b:=⟨h.os,h.tape,h.output,h.size,fun k a _=>h.block k a⟩
theorem aF7 (B p:Nat) (T:gE) (s:ByteArray) (w:World) (h:kC X B p T w) (ap:T.sorts.length<1099511627776) :
  Calls prog 58 #[.pointer (some ⟨p,0,none⟩),.string s] w fun e w'=>pS X B p T s w e w':=by
 have g:=Z h;have A:=Z (aFa B p T s w h ap);have i:=Z (aF5 s w);have c:=Z (aYo (T:=T) (s:=s));obtain ⟨aD,ab,af,ag,ah⟩:=info_parts aIp;clear h;cases r:lO T s
 case true=>
  rw [r] at c;cases a:nC s
  ·rw [a] at i;clear a c;go_enter func58,ntmps58
   go_wp2_with fail
   refine A.o.mono ?_;rintro e w' ⟨rfl,rfl⟩
   go_wp2_with fail
   refine i.o.mono ?_;rintro e w1 ⟨rfl,b⟩;have d:=Z b;clear b;go_wp2;go_ret2;unfold pS;rw [if_pos r];exact⟨⟨rfl,g.o.all d.o⟩,.of_below g.o.plt d.o⟩
  ·have x:(kJ T s).2=true:=by have:=c.o;rw [a] at this;simpa using this
   rw [a] at i;rw [x] at A;clear a c x;go_enter func58,ntmps58
   go_wp2_with fail
   refine A.o.mono ?_;rintro e w' ⟨rfl,rfl⟩
   go_wp2_with fail
   refine i.o.mono ?_;rintro e w1 ⟨rfl,b⟩;have d:=Z b;clear b;go_wp2;go_ret2;unfold pS;rw [if_pos r];exact⟨⟨rfl,g.o.all d.o⟩,.of_below g.o.plt d.o⟩
 case false=>
  rw [r] at c;have a:nC s=true:=by have:=c.o;cases a:nC s <;> simp_all
  have x:(kJ T s).2=false:=by have:=c.o;rw [a] at this;simpa using this
  rw [a] at i;rw [x] at A;clear a c x;go_enter func58,ntmps58
  go_wp2_with fail
  refine A.o.mono ?_;rintro e w' ⟨rfl,rfl⟩
  go_wp2_with fail
  refine i.o.mono ?_;rintro e w1 ⟨rfl,b⟩;have d:=Z b;have H:=Z (g.o.all b);obtain ⟨a1,c1,a2,c2,a6,c3,L,N,aq,ar⟩:=H.o.look;have ai:w1.cell? ⟨p,0,none⟩=some (.slice a1 T.sorts.length c1):=E L 0;have U:=Z L;have ae:=H.o.plt;obtain ⟨css,G,aj,_⟩:=(N.read (S':=fun _=>True) (fun _ _ _=>trivial) (fun _ _=>trivial)).pairs;obtain ⟨an,_,K⟩:=N.pairs;have ao:css=an:=by
   apply List.ext_getElem?;intro j;by_cases ad:j<T.sorts.length
   ·obtain ⟨ay,y1,z1⟩:=G.2 j _ (cK ad);obtain ⟨az,y2,z2⟩:=K.2 j _ (cK ad);have a0:ay = [.string _]:=z1;have a3:az = [.string _]:=z2;rw [y1,y2,a0,a3]
   ·rw [vJ (by rw [G.1];omega),vJ (by rw [K.1];omega)]
  subst ao;have sA:=Z (show Src w1 1 a1 T.sorts.length css.flatten by have:=aj T.sorts.length aA;rwa [fL (by rw [G.1];exact aA)] at this);have au:=Z K;have av:=Z G.ones;clear b L N aq ar G K aj;have Q:Below w1.heap.size w1 (w1.alloc (.cells #[] 9)):=eJ (aO _ _) _;have R:=Z Q;clear Q
  go_wp2_with (at_builtin;refine cI (base:=w1.heap.size) rfl (.tmp 21) (.tmp 25) rfl underlying60 ab af ag ah rfl (by decide) (Eq.refl (Value.slice _ _ _)) rfl (aW.lit0 rfl aA) (Src.keep sA.o R.o) av.o ?c3 ?c4 ?c5 ?_)
  case c3=>unfold maxLen;omega
  case c4=>omega
  case c5=>simp
  intro v' aG M V _;have O:=Z (eR R.o V (by intro k C;simp [Value.ownBlock] at C;omega));obtain ⟨a4,a7,rfl,_⟩:=M.slice;have P:=Z M;clear M V;have aC:=O.o.size
  go_wp2_with (at_builtin;refine cI (base:=w1.heap.size) rfl (.tmp 26) (.tmp 28) rfl underlying60 ab af ag ah rfl (by decide) (Eq.refl (Value.slice _ _ _)) rfl (P.o.alloc _) (Src.lit (kH.lit1 rfl) rfl) aSz ?c3 ?c4 ?c5 ?_)
  case c3=>unfold maxLen;omega
  case c4=>omega
  case c5=>simp;omega
  intro aF aI I aa _;have l:=eR (eJ O.o _) aa (fun k C=>(P.o.lt k C).1);have ak:=Z l;have aE:=aB l ai;have a9:=aQ ((l.block p ae).trans U.o) 0;obtain ⟨a5,a8,rfl,_⟩:=I.slice;have am:=Z (((au.o.append (jF.one (show cH.str.rd (fun _=>False) w1 s [.string s] from rfl))).below l).own (by rw [aGx,aGp];exact I.lower (aH H.o.bp (gM ae))) (by simp));have al:=Z (fun k C=>(I.lt k C).1);clear I aa l ai;go_wp2;go_ret2;unfold pS;rw [if_neg (by rw [r];decide)];obtain ⟨ax,aw⟩:=H.o.setSorts U.o (below_grown ak.o) (.inr al.o) am.o;refine⟨⟨?_,ax⟩,(iI.of_below g.o.plt d.o).trans aw⟩;simp;omega
end
section
variable {X : Nat -> Prop}
theorem wH {xs:List Int}:∀u∈xs.map (Value.int .i64),u.oneCell'=true:=by
 intro u a;obtain ⟨x,_,rfl⟩:=qA.1 a;rfl
theorem aW.carry {w W:World} {base size n:Nat} {e:TypeId} {v:Value} {xs:List Value} {b:Option Nat} (h:aW w base e size v n xs) (c:w.grownBy W b) (d:∀k,v.ownBlock=some k->b≠some k):aW W base e size v n xs:=
 h.same fun k a=>c.block k (h.lt k a).2 (lN (d k a))
theorem aAc {w:World} {base n:Nat} {a:Option Addr} {m c:Nat} {xs:List Int} (h:aW w base 3 1 (.slice a m c) n (xs.map (Value.int .i64))) (e:WfI xs) (d:∀k,X k->k<base):bT cH.int (kB X w) w a n xs:=by
 obtain ⟨_,b,_⟩:=h.rdI e;refine bT.ofI b fun x j g=>?_
 subst g;exact⟨fun i=>by have:=d _ i;have:=(h.lt _ rfl).1;omega,h.ty _ rfl⟩
def lL (X:Nat->Prop) (B p:Nat) (T:gE) (f:kG) (w:World) (e:Ending) (w':World):Prop:=
 e = .returned (.int .i64 (gF T f))/\kC X B p (uN T f) w'/\iI p w w'
theorem lL.no {B p:Nat} {T:gE} {f:kG} {w w':World} {z:Int} (h:kC X B p T w) (a:Below w.heap.size w w') (b:gF T f=z) (c:z≠0):lL X B p T f w (.returned (.int .i64 z)) w':=by
 refine⟨by rw [b],?_,.of_below h.plt a⟩;unfold uN;rw [b,if_neg c];exact h.all a
theorem aD2 {B p:Nat} {T:gE} {nm:ByteArray} {args:List Int} {r:Int} {w wr W:World} {a1 a2 G c i:Option Addr} {c1 c2 c3 a l:Nat} {css:List (List Value)} {e:Nat} {E:List Value} (h:kC X B p T wr)
  (d:wr.heap[p]? = some (.cells #[.slice a1 T.sorts.length c1,.slice a2 T.funs.length c2,.slice G T.marks.length c3] 107 (0,0)))
  (g:Below wr.heap.size wr W) (A:jF oZ (kB X wr) wr T.funs css) (aa:E=css.flatten ++ [Value.string nm,.slice c args.length a,.int .i64 r]/\e=T.funs.length+1)
  (o:aW W wr.heap.size 114 3 (.slice i e l) e E) (N:aW W wr.heap.size 3 1 (.slice c args.length a) args.length (args.map (Value.int .i64)))
  (V:WfI args) (R:eI r) (K:args.length<=a) (L:a<=maxLen) (C:gF T ⟨nm,args,r⟩=0) (Q:iI p w wr):lL X B p T ⟨nm,args,r⟩ w (.returned (.int .i64 0)) (W.setCell ⟨p,1,none⟩ (.slice i e l)):=by
 obtain ⟨rfl,rfl⟩:=aa;have U:=(qY (f:=⟨nm,args,r⟩)).2 ⟨c,_,a,rfl,K,L,aAc N V h.xlt,R⟩;have P:jF oZ (kB X W) W (T.funs ++ [⟨nm,args,r⟩]) (css ++ [[.string nm,.slice c args.length a,.int .i64 r]]):=by
  refine jF.append ⟨A.1,fun j x Z=>?_⟩ (jF.one U);obtain ⟨cs,H,I⟩:=(A.below g).2 j x Z;exact⟨cs,H,oZ.mono I fun b _ d=>d.same (g.block b d.lt)⟩
 have M:=P.own (by rw [aGx,aGp];exact o.lower (aH h.bp (gM h.plt))) (by simp);obtain ⟨ad,ab⟩:=h.setFuns d (below_grown g) (.inr fun k O=>(o.lt k O).1) M;refine⟨by rw [C],?_,Q.trans ab⟩;unfold uN;rw [C,if_pos rfl];exact ad
theorem aKb (B p:Nat) (T:gE) (f:kG) (a:Option Addr) (c:Nat) (w:World) (h:kC X B p T w) (ba:wV T) (b8:jQ w a f.args.length f.args) (bY:f.args.length<1099511627776) (bK:f.args.length<=c) :
  Calls prog 61 #[.pointer (some ⟨p,0,none⟩),aC9 f.name a f.args.length c f.res] w fun e w'=>lL X B p T f w e w':=by
 have aj:=Z h;have b9:=Z b8;have hd:=@Z (gF T f=if !oC T f.name then 1 else if decide (64<f.args.length) then 1 else if !xK T.sorts.length f.res then 1 else if f.args.any (mM T.sorts.length) then 1 else if decide (1000<=T.funs.length) then 4 else 0) rfl;have al:=@Z (oC T f.name=(nC f.name && !(jA T f.name).isSome)) rfl;have bc:Below w.heap.size w (w.alloc (.cells #[.string f.name,.slice a f.args.length c,.int .i64 f.res] 114)):=bJ;have aO:=Z bc;have aT:=Z (aF6 B p T f.name _ (h.all bc) ba);have bM:=h.plt;have bl:=ba.s;have bW:=ba.f;clear h ba b8 bc;generalize fM T f.name=d at *;generalize bX:(jA T f.name).isSome=bC at *;obtain ⟨nm,args,r⟩:=f;dsimp only at *;have a3:=Z (fun w=>aF5 nm w);cases ax:nC nm
 case false=>
  have N:=@Z (gF T ⟨nm,args,r⟩=1) (by rw [hd.o,al.o,ax];rfl);rw [ax] at a3;clear ax hd al;go_enter func61,ntmps61
  go_wp2_with fail
  refine aT.o.mono ?_;rintro e w1 ⟨H,I,rfl,_,_,_,M⟩;have O:=aO.o.trans (M.mono (by simp));have V:=O.alloc O.size (.cells #[.string d.name,.slice H d.args.length I,.int .i64 d.res] 114);have C:=(fB w1 (.cells #[.string d.name,.slice H d.args.length I,.int .i64 d.res] 114) w.heap.size (by have:=M.size;simp at this;omega)).trans ((M.block w.heap.size (by simp)).trans (cC w _));have aa:=Z V;have ao:=Z C;have af:=(bH C).1;have ap:(w1.alloc (.cells #[.string d.name,.slice H d.args.length I,.int .i64 d.res] 114)).cell? ⟨w.heap.size,0,none⟩=some (.string nm):=E C 0;have aq:(w1.alloc (.cells #[.string d.name,.slice H d.args.length I,.int .i64 d.res] 114)).cell? ⟨w.heap.size,1,none⟩=some (.slice a args.length c):=E C 1;have ar:(w1.alloc (.cells #[.string d.name,.slice H d.args.length I,.int .i64 d.res] 114)).cell? ⟨w.heap.size,2,none⟩=some (.int .i64 r):=E C 2;clear O V C M
  go_wp2_with fail
  refine(a3.o _).mono ?_;rintro e K ⟨rfl,P⟩;have Q:=Z (aa.o.trans (P.mono aa.o.size));have L:=(P.block w.heap.size af).trans ao.o;have ay:K.cell? ⟨w.heap.size,0,none⟩=some (.string nm):=E L 0;have az:K.cell? ⟨w.heap.size,1,none⟩=some (.slice a args.length c):=E L 1;have a0:K.cell? ⟨w.heap.size,2,none⟩=some (.int .i64 r):=E L 2;have ai:=Z (aj.o.all Q.o);clear P L af ap aq ar;go_wp2;go_ret;exact lL.no aj.o Q.o N.o (by decide)
 case true=>
 rw [ax] at a3 al;cases bC
 case true=>
  have N:=@Z (gF T ⟨nm,args,r⟩=1) (by rw [hd.o,al.o];rfl);clear ax hd al;go_enter func61,ntmps61
  go_wp2_with fail
  refine aT.o.mono ?_;rintro e w1 ⟨H,I,rfl,_,_,_,M⟩;have O:=aO.o.trans (M.mono (by simp));have V:=O.alloc O.size (.cells #[.string d.name,.slice H d.args.length I,.int .i64 d.res] 114);have C:=(fB w1 (.cells #[.string d.name,.slice H d.args.length I,.int .i64 d.res] 114) w.heap.size (by have:=M.size;simp at this;omega)).trans ((M.block w.heap.size (by simp)).trans (cC w _));have aa:=Z V;have ao:=Z C;have af:=(bH C).1;have ap:(w1.alloc (.cells #[.string d.name,.slice H d.args.length I,.int .i64 d.res] 114)).cell? ⟨w.heap.size,0,none⟩=some (.string nm):=E C 0;have aq:(w1.alloc (.cells #[.string d.name,.slice H d.args.length I,.int .i64 d.res] 114)).cell? ⟨w.heap.size,1,none⟩=some (.slice a args.length c):=E C 1;have ar:(w1.alloc (.cells #[.string d.name,.slice H d.args.length I,.int .i64 d.res] 114)).cell? ⟨w.heap.size,2,none⟩=some (.int .i64 r):=E C 2;clear O V C M
  go_wp2_with fail
  refine(a3.o _).mono ?_;rintro e K ⟨rfl,P⟩;have Q:=Z (aa.o.trans (P.mono aa.o.size));have L:=(P.block w.heap.size af).trans ao.o;have ay:K.cell? ⟨w.heap.size,0,none⟩=some (.string nm):=E L 0;have az:K.cell? ⟨w.heap.size,1,none⟩=some (.slice a args.length c):=E L 1;have a0:K.cell? ⟨w.heap.size,2,none⟩=some (.int .i64 r):=E L 2;have ai:=Z (aj.o.all Q.o);clear P L af ap aq ar;go_wp2;go_ret;exact lL.no aj.o Q.o N.o (by decide)
 case false=>
 by_cases b3:64<args.length
 ·have N:=@Z (gF T ⟨nm,args,r⟩=1) (by rw [hd.o,al.o];simp [b3]);have bU:(64:Int)<args.length:=by omega
  clear ax hd al;go_enter func61,ntmps61
  go_wp2_with fail
  refine aT.o.mono ?_;rintro e w1 ⟨H,I,rfl,_,_,_,M⟩;have O:=aO.o.trans (M.mono (by simp));have V:=O.alloc O.size (.cells #[.string d.name,.slice H d.args.length I,.int .i64 d.res] 114);have C:=(fB w1 (.cells #[.string d.name,.slice H d.args.length I,.int .i64 d.res] 114) w.heap.size (by have:=M.size;simp at this;omega)).trans ((M.block w.heap.size (by simp)).trans (cC w _));have aa:=Z V;have ao:=Z C;have af:=(bH C).1;have ap:(w1.alloc (.cells #[.string d.name,.slice H d.args.length I,.int .i64 d.res] 114)).cell? ⟨w.heap.size,0,none⟩=some (.string nm):=E C 0;have aq:(w1.alloc (.cells #[.string d.name,.slice H d.args.length I,.int .i64 d.res] 114)).cell? ⟨w.heap.size,1,none⟩=some (.slice a args.length c):=E C 1;have ar:(w1.alloc (.cells #[.string d.name,.slice H d.args.length I,.int .i64 d.res] 114)).cell? ⟨w.heap.size,2,none⟩=some (.int .i64 r):=E C 2;clear O V C M
  go_wp2_with fail
  refine(a3.o _).mono ?_;rintro e K ⟨rfl,P⟩;have Q:=Z (aa.o.trans (P.mono aa.o.size));have L:=(P.block w.heap.size af).trans ao.o;have ay:K.cell? ⟨w.heap.size,0,none⟩=some (.string nm):=E L 0;have az:K.cell? ⟨w.heap.size,1,none⟩=some (.slice a args.length c):=E L 1;have a0:K.cell? ⟨w.heap.size,2,none⟩=some (.int .i64 r):=E L 2;have ai:=Z (aj.o.all Q.o);clear P L af ap aq ar;go_wp2;go_ret;exact lL.no aj.o Q.o N.o (by decide)
 cases av:xK T.sorts.length r
 case false=>
  have N:=@Z (gF T ⟨nm,args,r⟩=1) (by rw [hd.o,al.o,av];simp);clear ax hd al;go_enter func61,ntmps61
  go_wp2_with fail
  refine aT.o.mono ?_;rintro e w1 ⟨H,I,rfl,_,_,_,M⟩;have O:=aO.o.trans (M.mono (by simp));have V:=O.alloc O.size (.cells #[.string d.name,.slice H d.args.length I,.int .i64 d.res] 114);have C:=(fB w1 (.cells #[.string d.name,.slice H d.args.length I,.int .i64 d.res] 114) w.heap.size (by have:=M.size;simp at this;omega)).trans ((M.block w.heap.size (by simp)).trans (cC w _));have aa:=Z V;have ao:=Z C;have af:=(bH C).1;have ap:(w1.alloc (.cells #[.string d.name,.slice H d.args.length I,.int .i64 d.res] 114)).cell? ⟨w.heap.size,0,none⟩=some (.string nm):=E C 0;have aq:(w1.alloc (.cells #[.string d.name,.slice H d.args.length I,.int .i64 d.res] 114)).cell? ⟨w.heap.size,1,none⟩=some (.slice a args.length c):=E C 1;have ar:(w1.alloc (.cells #[.string d.name,.slice H d.args.length I,.int .i64 d.res] 114)).cell? ⟨w.heap.size,2,none⟩=some (.int .i64 r):=E C 2;clear O V C M
  go_wp2_with fail
  refine(a3.o _).mono ?_;rintro e K ⟨rfl,P⟩;have Q:=Z (aa.o.trans (P.mono aa.o.size));have L:=(P.block w.heap.size af).trans ao.o;have ay:K.cell? ⟨w.heap.size,0,none⟩=some (.string nm):=E L 0;have az:K.cell? ⟨w.heap.size,1,none⟩=some (.slice a args.length c):=E L 1;have a0:K.cell? ⟨w.heap.size,2,none⟩=some (.int .i64 r):=E L 2;have ai:=Z (aj.o.all Q.o);clear P L af ap aq ar;have a7:=Z (aH3 B p T r K ai.o bl);rw [av] at a7;clear av
  go_wp2_with fail
  refine a7.o.mono ?_;rintro e w' ⟨rfl,rfl⟩;go_wp2;go_ret;exact lL.no aj.o Q.o N.o (by decide)
 case true=>
 have aS:=@Z (gF T ⟨nm,args,r⟩=if args.any (mM T.sorts.length) then 1 else if decide (1000<=T.funs.length) then 4 else 0) (by rw [hd.o,al.o,av];simp [b3]);have b7:eI r:=by unfold xK at av;simp at av;unfold eI;omega
 have bk:=Z b7;clear ax hd al b7;obtain ⟨cb,a6,a9,aC,aD⟩:=info_parts aIq;obtain ⟨cc,aw,bn,bo,bp⟩:=info_parts lE;go_enter func61,ntmps61
 go_wp2_with fail
 refine aT.o.mono ?_;rintro e w1 ⟨H,I,rfl,_,_,_,M⟩;have O:=aO.o.trans (M.mono (by simp));have V:=O.alloc O.size (.cells #[.string d.name,.slice H d.args.length I,.int .i64 d.res] 114);have C:=(fB w1 (.cells #[.string d.name,.slice H d.args.length I,.int .i64 d.res] 114) w.heap.size (by have:=M.size;simp at this;omega)).trans ((M.block w.heap.size (by simp)).trans (cC w _));have aa:=Z V;have ao:=Z C;have af:=(bH C).1;have ap:(w1.alloc (.cells #[.string d.name,.slice H d.args.length I,.int .i64 d.res] 114)).cell? ⟨w.heap.size,0,none⟩=some (.string nm):=E C 0;have aq:(w1.alloc (.cells #[.string d.name,.slice H d.args.length I,.int .i64 d.res] 114)).cell? ⟨w.heap.size,1,none⟩=some (.slice a args.length c):=E C 1;have ar:(w1.alloc (.cells #[.string d.name,.slice H d.args.length I,.int .i64 d.res] 114)).cell? ⟨w.heap.size,2,none⟩=some (.int .i64 r):=E C 2;clear O V C M
 go_wp2_with fail
 refine(a3.o _).mono ?_;rintro e K ⟨rfl,P⟩;have Q:=Z (aa.o.trans (P.mono aa.o.size));have L:=(P.block w.heap.size af).trans ao.o;have ay:K.cell? ⟨w.heap.size,0,none⟩=some (.string nm):=E L 0;have az:K.cell? ⟨w.heap.size,1,none⟩=some (.slice a args.length c):=E L 1;have a0:K.cell? ⟨w.heap.size,2,none⟩=some (.int .i64 r):=E L 2;have ai:=Z (aj.o.all Q.o);clear P L af ap aq ar;have a7:=Z (aH3 B p T r K ai.o bl);rw [av] at a7;have b4:=Z (fun s=>aH3 B p T s K ai.o bl);obtain ⟨a1,c1,a2,c2,bR,c3,bf,bP,bq,bQ⟩:=ai.o.look;have a4:K.cell? ⟨p,1,none⟩=some (.slice a2 T.funs.length c2):=E bf 1;have a5:=Z bf;have bw:=Z (b9.o.below Q.o aA);have bv:=Z (show WfI args from b9.o.wf);have bu:=Z (show Src K 1 a args.length (args.map (Value.int .i64)) by have:=(bw.o.srcs (q:=args.length) aA bK).1;rwa [nA] at this);have bi:=Z (iI.of_below bM Q.o);obtain ⟨css,bb,bs⟩:=bq.pairs;have bI:=bq.slice;have sA:=Z (show Src K 3 a2 T.funs.length css.flatten by
  refine⟨bb.1,fun bD=>?_⟩;obtain ⟨g,bS,N,_⟩:=bb.form bD;cases N;exact⟨_,rfl,fun j u bN=>by rw [lD,dT];exact bb.cells (g:=g) rfl j u bN⟩)
 have br:=Z bs;have bt:=Z bs.ones;clear av bf bP bq bQ bb bs bI
 go_wp2_with fail
 refine a7.o.mono ?_;rintro e w' ⟨rfl,rfl⟩;go_wp2
 go_loopw [4,7] (fun _ i wr=>∃k:Nat,k<=args.length/\i = .int .i64 k/\wr=K/\Hid (∀j,j<k->mM T.sorts.length (nth args j)=false)) (fun _ i _=>args.length - (intOf i).toNat)
 case atStart=>exact⟨0,aN,rfl,rfl,fun j aw=>absurd aw (oX _)⟩
 case round=>
  obtain ⟨k,l,rfl,rfl,bh⟩:=hrel;by_cases b6:k<args.length
  ·obtain ⟨b,o,rfl,bT⟩:=bw.o.at k b6;have bA:=Z (fun be=>aQ2 (p:=mM T.sorts.length) b6 be);have bL:=Z (fun be:mM T.sorts.length (nth args k)=false=>show ∀j,j<k+1->mM T.sorts.length (nth args j)=false from fun j aw=>by
    by_cases e:j=k
    ·subst e;exact be
    ·exact bh.o j (by omega))
   have bd:=@Z (mM T.sorts.length (nth args k)=(nth args k == 0 || !xK T.sorts.length (nth args k))) rfl;generalize nth args k=x at *;by_cases bm:x=0
   ·have N:=@Z (gF T ⟨nm,args,r⟩=1) (by rw [aS.o,bA.o (by rw [bd.o,bm];rfl)];rfl);subst bm;go_wp2;go_ret;exact lL.no aj.o Q.o N.o (by decide)
   have bO:(x == 0)=false:=by simpa using bm
   have aZ:=Z (b4.o x);cases a8:xK T.sorts.length x
   case false=>
    have N:=@Z (gF T ⟨nm,args,r⟩=1) (by rw [aS.o,bA.o (by rw [bd.o,a8];simp)];rfl);rw [a8] at aZ;clear a8
    go_wp2_with fail
    refine aZ.o.mono ?_;rintro e w' ⟨rfl,rfl⟩;go_wp2;go_ret;exact lL.no aj.o Q.o N.o (by decide)
   case true=>
    have N:=Z (bL.o (by rw [bd.o,a8,bO];rfl));rw [a8] at aZ;clear a8
    go_wp2_with fail
    refine aZ.o.mono ?_;rintro e w' ⟨rfl,rfl⟩;go_wp2
    go_roundw
    case rel=>exact⟨k+1,by omega,by go_num,by trivial,N.o⟩
    case measure=>simp [intOf];omega
  ·obtain rfl:k=args.length:=by omega
   have bg:=Z (aBl (fun j aw=>bh.o j aw));by_cases b2:1000<=T.funs.length
   ·have N:=@Z (gF T ⟨nm,args,r⟩=4) (by rw [aS.o,bg.o];simp [b2]);have bE:(1000:Int)<=T.funs.length:=by omega
    go_wp2;go_ret;exact lL.no aj.o Q.o N.o (by decide)
   ·have N:=@Z (gF T ⟨nm,args,r⟩=0) (by rw [aS.o,bg.o];simp [b2]);have bE:(T.funs.length:Int)<1000:=by omega
    have bj:=ai.o.plt;clear bh bg aS a7 b4;go_wp2;refine bF (S:=fun W=>Below wr.heap.size wr W) 18 (by kernel_rfl) (by kernel_rfl) (aF wr) (fun bV=>?_);refine aE 0 ?_;refine aE 2 ?_;refine aE 3 ?_;refine aE 4 ?_;refine aE 5 (hy:=(Or.inl ⟨by rfl,by(intro W bG;have ca:=aB (p:=⟨p,1,none⟩) bG a4;go_simp <;> with_reducible rfl)⟩)) ?_;refine aE 7 ?_;refine dF 8 (fun W h=>aB h ay) ?_;refine aE 10 ?_;refine dF 11 (fun W h=>aB h az) ?_;refine aE 13 ?_;refine dF 14 (fun W h=>aB h a0) ?_;refine gW (rs:=[1,9]) (by decide +kernel) (cQ (by rfl) (fun G A=>?_) (cQ (by rfl) (fun G A=>?_) gV))
    ·skip
     go_simp;refine A.out _ _ (by(exact eJ (by assumption) _)) (fun hHeld2=>?_);clear A G;(try simp only [Act.put,sA,sB,sC]);refine gW (rs:=[6,9]) (by decide +kernel) (cQ (by rfl) (fun G A=>?_) (cQ (by rfl) (fun G A=>?_) gV))
     ·skip
      refine bZ (base:=wr.heap.size) (by rfl) (.tmp 65) (.tmp 69) (by rfl) underlying104 a6 a9 aC aD rfl (by decide) (Eq.refl (Value.slice _ _ _)) (by rfl) (by first | exact aW.lit0 (by simp) (by simp) | exact(aW.lit0 (by simp) (by simp)).alloc _) (Src.keep sA.o (by assumption)) bt.o (by unfold maxLen;omega) (by omega) (fU (w:=wr) (by assumption)) ?_;intro v' aU ag ad _;rw [dT,iE] at ag;have U:=Z ag;obtain ⟨aJ,aL,rfl,_,_⟩:=ag.slice
      first
      | have R:=Z (aW.carry (base:=wr.heap.size) (e:=3) (size:=1) (v:=.slice (some ⟨wr.heap.size+1,0,none⟩) 0 0) (aW.lit0 (by simp) (by simp)).drew ad (by intro k l;simp [Value.ownBlock] at l;subst l;simp [Value.ownBlock]))
      | have R:=Z (aW.carry (base:=wr.heap.size) (e:=3) (size:=1) (v:=.slice (some ⟨wr.heap.size,0,none⟩) 0 0) ((aW.lit0 (by simp) (by simp)).alloc _).drew ad (by intro k l;simp [Value.ownBlock] at l;subst l;simp [Value.ownBlock]))
      | have R:=Z True.intro
      clear ag;refine A.out _ _ (by(exact eR (by assumption) ad (by intro k l;simp [Value.ownBlock] at l;omega))) (fun hHeld3=>?_);clear A G;refine aV 9 fun G A=>?_;go_simp;refine A.out _ _ (by(exact eJ (by assumption) _)) (fun hHeld4=>?_);clear A G;refine aV 12 fun G A=>?_;refine bZ (base:=wr.heap.size) (by rfl) (.tmp 73) (.tmp 75) (by rfl) underlying23 aw bn bo bp rfl (by decide) (Eq.refl (Value.slice _ _ _)) (by rfl) (by first | exact R.o | exact aW.lit0 (by first | rfl | simp) (fU (w:=wr) (by assumption))) (Src.keep bu.o (by assumption)) wH (by unfold maxLen;omega) (by omega) (fU (w:=wr) (by assumption)) ?_;intro v' aX ah ae b5;rw [dT,iE] at ah;have au:=Z ah;have ak:=Z (by first
       | exact aW.carry U.o ae (fun k l e=>cO (by decide) (U.o.ty k l) (R.o.ty k e))
       | exact aW.carry (U.o.alloc _) ae (fun k l e=>by have:=(U.o.lt k l).2;simp [Value.ownBlock] at e;omega):aW aX wr.heap.size 114 3 (.slice aJ T.funs.length aL) T.funs.length css.flatten)
      obtain ⟨aK,aM,rfl,aP,aR⟩:=ah.slice;clear ah;refine A.out _ _ (by(exact eR (by assumption) ae (by first | exact(fun k l=>(R.o.lt k l).1) | (intro k l;have bB:=fU (w:=wr) (w':=aU) (by assumption);simp [Value.ownBlock] at l;omega)))) (fun hHeld5=>?_);clear A G;(try simp only [Act.put,sA,sB,sC]);refine aE 15 ?_;refine aV 16 fun G A=>?_;go_simp;refine A.out _ _ (by(exact eJ (by assumption) _)) (fun hHeld6=>?_);clear A G;refine aV 17 fun G A=>?_;refine bZ (base:=wr.heap.size) (by rfl) (.tmp 70) (.tmp 80) (by rfl) underlying104 a6 a9 aC aD rfl (by decide) (Eq.refl (Value.slice _ _ _)) (by rfl) (ak.o.alloc _) (Src.lit (kH.lit (us:=[Value.string nm,.slice aK args.length aM,.int .i64 r]) (by first | rfl | simp)) rfl) tN (by unfold maxLen;omega) (by omega) (fU (w:=wr) (by assumption)) ?_;intro v' aY an am _;have aI:=Z an;have aH:=Z ((au.o.alloc _).carry am (fun k l e=>cO (by decide) (ak.o.ty k e) (au.o.ty k l)));obtain ⟨bx,bz,rfl,_,_⟩:=an.slice;clear an;refine A.out _ _ (by(exact eR (by assumption) am (fun k l=>(ak.o.lt k l).1))) (fun hHeld7=>?_);clear A G;(try simp only [Act.put,sA,sB,sC]);refine cF (by decide +kernel) ?_;simp only [dL,cW];have ab:Below wr.heap.size wr aY:=by assumption
      have aG:=Z ab;have b1:=aB ab a4;have b0:=(aQ ((ab.block p bj).trans a5.o) 1);clear ad ae am ab ay az a0 a4;go_wp2;go_ret;exact aD2 ai.o a5.o aG.o br.o ⟨rfl,rfl⟩ aI.o aH.o bv.o bk.o aP aR N.o bi.o
     ·skip
      go_simp;refine A.out _ _ (by(exact eJ (by assumption) _)) (fun hHeld3=>?_);clear A G;refine aV 6 fun G A=>?_;refine bZ (base:=wr.heap.size) (by rfl) (.tmp 65) (.tmp 69) (by rfl) underlying104 a6 a9 aC aD rfl (by decide) (Eq.refl (Value.slice _ _ _)) (by rfl) (by first | exact aW.lit0 (by simp) (by simp) | exact(aW.lit0 (by simp) (by simp)).alloc _) (Src.keep sA.o (by assumption)) bt.o (by unfold maxLen;omega) (by omega) (fU (w:=wr) (by assumption)) ?_;intro v' aU ag ad _;rw [dT,iE] at ag;have U:=Z ag;obtain ⟨aJ,aL,rfl,_,_⟩:=ag.slice
      first
      | have R:=Z (aW.carry (base:=wr.heap.size) (e:=3) (size:=1) (v:=.slice (some ⟨wr.heap.size+1,0,none⟩) 0 0) (aW.lit0 (by simp) (by simp)).drew ad (by intro k l;simp [Value.ownBlock] at l;subst l;simp [Value.ownBlock]))
      | have R:=Z (aW.carry (base:=wr.heap.size) (e:=3) (size:=1) (v:=.slice (some ⟨wr.heap.size,0,none⟩) 0 0) ((aW.lit0 (by simp) (by simp)).alloc _).drew ad (by intro k l;simp [Value.ownBlock] at l;subst l;simp [Value.ownBlock]))
      | have R:=Z True.intro
      clear ag;refine A.out _ _ (by(exact eR (by assumption) ad (by intro k l;simp [Value.ownBlock] at l;omega))) (fun hHeld4=>?_);clear A G;refine aV 12 fun G A=>?_;refine bZ (base:=wr.heap.size) (by rfl) (.tmp 73) (.tmp 75) (by rfl) underlying23 aw bn bo bp rfl (by decide) (Eq.refl (Value.slice _ _ _)) (by rfl) (by first | exact R.o | exact aW.lit0 (by first | rfl | simp) (fU (w:=wr) (by assumption))) (Src.keep bu.o (by assumption)) wH (by unfold maxLen;omega) (by omega) (fU (w:=wr) (by assumption)) ?_;intro v' aX ah ae b5;rw [dT,iE] at ah;have au:=Z ah;have ak:=Z (by first
       | exact aW.carry U.o ae (fun k l e=>cO (by decide) (U.o.ty k l) (R.o.ty k e))
       | exact aW.carry (U.o.alloc _) ae (fun k l e=>by have:=(U.o.lt k l).2;simp [Value.ownBlock] at e;omega):aW aX wr.heap.size 114 3 (.slice aJ T.funs.length aL) T.funs.length css.flatten)
      obtain ⟨aK,aM,rfl,aP,aR⟩:=ah.slice;clear ah;refine A.out _ _ (by(exact eR (by assumption) ae (by first | exact(fun k l=>(R.o.lt k l).1) | (intro k l;have bB:=fU (w:=wr) (w':=aU) (by assumption);simp [Value.ownBlock] at l;omega)))) (fun hHeld5=>?_);clear A G;(try simp only [Act.put,sA,sB,sC]);refine aE 15 ?_;refine aV 16 fun G A=>?_;go_simp;refine A.out _ _ (by(exact eJ (by assumption) _)) (fun hHeld6=>?_);clear A G;refine aV 17 fun G A=>?_;refine bZ (base:=wr.heap.size) (by rfl) (.tmp 70) (.tmp 80) (by rfl) underlying104 a6 a9 aC aD rfl (by decide) (Eq.refl (Value.slice _ _ _)) (by rfl) (ak.o.alloc _) (Src.lit (kH.lit (us:=[Value.string nm,.slice aK args.length aM,.int .i64 r]) (by first | rfl | simp)) rfl) tN (by unfold maxLen;omega) (by omega) (fU (w:=wr) (by assumption)) ?_;intro v' aY an am _;have aI:=Z an;have aH:=Z ((au.o.alloc _).carry am (fun k l e=>cO (by decide) (ak.o.ty k e) (au.o.ty k l)));obtain ⟨bx,bz,rfl,_,_⟩:=an.slice;clear an;refine A.out _ _ (by(exact eR (by assumption) am (fun k l=>(ak.o.lt k l).1))) (fun hHeld7=>?_);clear A G;(try simp only [Act.put,sA,sB,sC]);refine cF (by decide +kernel) ?_;simp only [dL,cW];have ab:Below wr.heap.size wr aY:=by assumption
      have aG:=Z ab;have b1:=aB ab a4;have b0:=(aQ ((ab.block p bj).trans a5.o) 1);clear ad ae am ab ay az a0 a4;go_wp2;go_ret;exact aD2 ai.o a5.o aG.o br.o ⟨rfl,rfl⟩ aI.o aH.o bv.o bk.o aP aR N.o bi.o
    ·skip
     go_simp;refine A.out _ _ (by(exact eJ (by assumption) _)) (fun hHeld2=>?_);clear A G;refine aV 1 fun G A=>?_;go_simp;refine A.out _ _ (by(exact eJ (by assumption) _)) (fun hHeld3=>?_);clear A G;refine aV 6 fun G A=>?_;refine bZ (base:=wr.heap.size) (by rfl) (.tmp 65) (.tmp 69) (by rfl) underlying104 a6 a9 aC aD rfl (by decide) (Eq.refl (Value.slice _ _ _)) (by rfl) (by first | exact aW.lit0 (by simp) (by simp) | exact(aW.lit0 (by simp) (by simp)).alloc _) (Src.keep sA.o (by assumption)) bt.o (by unfold maxLen;omega) (by omega) (fU (w:=wr) (by assumption)) ?_;intro v' aU ag ad _;rw [dT,iE] at ag;have U:=Z ag;obtain ⟨aJ,aL,rfl,_,_⟩:=ag.slice
     first
     | have R:=Z (aW.carry (base:=wr.heap.size) (e:=3) (size:=1) (v:=.slice (some ⟨wr.heap.size+1,0,none⟩) 0 0) (aW.lit0 (by simp) (by simp)).drew ad (by intro k l;simp [Value.ownBlock] at l;subst l;simp [Value.ownBlock]))
     | have R:=Z (aW.carry (base:=wr.heap.size) (e:=3) (size:=1) (v:=.slice (some ⟨wr.heap.size,0,none⟩) 0 0) ((aW.lit0 (by simp) (by simp)).alloc _).drew ad (by intro k l;simp [Value.ownBlock] at l;subst l;simp [Value.ownBlock]))
     | have R:=Z True.intro
     clear ag;refine A.out _ _ (by(exact eR (by assumption) ad (by intro k l;simp [Value.ownBlock] at l;omega))) (fun hHeld4=>?_);clear A G;refine aV 12 fun G A=>?_;refine bZ (base:=wr.heap.size) (by rfl) (.tmp 73) (.tmp 75) (by rfl) underlying23 aw bn bo bp rfl (by decide) (Eq.refl (Value.slice _ _ _)) (by rfl) (by first | exact R.o | exact aW.lit0 (by first | rfl | simp) (fU (w:=wr) (by assumption))) (Src.keep bu.o (by assumption)) wH (by unfold maxLen;omega) (by omega) (fU (w:=wr) (by assumption)) ?_;intro v' aX ah ae b5;rw [dT,iE] at ah;have au:=Z ah;have ak:=Z (by first
      | exact aW.carry U.o ae (fun k l e=>cO (by decide) (U.o.ty k l) (R.o.ty k e))
      | exact aW.carry (U.o.alloc _) ae (fun k l e=>by have:=(U.o.lt k l).2;simp [Value.ownBlock] at e;omega):aW aX wr.heap.size 114 3 (.slice aJ T.funs.length aL) T.funs.length css.flatten)
     obtain ⟨aK,aM,rfl,aP,aR⟩:=ah.slice;clear ah;refine A.out _ _ (by(exact eR (by assumption) ae (by first | exact(fun k l=>(R.o.lt k l).1) | (intro k l;have bB:=fU (w:=wr) (w':=aU) (by assumption);simp [Value.ownBlock] at l;omega)))) (fun hHeld5=>?_);clear A G;(try simp only [Act.put,sA,sB,sC]);refine aE 15 ?_;refine aV 16 fun G A=>?_;go_simp;refine A.out _ _ (by(exact eJ (by assumption) _)) (fun hHeld6=>?_);clear A G;refine aV 17 fun G A=>?_;refine bZ (base:=wr.heap.size) (by rfl) (.tmp 70) (.tmp 80) (by rfl) underlying104 a6 a9 aC aD rfl (by decide) (Eq.refl (Value.slice _ _ _)) (by rfl) (ak.o.alloc _) (Src.lit (kH.lit (us:=[Value.string nm,.slice aK args.length aM,.int .i64 r]) (by first | rfl | simp)) rfl) tN (by unfold maxLen;omega) (by omega) (fU (w:=wr) (by assumption)) ?_;intro v' aY an am _;have aI:=Z an;have aH:=Z ((au.o.alloc _).carry am (fun k l e=>cO (by decide) (ak.o.ty k e) (au.o.ty k l)));obtain ⟨bx,bz,rfl,_,_⟩:=an.slice;clear an;refine A.out _ _ (by(exact eR (by assumption) am (fun k l=>(ak.o.lt k l).1))) (fun hHeld7=>?_);clear A G;(try simp only [Act.put,sA,sB,sC]);refine cF (by decide +kernel) ?_;simp only [dL,cW];have ab:Below wr.heap.size wr aY:=by assumption
     have aG:=Z ab;have b1:=aB ab a4;have b0:=(aQ ((ab.block p bj).trans a5.o) 1);clear ad ae am ab ay az a0 a4;go_wp2;go_ret;exact aD2 ai.o a5.o aG.o br.o ⟨rfl,rfl⟩ aI.o aH.o bv.o bk.o aP aR N.o bi.o
end
def sy:ByteArray:=⟨#[121]⟩
def sz:ByteArray:=⟨#[122]⟩
def sp:ByteArray:=⟨#[112]⟩
def sq:ByteArray:=⟨#[113]⟩
def sa:ByteArray:=⟨#[97]⟩
def sb:ByteArray:=⟨#[98]⟩
def sh:ByteArray:=⟨#[104]⟩
def eC:List kG:=[⟨sx,[],1⟩,⟨sy,[],1⟩,⟨sz,[],1⟩,⟨sp,[],0⟩,⟨sq,[],0⟩,⟨sa,[],2⟩,⟨sb,[],2⟩,⟨sf,[1],1⟩,⟨sg,[2,1],2⟩,⟨sh,[2],0⟩]
def T7 (k:Nat):gE:=⟨[sU],eC.take k,[]⟩
theorem yC (T:gE) (s:ByteArray):jA T s=T.funs.find? fun f=>f.name.data.toList == s.data.toList:=by
 unfold jA
 congr 1
 funext f
 exact aSu f.name s
theorem aYp:∀k:Fin 10,gF (T7 k.val) (eC.getD k.val qD)=0:=by
 intro k;unfold gF oC;rw [wG,yC]
 revert k
 decide +kernel
theorem aXs {k:Nat} (d:k<10) (f:kG) (b:eC[k]? = some f):gF (T7 k) f=0/\uN (T7 k) f=T7 (k+1):=by
 have h:=aYp ⟨k,d⟩;have e:eC.getD k qD=f:=by rw [iW,b];rfl
 dsimp only at h;rw [e] at h;refine⟨h,?_⟩;unfold uN;rw [if_pos h];unfold T7;have c:k<eC.length:=(gK.1 b).1;rw [jD c];have a:=cK c;rw [b] at a;injection a with a
 rw [<-a]
theorem aD3 (k:Nat):wV (T7 k):=by
 have b:(T7 k).funs.length<=10:=by show(eC.take k).length<=10;rw [eS];exact Nat.min_le_right _ _
 refine⟨by show(1:Nat)<_;decide,by omega,by show(0:Nat)<_;decide,fun f a=>?_⟩;have:f∈eC:=sY a;simp [eC] at this;rcases this with rfl | rfl | rfl | rfl | rfl | rfl | rfl | rfl | rfl | rfl <;> decide
theorem aVa:lO ⟨[],[],[]⟩ sU=false:=aXr
theorem bT.ofCss {b:Type} {R:cH b} {S:Nat->Prop} {w:World} {g:Nat} {t:TypeId} {f:Nat × Nat} {css:List (List Value)} {xs:List b} (c:w.heap[g]? = some (.cells css.flatten.toArray t f)) (o:S g) (K:css.length=xs.length)
  (d:∀(j:Nat) (x:b),xs[j]? = some x->∃cs,css[j]? = some cs/\R.rd S w x cs):bT R S w (some ⟨g,0,none⟩) xs.length xs:=by
 refine⟨rfl,fun _=>⟨g,0,rfl,(bH c).1,o,fun j x H=>?_⟩⟩;obtain ⟨cs,e,h⟩:=d j x H;refine⟨cs,h,fun i u G=>?_⟩;have C:∀cs∈css,cs.length=R.k:=fun cs r=>by
  obtain ⟨j,A,rfl⟩:=gU r;obtain ⟨I,a,l⟩:=d j _ (cK (by omega:j<xs.length));rw [cK A] at a;injection a with a
  rw [a];exact R.len l
 have:=tM C e G;rw [dT,E c]
 simpa using this
def aOt (g:Nat):List (List Value):=
 [[.string sx,.slice none 0 0,.int .i64 1],[.string sy,.slice none 0 0,.int .i64 1],[.string sz,.slice none 0 0,.int .i64 1],[.string sp,.slice none 0 0,.int .i64 0],[.string sq,.slice none 0 0,.int .i64 0],[.string sa,.slice none 0 0,.int .i64 2],[.string sb,.slice none 0 0,.int .i64 2],
  [.string sf,.slice (some ⟨g,0,none⟩) 1 1,.int .i64 1],[.string sg,.slice (some ⟨g+1,0,none⟩) 2 2,.int .i64 2],[.string sh,.slice (some ⟨g+2,0,none⟩) 1 1,.int .i64 0]]
def aS0 (w:World) (e:Ending) (w':World):Prop:=
 e = .returned (.slice (some ⟨w.heap.size+3,0,none⟩) 10 10)/\bT oZ (fun k=>w.heap.size<=k) w' (some ⟨w.heap.size+3,0,none⟩) 10 eC/\Below w.heap.size w w'/\w'.heap.size=w.heap.size+4
theorem aVb {S:Nat->Prop} {w:World} {g:Nat} (i:bT cH.int S w (some ⟨g,0,none⟩) 1 [1]) (l:bT cH.int S w (some ⟨g+1,0,none⟩) 2 [2,1]) (o:bT cH.int S w (some ⟨g+2,0,none⟩) 1 [2]) :
  ∀(j:Nat) (x:kG),eC[j]? = some x->∃cs,(aOt g)[j]? = some cs/\oZ.rd S w x cs:=by
 have d:eI 0:=⟨by decide,by decide⟩;have c:eI 1:=⟨by decide,by decide⟩;have e:eI 2:=⟨by decide,by decide⟩;have b:=fun nm r (h:eI r)=>(qY (S:=S) (w:=w) (f:=⟨nm,[],r⟩) (cs:=[.string nm,.slice none 0 0,.int .i64 r])).2 ⟨none,0,0,rfl,aA,aN,bT.nil _ _ _ _,h⟩
 intro j x a
 match j,a with
 | 0,a=>cases a;exact⟨_,rfl,b _ _ c⟩
 | 1,a=>cases a;exact⟨_,rfl,b _ _ c⟩
 | 2,a=>cases a;exact⟨_,rfl,b _ _ c⟩
 | 3,a=>cases a;exact⟨_,rfl,b _ _ d⟩
 | 4,a=>cases a;exact⟨_,rfl,b _ _ d⟩
 | 5,a=>cases a;exact⟨_,rfl,b _ _ e⟩
 | 6,a=>cases a;exact⟨_,rfl,b _ _ e⟩
 | 7,a=>cases a;exact⟨_,rfl,qY.2 ⟨_,1,1,rfl,aA,by decide,i,c⟩⟩
 | 8,a=>cases a;exact⟨_,rfl,qY.2 ⟨_,2,2,rfl,aA,by decide,l,e⟩⟩
 | 9,a=>cases a;exact⟨_,rfl,qY.2 ⟨_,1,1,rfl,aA,by decide,o,d⟩⟩
 | j+10,a=>simp [eC] at a
structure Duo (w0:World) (p q:Nat) (T:gE) (w:World):Prop where
 t:TabIs w0.heap.size p T w
 r:kC (fun _=>False) w0.heap.size q T w
 ap:Apart w p q
 b:Below w0.heap.size w0 w
 e:Env w
section
variable {w0 w w1 w' : World} {p q : Nat} {T T' : gE}
theorem Apart.symm (h:Apart w p q) (b:∀j,eQ w p j->j<w.heap.size):Apart w q p:=fun j a=>⟨b j a,fun c=>(h j c).2 a⟩
theorem Duo.all (h:Duo w0 p q T w) (a:Below w.heap.size w w'):Duo w0 p q T w':=
 ⟨h.t.all a,h.r.all a,(h.ap.keep (.of_below h.t.plt a)).2,h.b.trans (a.mono h.b.size),h.e.all a⟩
theorem Duo.step (h:Duo w0 p q T w) (i:0<w0.heap.size) (a:iI p w w1):kC (fun _=>False) w0.heap.size q T w1/\Apart w1 p q/\Below w0.heap.size w0 w1/\Env w1:=by
 have g:=h.ap.keep a;have c:=h.t.stepBelow a;exact⟨h.r.keep g.1 (fun j d=>(a.block j d.lt fun e=>h.t.ownI e d).1) a.size,g.2,h.b.trans c,h.e.below c i⟩
theorem Duo.step2 (x:0<w0.heap.size) (l:TabIs w0.heap.size p T' w1) (h:kC (fun _=>False) w0.heap.size q T w1) (o:Apart w1 p q) (b:Below w0.heap.size w0 w1) (e:Env w1) (i:kC (fun _=>False) w0.heap.size q T' w') (c:iI q w1 w'):Duo w0 p q T' w':=by
 have r:=o.symm fun j a=>(l.ownB a).2
 have g:=r.keep c;have d:=h.stepBelow c;exact⟨l.keep g.1 (fun j a=>(c.block j a.lt fun e=>h.ownI e a).1) c.size,i,g.2.symm fun j a=>(i.ownB a).2,b.trans d,e.below d x⟩
def wZ (S:Nat->Prop) (p q:Nat) (w:World):Prop:=∀k,S k->k<w.heap.size/\¬eQ w p k/\¬eQ w q k
theorem wZ.stepP {S:Nat->Prop} (h:wZ S p q w) (s:iI p w w') (b:w'.heap[q]? = w.heap[q]?):wZ S p q w'/\∀k,S k->w'.heap[k]? = w.heap[k]?:=
 ⟨fun k a=>⟨bG (h k a).1 s.size,(s.block k (h k a).1 (h k a).2.1).2,fun e=>(h k a).2.2 ((eQ.same b).1 e)⟩,fun k a=>(s.block k (h k a).1 (h k a).2.1).1⟩
theorem wZ.stepQ {S:Nat->Prop} (h:wZ S p q w) (s:iI q w w') (b:w'.heap[p]? = w.heap[p]?):wZ S p q w'/\∀k,S k->w'.heap[k]? = w.heap[k]?:=
 ⟨fun k a=>⟨bG (h k a).1 s.size,fun e=>(h k a).2.1 ((eQ.same b).1 e),(s.block k (h k a).1 (h k a).2.2).2⟩,fun k a=>(s.block k (h k a).1 (h k a).2.2).1⟩
end
theorem cA.lower {a:Type} {R:cH a} {S:Nat->Prop} {w:World} {base base':Nat} {e:TypeId} {v:Value} {xs:List a} (h:cA R S w base e v xs) (d:base'<=base):cA R S w base' e v xs:=by
 obtain ⟨css,b,c⟩:=h;exact⟨css,b.lower d,c⟩
theorem dG.lower {B b p:Nat} {T:aC} {w:World} (h:dG B p T w) (a:b<=B):dG b p T w:=by
 obtain ⟨q,c,d,m,h⟩:=h;exact⟨q,c,d,m,aH a h.bp,h.blk,h.nodes.lower a,h.nums.lower a,h.ids,aH a h.bm,h.srtX,h.xlt⟩
def aS1 (w:World) (e:Ending) (w':World):Prop:=∃p r,e = .returned (.tuple #[.pointer (some ⟨p,0,none⟩),.pointer (some ⟨r,0,none⟩)])/\dG w.heap.size p (jO (T7 10)) w'/\Below w.heap.size w w'
def addN (T:aC) (n:aZ):aC:={ T with nodes:=T.nodes ++ [n],nums:=T.nums ++ [dJ T n],ids:=fun k=>if k=kT n then some (T.nodes.length:Int) else T.ids k,cnt:=T.cnt+1 }
def nX:aZ:=⟨12,sx,eA,[],1⟩
def A0:aC:=jO (T7 10)
section
variable {T : aC} {op : Int} {nm : ByteArray} {val : cJ} {args : List Int} {s : Int}
theorem aD4 (a:eN op args=false) (b:fR op nm val=false) (c:args.any (fun i=>!dH T i)=false) (d:aD T op nm args=(s,true)):bQ T op nm val args=eW T ⟨op,nm,val,args,s⟩:=by
 unfold bQ;rw [a,b,c,d];rfl
theorem iX {n:aZ} (h:T.ids (kT n)=none) (a:T.nodes.length<16384):eW T n=(((T.nodes.length:Int),0),addN T n):=aOf h (by omega)
end
theorem aM8 (T:gE) (s:ByteArray):fM T s=(T.funs.find? fun f=>f.name.data.toList == s.data.toList).getD qD:=by unfold fM;rw [yC]
theorem yD (T:aC) (nm:ByteArray) (args:List Int):iA T nm args=if (T.S.funs.find? fun f=>f.name.data.toList == nm.data.toList).isSome/\((T.S.funs.find? fun f=>f.name.data.toList == nm.data.toList).getD qD).args.length=args.length then
  (if dN T args ((T.S.funs.find? fun f=>f.name.data.toList == nm.data.toList).getD qD).args then(((T.S.funs.find? fun f=>f.name.data.toList == nm.data.toList).getD qD).res,true) else(0,false)) else(0,false):=by
 unfold iA;rw [yC,aM8]
theorem iP.empty (k:Nat):iP (jO (T7 k)):=
 ⟨⟨rfl,aA,aN,⟨Int.le_refl _,by show(0:Int)<=_;decide⟩,aD3 k,fun _ _ h=>by simp [jO] at h⟩,fun _ h=>by simp [jO] at h,fun _ _ h=>by simp [jO] at h⟩
theorem iP.add {T:aC} (h:iP T) {n:aZ} (o:T.nodes.length<16384) (g:n.val.num.length<=1000000) (j:n.val.den.length<=1000000) (l:n.args.length<=1000000) (c:InT T n.args):iP (addN T n):=by
 refine⟨⟨by simp [addN,h.sm.nn],by have:=h.sm.cn;simp [addN];omega,by simp [addN];omega,h.sm.fr,h.sm.s,fun k i b=>?_⟩,fun x a=>?_,fun k x a=>?_⟩
 ·unfold addN at b;dsimp only at b;have e:((addN T n).nodes.length:Int)=T.nodes.length+1:=by simp [addN]
  rw [e]
  split at b
  ·injection b with b;omega
  ·have:=h.sm.ids k i b;omega
 ·rcases fT.1 a with a | a
  ·exact h.sn x a
  ·obtain rfl:=eP.1 a;omega
 ·by_cases b:k<T.nodes.length
  ·exact h.ord k x (by rw [show(addN T n).nodes=T.nodes ++ [n] from rfl,mY b] at a;exact a)
  ·have d:=(gK.1 a).1;rw [show(addN T n).nodes=T.nodes ++ [n] from rfl,dM,kZ] at d;obtain rfl:k=T.nodes.length:=by omega
   rw [show(addN T n).nodes=T.nodes ++ [n] from rfl,oS aA,oY] at a;cases a;exact c
theorem iP.put {T:aC} (h:iP T) {n:aZ} (b:n.val.num.length<=1000000) (c:n.val.den.length<=1000000) (d:n.args.length<=1000000) (e:InT T n.args):iP (eW T n).2:=by
 cases a:T.ids (kT n) with
 | some i=>rw [jX a];exact h
 |
  none=>
  by_cases g:16384<=T.nodes.length
  ·rw [kM a g];exact h
  ·rw [iX a (by omega)];exact h.add (by omega) b c d e
theorem iP.make {T:aC} (h:iP T) {op:Int} {nm:ByteArray} {val:cJ} {args:List Int} (b:val.num.length<=1000000) (c:val.den.length<=1000000):iP (bQ T op nm val args).2:=by
 unfold bQ
 split
 ·exact h
 ·rename_i a
  split
  ·exact h
  ·split
   ·exact h
   ·rename_i d
    split
    ·refine h.put b c ?_ (tO (by simpa using d));unfold eN at a;simp at a;show args.length<=_;omega
    ·exact h
theorem iP.fresh {T:aC} (h:iP T) (s:Int) (c:T.fresh<1099511627776):iP (dC T s).2:=by
 unfold dC
 split
 ·have a:=h.put (n:=cY T s) aN aN aN (fun x b=>by cases b)
  split
  ·exact⟨⟨a.sm.nn,a.sm.cn,a.sm.le,⟨by have:=h.sm.fr;show 0<=T.fresh+1;omega,by show T.fresh+1<=_;omega⟩,a.sm.s,a.sm.ids⟩,a.sn,a.ord⟩
  ·exact a
 ·exact h
structure St (w0:World) (p:Nat) (T:aC) (w:World):Prop where
 t:dG w0.heap.size p T w
 b:Below w0.heap.size w0 w
section
variable {w0 w w' : World} {p : Nat} {T T' : aC}
theorem St.all (h:St w0 p T w) (a:Below w.heap.size w w'):St w0 p T w':=⟨h.t.all a,h.b.trans (a.mono h.b.size)⟩
theorem St.lit (h:St w0 p T w) (o:Obj):St w0 p T (w.alloc o):=h.all (bJ)
theorem St.step (h:St w0 p T w) (c:dG w0.heap.size p T' w') (a:dA p w w'):St w0 p T' w':=⟨c,h.b.trans (h.t.stepBelow a)⟩
theorem St.env (h:St w0 p T w) (a:lF w0):lF w:=a.all h.b
theorem aVc (w:World) (xs:List Int) (a:∀x∈xs,eI x):bT cH.int (dU (w.alloc (.cells (xs.map (Value.int .i64)).toArray 3))) (w.alloc (.cells (xs.map (Value.int .i64)).toArray 3)) (some ⟨w.heap.size,0,none⟩) xs.length xs:=
 bT.ofI (jQ.lit xs 3 w a) fun x _ e=>by
  injection e with e
  subst e;exact⟨_,_,.inl (cC w _)⟩
theorem aD5 (w:World) (op:Int) (xs:List Int) (c:eI op) (d:∀x∈xs,eI x) (b:xs.length<=maxLen) (a:op≠11):oH (w.alloc (.cells (xs.map (Value.int .i64)).toArray 3)) ⟨#[]⟩ eA xs op none none (some ⟨w.heap.size,0,none⟩) 0 0 xs.length:=
 ⟨bT.nil _ _ _ _,bT.nil _ _ _ _,aVc w xs d,⟨aA,aN⟩,⟨aA,aN⟩,⟨aA,b⟩,by decide,by decide,c,fun e=>absurd e a⟩
theorem St.free (h:St w0 p T w) (o:Obj):¬gR p (w.alloc o) w.heap.size:=fun e=>by
 obtain ⟨q,c,d,m,a⟩:=h.t;have b:Below w.heap.size w (w.alloc o):=bJ;have:=(a.ownB ((gR.same (b.block p a.plt)).1 e)).2;omega
end
theorem aXt:iP A0:=iP.empty 10
section
variable (T : aC) (X : Nat -> Prop)
theorem aBo:∀(l m:List Int),dN { T with X:=X } l m=dN T l m
 | [],_=>rfl
 | _ :: _,[]=>rfl
 | a :: l,s :: m=>by unfold dN;rw [aBo l m];rfl
theorem aVd (nm:ByteArray) (args:List Int):iA { T with X:=X } nm args=iA T nm args:=by unfold iA;rw [aBo]
theorem aA6 (op:Int) (nm:ByteArray) (args:List Int):aD { T with X:=X } op nm args=aD T op nm args:=by unfold aD;rw [aVd];rfl
theorem aS2 (n:aZ):eW { T with X:=X } n=((eW T n).1,{ (eW T n).2 with X:=X }):=by
 unfold eW;dsimp only;cases T.ids (kT n) with
 | some i=>rfl
 |
  none=>
  dsimp only;by_cases h:16384<=T.nodes.length
  ·rw [if_pos h,if_pos h]
  ·rw [if_neg h,if_neg h];rfl
theorem wI (op:Int) (nm:ByteArray) (val:cJ) (args:List Int):bQ { T with X:=X } op nm val args=((bQ T op nm val args).1,{ (bQ T op nm val args).2 with X:=X }):=by
 unfold bQ;rw [aA6];have e:args.any (fun i=>!dH { T with X:=X } i)=args.any (fun i=>!dH T i):=rfl;rw [e]
 split
 ·rfl
 ·split
  ·rfl
  ·split
   ·rfl
   ·split
    ·exact aS2 T X _
    ·rfl
theorem aS3 (s:Int):dC { T with X:=X } s=((dC T s).1,{ (dC T s).2 with X:=X }):=by
 unfold dC;have e:cY { T with X:=X } s=cY T s:=rfl;rw [e,aS2];dsimp only
 split
 ·split
  ·rfl
  ·rfl
 ·rfl
end
theorem SmT.X {T:aC} (h:SmT T) (X:Nat->Prop):SmT { T with X:=X }:=⟨h.nn,h.cn,h.le,h.fr,h.s,h.ids⟩
theorem iP.X {T:aC} (h:iP T) (X:Nat->Prop):iP { T with X:=X }:=⟨h.sm.X X,h.sn,h.ord⟩
section
variable {w0 w w' : World} {p n s : Nat} {t : TypeId} {T : aC} {v v' : Value} {xs : List Value}
theorem aW.tstep (b:aW w w0.heap.size t s v n xs) (h:St w0 p T w) (c:∀k,v.ownBlock=some k->T.X k) (e:dA p w w'):aW w' w0.heap.size t s v n xs:=
 b.same fun k a=>(e.block k (b.lt k a).2 (by obtain ⟨q,g,i,m,d⟩:=h.t;exact(d.xlt k (c k a)).2.1)).1
theorem St.own (h:St w0 p T w) {k:Nat} (a:T.X k) (c:dA p w w'):w'.heap[k]? = w.heap[k]?:=by
 obtain ⟨q,d,e,m,b⟩:=h.t;exact(c.block k (b.xlt k a).1 (b.xlt k a).2.1).1
theorem St.excl (h:St w0 p T w) {X':Nat->Prop} (a:Below w0.heap.size w w') (c:∀k,k<w.heap.size->¬T.X k->w'.heap[k]? = w.heap[k]?) (d:∀k,X' k->(T.X k\/w.heap.size<=k)/\k<w'.heap.size):St w0 p { T with X:=X' } w':=
 ⟨h.t.excl c a.size d,h.b.trans a⟩
end
section
variable {τ : Type}
abbrev rQ (τ:Type):=aC->τ->Int->aZ->(Int × Bool × Int) × aC × τ
def toA (tm:Int->Option Int) (l:List Int):List Int:=l.map fun a=>(tm a).getD 0
def aD6 (tm:Int->Option Int) (l:List Int):Bool:=l.all fun a=>(tm a).getD 0 == a
def aD7 (tm:Int->Option Int) (i x:Int):Int->Option Int:=fun k=>if k=i then some x else tm k
structure TS (τ:Type) where
 tm:Int->Option Int
 T:aC
 s:τ
def withArgs (n:aZ) (l:List Int):aZ:={ n with args:=l }
def aS4 (st:TS τ) (id:Int) (x:aZ) (r:(Int × Bool × Int) × aC × τ):Int × TS τ:=
 if r.1.2.2≠0 then(r.1.2.2,⟨st.tm,r.2.1,r.2.2⟩)
 else if r.1.2.1 then(0,⟨aD7 st.tm id r.1.1,r.2.1,r.2.2⟩)
 else if aD6 st.tm x.args then(0,⟨aD7 st.tm id id,r.2.1,r.2.2⟩)
 else((bQ r.2.1 x.op x.name x.val (toA st.tm x.args)).1.2,⟨aD7 st.tm id (bQ r.2.1 x.op x.name x.val (toA st.tm x.args)).1.1,(bQ r.2.1 x.op x.name x.val (toA st.tm x.args)).2,r.2.2⟩)
def aD8 (f:rQ τ) (st:TS τ) (id:Int):Int × TS τ:=aS4 st id (nodeAt st.T id) (f st.T st.s id (withArgs (nodeAt st.T id) (toA st.tm (nodeAt st.T id).args)))
def xB (f:rQ τ):List Int->TS τ->Int × TS τ
 | [],st=>(0,st)
 | id :: l,st=>if (aD8 f st id).1=0 then xB f l (aD8 f st id).2 else aD8 f st id
def outT (ids:List Int) (r:Int × TS τ):(List Int × Int) × aC × τ:=
 ((if r.1=0 then(ids.map fun i=>(r.2.tm i).getD 0,0) else([],r.1)),r.2.T,r.2.s)
def lS (f:rQ τ) (T:aC) (s:τ) (ids:List Int):(List Int × Int) × aC × τ:=outT ids (xB f (jY T ids).2 ⟨fun _=>none,T,s⟩)
theorem aD9 (f:rQ τ):∀(l:List Int) (x:Int) (st b:TS τ),xB f l st=(0,b)->xB f (l ++ [x]) st=aD8 f b x
 |
  [],x,st,b,h=>by
  injection h with _ h
  subst h;show(if _ then _ else _)=_
  split
  ·rename_i a
   show(0,(aD8 f st x).2)=_;rw [<-a]
  ·rfl
 |
  y :: l,x,st,b,h=>by
  show(if _ then _ else _)=_;change (if _ then _ else _)=_ at h;by_cases a:(aD8 f st y).1=0
  ·rw [if_pos a] at h ⊢;exact aD9 f l x _ b h
  ·rw [if_neg a] at h;rw [h] at a;exact absurd rfl a
theorem aA7 (f:rQ τ):∀(l m:List Int) (st a:TS τ) (e:Int),e≠0->xB f l st=(e,a)->xB f (l++m) st=(e,a)
 | [],m,st,a,e,he,h=>by injection h with h _;exact absurd h.symm he
 |
  y :: l,m,st,a,e,he,h=>by
  show(if _ then _ else _)=_;change (if _ then _ else _)=_ at h;by_cases b:(aD8 f st y).1=0
  ·rw [if_pos b] at h ⊢;exact aA7 f l m _ a e he h
  ·rw [if_neg b] at h ⊢;exact h
structure tZ (x:aZ):Prop where
 num:x.val.num.length<=1000000
 name:x.name.size<=1000000
 args:x.args.length<=64
 lit:x.op=11->x.args = []
 ite:x.op=10->x.args.length=3
 den:x.val.den.length<=1000000
structure dR (T:aC):Prop where
 ok:iP T
 ng:∀x∈T.nodes,tZ x
theorem dR.at {T:aC} (h:dR T) {k:Nat} (a:k<T.nodes.length):tZ (nodeAt T k):=h.ng _ (fP (cR a))
theorem tZ.withArgs {x:aZ} (h:tZ x) {l:List Int} (a:l.length=x.args.length):tZ (withArgs x l):=
 ⟨h.num,h.name,by show l.length<=64;rw [a];exact h.args,fun e=>by have:=h.lit e;rw [this] at a;show l = [];exact jR (by simpa using a),fun e=>by show l.length=3;rw [a];exact h.ite e,h.den⟩
theorem aA8 (T:aC) (n:aZ):(eW T n).2.nodes=T.nodes\/(eW T n).2.nodes=T.nodes ++ [n]:=by
 cases a:T.ids (kT n) with
 | some i=>rw [jX a];exact .inl rfl
 |
  none=>
  by_cases b:16384<=T.nodes.length
  ·rw [kM a b];exact .inl rfl
  ·rw [iX a (by omega)];exact .inr rfl
theorem wJ (T:aC) (n:aZ):(eW T n).2.fresh=T.fresh:=by
 cases a:T.ids (kT n) with
 | some i=>rw [jX a]
 |
  none=>
  by_cases b:16384<=T.nodes.length
  ·rw [kM a b]
  ·rw [iX a (by omega)];rfl
structure kW (T T':aC) (c:Nat):Prop where
 g:dR T'
 len:T.nodes.length<=T'.nodes.length
 fr:T'.fresh<=T.fresh+c
theorem kW.refl {T:aC} (h:dR T):kW T T 0:=⟨h,aA,by omega⟩
theorem kW.trans {T a b:aC} {c d:Nat} (h:kW T a c) (k:kW a b d):kW T b (c+d):=⟨k.g,aH h.len k.len,by have:=h.fr;have:=k.fr;omega⟩
theorem kW.mono {T T':aC} {c d:Nat} (h:kW T T' c) (a:c<=d):kW T T' d:=⟨h.g,h.len,by have:=h.fr;omega⟩
theorem dR.make {T:aC} (h:dR T) (op:Int) {nm:ByteArray} {val:cJ} (args:List Int) (g:val.num.length<=1000000) (i:val.den.length<=1000000) (j:nm.size<=1000000):kW T (bQ T op nm val args).2 0:=by
 have c:=h.ok.make (op:=op) (nm:=nm) (args:=args) g i;unfold bQ at c ⊢
 split
 ·exact .refl h
 ·rename_i d
  rw [if_neg d] at c
  split
  ·exact .refl h
  ·rename_i C
   rw [if_neg C] at c
   split
   ·exact .refl h
   ·rename_i o
    rw [if_neg o] at c
    split
    ·rename_i b
     rw [if_pos b] at c;have A:args.length<=64:=by unfold eN at d;simp at d;omega
     have r:tZ ⟨op,nm,val,args,(aD T op nm args).1⟩:=by
      refine⟨g,j,A,fun e=>?_,fun e=>?_,i⟩
      ·change op=11 at e;subst e;unfold aD at b;simp at b;exact b
      ·change op=10 at e;subst e;unfold aD xM at b;simp at b
       split at b
       ·rename_i l;exact l.1
       ·cases b
     rcases aA8 T ⟨op,nm,val,args,(aD T op nm args).1⟩ with e | e
     ·exact⟨⟨c,fun x a=>by rw [e] at a;exact h.ng x a⟩,by rw [e];exact aA,by rw [wJ];omega⟩
     ·refine⟨⟨c,fun x a=>?_⟩,by rw [e,dM];omega,by rw [wJ];omega⟩;rw [e] at a;rcases fT.1 a with a | a
      ·exact h.ng x a
      ·obtain rfl:=eP.1 a;exact r
    ·exact .refl h
theorem dR.fresh {T:aC} (h:dR T) (s:Int) (l:T.fresh<1099511627776):kW T (dC T s).2 1:=by
 have b:=h.ok.fresh s l;have r:(iS T.fresh).size<=1000000:=by
  rw [gO];unfold iS;simp only [fQ];have:=nD (n:=T.fresh) (by have:=h.ok.sm.fr;unfold eI;omega);omega
 have o:tZ (cY T s):=⟨aN,r,aN,fun _=>rfl,fun e=>(by cases e),aN⟩;unfold dC at b ⊢
 split
 ·rename_i j
  rw [if_pos j] at b;have i:(eW T (cY T s)).2.nodes=T.nodes\/(eW T (cY T s)).2.nodes=T.nodes ++ [cY T s]:=aA8 _ _;have g:∀x∈(eW T (cY T s)).2.nodes,tZ x:=fun x a=>by
   rcases i with e | e
   ·rw [e] at a;exact h.ng x a
   ·rw [e] at a;rcases fT.1 a with a | a
    ·exact h.ng x a
    ·obtain rfl:=eP.1 a;exact o
  have d:T.nodes.length<=(eW T (cY T s)).2.nodes.length:=by
   rcases i with e | e <;> rw [e] <;> simp
  split
  ·rename_i c
   rw [if_pos c] at b;exact⟨⟨b,g⟩,d,by show T.fresh+1<=_;omega⟩
  ·rename_i c
   rw [if_neg c] at b;exact⟨⟨b,g⟩,d,by rw [wJ];omega⟩
 ·exact(kW.refl h).mono (by omega)
end
structure lT (p:Nat) (D D':Nat->Prop) (w w':World):Prop where
 os:w'.os=w.os
 tape:w'.tape=w.tape
 output:w'.output=w.output
 size:w.heap.size<=w'.heap.size
 block:∀k,k<w.heap.size->¬gR p w k->¬D k->w'.heap[k]? = w.heap[k]? /\ ¬gR p w' k/\¬D' k
section
variable {p B : Nat} {D D' D'' : Nat -> Prop} {w w' w'' : World} {T T' : aC}
theorem lT.trans (h:lT p D D' w w') (k:lT p D' D'' w' w''):lT p D D'' w w'':=
 ⟨k.os.trans h.os,k.tape.trans h.tape,k.output.trans h.output,aH h.size k.size,fun j a e g=>by
  obtain ⟨a1,a2,b⟩:=h.block j a e g;obtain ⟨c,b2,d⟩:=k.block j (bG a h.size) a2 b;exact⟨c.trans a1,b2,d⟩⟩
theorem lT.ofT (h:dA p w w') (d:∀k,D' k->D k):lT p D D' w w':=
 ⟨h.os,h.tape,h.output,h.size,fun k b a c=>⟨(h.block k b a).1,(h.block k b a).2,fun e=>c (d k e)⟩⟩
theorem lT.ofBelow (g:p<w.heap.size) (h:Below w.heap.size w w') (d:∀k,k<w.heap.size->D' k->D k):lT p D D' w w':=
 ⟨h.os,h.tape,h.output,h.size,fun k a b c=>⟨h.block k a,fun e=>b ((gR.same (h.block p g)).1 e),fun e=>c (d k a e)⟩⟩
end
structure Cx (w0:World) (p:Nat) {τ:Type} (J:τ->World->Prop) (D:τ->World->Nat->Prop) (Y:Nat->Prop) (T:aC) (s:τ) (w:World):Prop where
 t:dG w0.heap.size p { T with X:=fun k=>D s w k\/Y k } w
 b:Below w0.heap.size w0 w
 j:J s w
structure pQ (w0:World) (p fv:Nat) (pre caps:List Value) {τ:Type} (f:rQ τ) (J:τ->World->Prop) (D:τ->World->Nat->Prop) (sz:τ->Nat):Prop where
 enter:∀args w,(callFunc fv args).run prog w = .ok (.enter fv args) w
 lt:∀s w,J s w->∀k,D s w k->w0.heap.size<=k/\k<w.heap.size
 keep:∀s w w',J s w->(∀k,D s w k->w'.heap[k]? = w.heap[k]?)->w.heap.size<=w'.heap.size->J s w'/\∀k,D s w' k↔D s w k
 grow:∀T s w id n,J s w->dR T->T.fresh<=1000000000000->tZ n->kW T (f T s id n).2.1 100/\eI (f T s id n).1.1/\sz (f T s id n).2.2<=sz s+100
 call:∀Y T s w id n a c b d g e,Cx w0 p J D Y T s w->dR T->T.fresh<=1000000000000->sz s<=1000000000000->tZ n->eI id->eD (fun k=>dU w k/\¬D s w k) w n a c b d g e ->
  Calls prog fv (pre++Value.int .i64 id :: lI n a c b d g e :: caps).toArray w fun e w'=>e = .returned (.tuple #[.int .i64 (f T s id n).1.1,.bool (f T s id n).1.2.1,.int .i64 (f T s id n).1.2.2]) /\
   Cx w0 p J D Y (f T s id n).2.1 (f T s id n).2.2 w'/\lT p (D s w) (D (f T s id n).2.2 w') w w'
section
variable {w0 w w' : World} {p fv : Nat} {pre caps : List Value} {τ : Type} {f : rQ τ} {J : τ -> World -> Prop} {D : τ -> World -> Nat -> Prop} {sz : τ -> Nat} {Y Y' : Nat -> Prop} {T T' : aC} {s : τ}
theorem Cx.x (h:Cx w0 p J D Y T s w) {k:Nat} (b:D s w k\/Y k):k<w.heap.size/\¬gR p w k:=by
 obtain ⟨q,c,d,m,a⟩:=h.t;exact⟨(a.xlt k b).1,(a.xlt k b).2.1⟩
theorem Cx.plt (h:Cx w0 p J D Y T s w):p<w.heap.size:=h.t.plt
theorem Cx.keepD (a:pQ w0 p fv pre caps f J D sz) (h:Cx w0 p J D Y T s w) (b:∀k,D s w k->w'.heap[k]? = w.heap[k]?) (c:w.heap.size<=w'.heap.size):J s w'/\∀k,D s w' k↔D s w k:=a.keep s w w' h.j b c
theorem Cx.all (c:pQ w0 p fv pre caps f J D sz) (h:Cx w0 p J D Y T s w) (a:Below w.heap.size w w'):Cx w0 p J D Y T s w'/\∀k,D s w' k↔D s w k:=by
 obtain ⟨d,hd⟩:=h.keepD c (fun k g=>a.block k (h.x (.inl g)).1) a.size;refine⟨⟨?_,h.b.trans (a.mono h.b.size),d⟩,hd⟩;have e:(fun k=>D s w' k\/Y k)=(fun k=>D s w k\/Y k):=funext fun k=>propext (or_congr (hd k) Iff.rfl)
 rw [e];exact h.t.all a
theorem Cx.tstep (d:pQ w0 p fv pre caps f J D sz) (h:Cx w0 p J D Y T s w) (i:dG w0.heap.size p { T' with X:=fun k=>D s w k\/Y k } w') (a:dA p w w'):Cx w0 p J D Y T' s w'/\∀k,D s w' k↔D s w k:=by
 obtain ⟨g,hd⟩:=h.keepD d (fun k c=>(a.block k (h.x (.inl c)).1 (h.x (.inl c)).2).1) a.size;refine⟨⟨?_,h.b.trans (h.t.stepBelow a),g⟩,hd⟩;have e:(fun k=>D s w' k\/Y k)=(fun k=>D s w k\/Y k):=funext fun k=>propext (or_congr (hd k) Iff.rfl)
 rw [e];exact i
theorem Cx.excl (g:pQ w0 p fv pre caps f J D sz) (h:Cx w0 p J D Y T s w) (c:Below w0.heap.size w w') (l:∀k,k<w.heap.size->¬Y k->w'.heap[k]? = w.heap[k]?) (i:∀k,D s w k->w'.heap[k]? = w.heap[k]?) (d:∀k,Y' k->(Y k\/w.heap.size<=k)/\k<w'.heap.size):Cx w0 p J D Y' T s w'/\∀k,D s w' k↔D s w k:=by
 obtain ⟨j,hd⟩:=h.keepD g i c.size;refine⟨⟨?_,h.b.trans c,j⟩,hd⟩;have e:(fun k=>D s w' k\/Y' k)=(fun k=>D s w k\/Y' k):=funext fun k=>propext (or_congr (hd k) Iff.rfl)
 rw [e];exact h.t.excl (T:={ T with X:=fun k=>D s w k\/Y k }) (X':=fun k=>D s w k\/Y' k) (fun k a o=>l k a fun e=>o (.inr e)) c.size fun k a=>by
  rcases a with a | a
  ·exact⟨.inl (.inl a),bG (h.x (.inl a)).1 c.size⟩
  ·exact⟨(d k a).1.imp .inr id,(d k a).2⟩
end
def qI (F:Int->Option bS) (args:List Int):List bS:=args.map fun a=>(F a).getD eZ
def aEa (F:Int->Option bS) (x:Int) (v:bS):Int->Option bS:=fun y=>if y=x then some v else F y
def rA (m:gL) (T:aC):List Int->(Int->Option bS)->(Int->Option bS) × Int
 | [],F=>(F,0)
 | x :: l,F=>if (bN m (nodeAt T x) (qI F (nodeAt T x).args)).2=0 then rA m T l (aEa F x (bN m (nodeAt T x) (qI F (nodeAt T x).args)).1) else(F,(bN m (nodeAt T x) (qI F (nodeAt T x).args)).2)
def oD (r:(Int->Option bS) × Int) (i:Int):bS × Int:=if r.2=0 then((r.1 i).getD eZ,0) else(eZ,r.2)
def mG (m:gL) (T:aC) (i:Int):bS × Int:=if dH T i then oD (rA m T (jY T [i]).2 fun _=>none) i else(eZ,1)
theorem aM9 {m:gL} {T:aC} {x:Int} {l:List Int} {F:Int->Option bS} {r:bS × Int} (h:bN m (nodeAt T x) (qI F (nodeAt T x).args)=r):rA m T (x :: l) F=if r.2=0 then rA m T l (aEa F x r.1) else(F,r.2):=by
 subst h;rfl
def ArT (T:aC):Prop:=∀x∈T.nodes,aD1 x.op x.args.length
theorem wK:eB eZ:=⟨by decide,by decide⟩
theorem wL {l:List bS} (h:∀v∈l,eB v) (k:Nat):eB (bI l k):=by
 unfold bI;rw [iW];cases a:l[k]? with
 | none=>exact wK
 | some v=>exact h v (fP a)
theorem aH4 {t:TbD} (h:vC t) (l:List bS):eB (jE t l):=by
 unfold jE
 split
 ·rename_i r a
  exact(h.1 r (mK a)).2.1
 ·exact h.2.1
theorem aNa {r:cJ} (h:lK r):lK (oG r):=by
 unfold oG
 split
 ·first | exact tY _ _ | exact oM | exact h | exact⟨h.1,h.2⟩
 ·first | exact tY _ _ | exact oM | exact h | exact⟨h.1,h.2⟩
theorem aBp (op:Int) {a b:cJ} (h:lK a):lK (tX op a b).1:=by
 unfold tX
 split
 ·exact yA _ _
 ·split
  ·exact aDv _ _
  ·split
   ·exact tY _ _
   ·split
    ·exact aDw _ _
    ·exact h
theorem xC (op:Int):∀(l:List bS) {a:cJ},lK a->lK (gI op a l).1
 | [],_,h=>h
 |
  v :: l,a,h=>by
  unfold gI
  split
  ·exact xC op l (aBp op h)
  ·exact aBp op h
theorem aKc {m:gL} (e:mO m) {x:aZ} (d:tZ x) {l:List bS} (c:∀v∈l,eB v):eB (bN m x l).1:=by
 have a:∀b,eB (fW b):=fun b=>⟨aN,aN⟩
 unfold bN
 split
 ·exact a _
 ·split
  ·exact a _
  ·split
   ·exact a _
   ·split
    ·exact a _
    ·split
     ·split
      ·exact wL c 1
      ·exact wL c 2
     ·split
      ·exact⟨d.num,d.den⟩
      ·split
       ·split
        ·exact wK
        ·rename_i t a
         exact aH4 (e.1 t (mK a)) l
       ·show lK (pC x.op l).1;unfold pC
        split
        ·exact aNa (wL c 0)
        ·exact xC _ _ (wL c 0)
def Ev (S:Nat->Prop) (w:World) (dm q:Nat):Prop:=(q<w.heap.size/\S q)\/(w.heap.size<=q/\q≠dm)
def aH5 (S:Nat->Prop) (W:World) (G:Int->Option Value) (F:Int->Option bS):Prop:=
 ∀x,(F x=none/\G x=none)\/∃v a c b d,F x=some v/\G x=some (oK v a c b d)/\gA S W v a c b d/\eB v
structure EvS (S:Nat->Prop) (w:World) (dm:Nat) (F:Int->Option bS) (k:Nat) (W:World):Prop where
 b:Below w.heap.size w W
 dl:w.heap.size<=dm
 mp:∃c G,c<=k/\nT prog 3 dm c G W/\aH5 (Ev S w dm) W G F
section
variable {S : Nat -> Prop} {w W W' : World} {dm k : Nat} {F : Int -> Option bS}
theorem EvS.dlt (h:EvS S w dm F k W):dm<W.heap.size:=by obtain ⟨c,a,_,h,_⟩:=h.mp;exact h.lt
theorem aH5.keep {S:Nat->Prop} {e:Int->Option Value} (h:aH5 S W e F) (o:∀q,q<W.heap.size->S q->W'.heap[q]? = W.heap[q]?) (r:W.heap.size<=W'.heap.size):aH5 S W' e F:=fun x=>by
 rcases h x with h | ⟨v,a,c,b,d,g,i,j,l⟩
 ·exact .inl h
 ·exact .inr ⟨v,a,c,b,d,g,i,j.keep o r,l⟩
theorem EvS.below (h:EvS S w dm F k W) (a:Below W.heap.size W W'):EvS S w dm F k W':=by
 obtain ⟨c,e,g,d,i⟩:=h.mp;exact⟨h.b.trans (a.mono h.b.size),h.dl,c,e,g,d.same (a.block _ d.lt),i.keep (fun q j _=>a.block q j) a.size⟩
theorem EvS.start (a:Below w.heap.size w W) (hd:w.heap.size<=dm) (b:nT prog 3 dm 0 (fun _=>none) W):EvS S w dm (fun _=>none) 0 W:=
 ⟨a,hd,0,_,aA,b,fun _=>.inl ⟨rfl,rfl⟩⟩
theorem aKd (w:World):(zeroValue 64).run prog w = .ok (.agg #[.int .i64 0,.bool false,.bool false,.slice none 0 0,.slice none 0 0,.int .i64 0]) w:=by kernel_rfl
theorem EvS.look (h:EvS S w dm F k W) {x:Int} (A:eI x):∃a c b d,(Instr.lookup 149 (.map (some dm)) (.int .i64 x) false).run prog W = .ok (oK ((F x).getD eZ) a c b d) W/\gA (Ev S w dm) W ((F x).getD eZ) a c b d/\eB ((F x).getD eZ):=by
 obtain ⟨c,C,E,o,r⟩:=h.mp;have e:=o.look underlying3 underlying149 (aKd W) A;rcases r x with ⟨g,i⟩ | ⟨v,a,c,b,d,g,i,j,l⟩
 ·rw [i] at e;rw [g];exact⟨none,0,none,0,e,⟨⟨by decide,by decide⟩,⟨by decide,by decide⟩,.nil _ _ _ _,⟨aA,aN⟩,.nil _ _ _ _,⟨aA,aN⟩⟩,wK⟩
 ·rw [i] at e;rw [g];exact⟨a,c,b,d,e,j,l⟩
theorem EvS.store (h:EvS S w dm F k W) (N:k<maxLen) {x:Int} (L:eI x) {v:bS} {a b:Option Addr} {c d:Nat} (A:gA (Ev S w dm) W v a c b d) (K:eB v) :
  ∃W',(Instr.mapUpdate 149 (.map (some dm)) (.int .i64 x) (oK v a c b d)).run prog W = .ok () W'/\EvS S w dm (aEa F x v) (k+1) W'/\W.mapTurned W' dm:=by
 obtain ⟨n,r,M,C,E⟩:=h.mp;obtain ⟨W',I,H,o⟩:=C.store underlying3 underlying149 (by omega) L (oK v a c b d);have g:=o.grown;have l:∀q,q<W.heap.size->q≠dm->W'.heap[q]? = W.heap[q]?:=fun q i e=>g.block q i fun z=>e (by injection z)
 have j:∀q,q<W.heap.size->Ev S w dm q->W'.heap[q]? = W.heap[q]?:=fun q i G=>l q i (G.elim (fun z=>by have:=h.dl;omega) fun z=>z.2)
 refine⟨W',I,⟨⟨g.os.trans h.b.os,g.tape.trans h.b.tape,g.output.trans h.b.output,aH h.b.size g.size,fun q i=>(l q (bG i h.b.size) (by have:=h.dl;omega)).trans (h.b.block q i)⟩,h.dl,_,_,?_,H,fun y=>?_⟩,o⟩
 ·split <;> omega
 ·by_cases hy:y=x
  ·subst hy;rw [upd_same];exact .inr ⟨v,a,c,b,d,by unfold aEa;rw [if_pos rfl],rfl,A.keep j g.size,K⟩
  ·rw [aFy r _ hy];have e:aEa F x v y=F y:=by unfold aEa;rw [if_neg hy]
   rw [e];exact E.keep j g.size y
end
def EvP (r:bS × Int) (w:World) (e:Ending) (w':World):Prop:=∃a c b d,e = .returned (.tuple #[oK r.1 a c b d,.int .i64 r.2])/\gA (fH w.heap.size w') w' r.1 a c b d/\Below w.heap.size w w'
inductive Reach (T:aC):Int->Int->Prop
 | refl (i:Int):Reach T i i
 | arg {i a x:Int}:a∈(nodeAt T i).args->Reach T a x->Reach T i x
theorem Reach.step {T:aC} {i x a:Int} (h:Reach T i x) (b:a∈(nodeAt T x).args):Reach T i a:=by
 induction h with
 | refl i=>exact .arg b (.refl a)
 | arg h1 _ ih=>exact .arg h1 (ih b)
theorem pD {T:aC} (c:mD T) {i a:Int} (h:a∈(nodeAt T i).args):0<=a/\(0<=i->a<i):=by
 unfold nodeAt at h;rw [iW] at h;cases b:T.nodes[i.toNat]? with
 | none=>rw [b] at h;exact absurd h (by simp [aQ6])
 |
  some x=>
  rw [b] at h;have:=c _ x b a h;exact⟨this.1,fun d=>by omega⟩
def aF8 (T:aC) (L:List Int):Prop:=∀l1 x l2,L=l1++x :: l2->∀a∈(nodeAt T x).args,a∈l1
theorem aF8.snoc {T:aC} {b:List Int} {k:Int} (h:aF8 T b) (i:∀a∈(nodeAt T k).args,a∈b):aF8 T (b ++ [k]):=by
 intro j x l e;rcases List.eq_nil_or_concat l with c | ⟨m,y,c⟩
 ·subst c;have:=List.append_inj' e rfl;obtain ⟨d,g⟩:=this;obtain rfl:k=x:=by simpa using g
  subst d;exact i
 ·rw [c,List.concat_eq_append,<-tH,<-jM] at e;have:=List.append_inj' e rfl;exact h j x m this.1
structure WkR (T:aC) (i0:Int->Prop) (Pd:List Int) (st:List Int × List Int):Prop where
 met:∀x∈st.2,x∈st.1
 args:∀x∈st.2,∀a∈(nodeAt T x).args,a∈st.2
 pend:∀x∈st.1,x∈st.2\/x∈Pd
 from_:∀x∈st.2,∃i,i0 i/\Reach T i x
 po:aF8 T st.2
 nd:st.2.Nodup
theorem aBq {T:aC} (O:mD T) (C:Int->Prop):∀(f:Nat) (k:Int) (o:List Int) (st:List Int × List Int),0<=k->k<(f:Int)->(∀y∈o,k<y)->(∃i,C i/\Reach T i k)->WkR T C o st ->
  WkR T C o (dY T f st k)/\k∈(dY T f st k).2/\(∀x∈st.2,x∈(dY T f st k).2)/\∀x∈(dY T f st k).2,x∈st.2\/x<=k
 | 0,k,_,_,h0,h1,_,_,_=>by omega
 |
  f+1,k,o,st,h0,h1,hp,hr,hw=>by
  unfold dY;by_cases A:st.1.contains k=true
  ·rw [if_pos A];have V:k∈st.1:=by simpa using A
   refine⟨hw,?_,fun x c=>c,fun x c=>.inl c⟩;rcases hw.pend k V with h | h
   ·exact h
   ·have:=hp k h;omega
  ·rw [if_neg A];have Q:∀(l:List Int),(∀a∈l,a∈(nodeAt T k).args)->∀d:List Int × List Int,WkR T C (k :: o) d ->
     WkR T C (k :: o) (l.foldl (dY T f) d)/\(∀a∈l,a∈(l.foldl (dY T f) d).2)/\(∀x∈d.2,x∈(l.foldl (dY T f) d).2)/\∀x∈(l.foldl (dY T f) d).2,x∈d.2\/x<k:=by
    intro l
    induction l with
    | nil=>exact fun _ d h=>⟨h,fun a g=>by simp at g,fun x c=>c,fun x c=>.inl c⟩
    |
     cons a l ih=>
     intro N d h;have g:=N a (by simp);obtain ⟨P,I⟩:=pD O g;have I:=I h0;obtain ⟨i,R,U⟩:=hr;obtain ⟨w1,Z,aa,ab⟩:=aBq O C f a (k :: o) d P (by omega) (fun y hy=>by
      rcases mB.1 hy with rfl | hy
      ·exact I
      ·have:=hp y hy;omega) ⟨i,R,U.step g⟩ h
     obtain ⟨j,E,G,H⟩:=ih (fun b r=>N b (by simp [r])) _ w1;refine⟨j,fun b r=>?_,fun x c=>G x (aa x c),fun x c=>by
      rcases H x c with K | K
      ·rcases ab x K with M | M
       ·exact .inl M
       ·exact .inr (by omega)
      ·exact .inr K⟩
     rcases mB.1 r with rfl | r
     ·exact G _ Z
     ·exact E b r
   obtain ⟨j,E,G,H⟩:=Q _ (fun a g=>g) (k :: st.1,st.2) ⟨fun x c=>uL _ (hw.met x c),hw.args,fun x c=>by
    rcases mB.1 c with rfl | c
    ·exact .inr (by simp)
    ·exact(hw.pend x c).imp id fun h=>uL _ h,hw.from_,hw.po,hw.nd⟩
   have ad:k∈((nodeAt T k).args.foldl (dY T f) (k :: st.1,st.2)).1\/True:=.inr trivial;refine⟨⟨fun x c=>?_,fun x c a g=>?_,fun x c=>?_,fun x c=>?_,j.po.snoc E,?_⟩,by simp,fun x c=>aCl _ (G x c),fun x c=>?_⟩
   ·rcases fT.1 c with c | c
    ·exact j.met x c
    ·obtain rfl:=eP.1 c;have L:∀(l:List Int) (d:List Int × List Int),x∈d.1->x∈(l.foldl (dY T f) d).1:=by
      intro l
      induction l with
      | nil=>exact fun _ h=>h
      | cons a l ih=>exact fun d h=>ih _ (walkN_met f a d h)
     exact L _ _ (by simp)
   ·rcases fT.1 c with c | c
    ·exact aCl _ (j.args x c a g)
    ·obtain rfl:=eP.1 c;exact aCl _ (E a g)
   ·rcases j.pend x c with h | h
    ·exact .inl (aCl _ h)
    ·rcases mB.1 h with rfl | h
     ·exact .inl (by simp)
     ·exact .inr h
   ·rcases fT.1 c with c | c
    ·exact j.from_ x c
    ·obtain rfl:=eP.1 c;exact hr
   ·rw [List.nodup_append];refine⟨j.nd,by simp,fun a g b r e=>?_⟩;obtain rfl:=eP.1 r;subst e;rcases H _ g with h | h
    ·exact A (by simpa using hw.met _ h)
    ·omega
   ·rcases fT.1 c with c | c
    ·exact(H x c).imp id fun h=>by omega
    ·obtain rfl:=eP.1 c;exact .inr (Int.le_refl _)
where walkN_met {T:aC} {x:Int}:∀(f:Nat) (k:Int) (st:List Int × List Int),x∈st.1->x∈(dY T f st k).1
 | 0,_,_,h=>h
 |
  f+1,k,st,h=>by
  unfold dY;by_cases A:st.1.contains k=true
  ·rw [if_pos A];exact h
  ·rw [if_neg A];have L:∀(l:List Int) (d:List Int × List Int),x∈d.1->x∈(l.foldl (dY T f) d).1:=by
    intro l
    induction l with
    | nil=>exact fun _ h=>h
    | cons a l ih=>exact fun d h=>ih _ (walkN_met f a d h)
   exact L _ _ (uL _ h)
theorem aF9 {T:aC} (E:mD T) (ids:List Int):WkR T (fun i=>i∈ids/\dH T i=true) [] (jY T ids)/\∀i∈ids,dH T i=true->i∈(jY T ids).2:=by
 have C:∀(l:List Int),(∀i∈l,i∈ids)->∀st:List Int × List Int,WkR T (fun i=>i∈ids/\dH T i=true) [] st ->
   WkR T (fun i=>i∈ids/\dH T i=true) [] (l.foldl (gH T) st)/\(∀i∈l,dH T i=true->i∈(l.foldl (gH T) st).2)/\∀x∈st.2,x∈(l.foldl (gH T) st).2:=by
  intro l
  induction l with
  | nil=>exact fun _ st h=>⟨h,fun i c=>by simp at c,fun x a=>a⟩
  |
   cons i l ih=>
   intro r st h;have c:=r i (by simp);have G:WkR T (fun i=>i∈ids/\dH T i=true) [] (gH T st i)/\(dH T i=true->i∈(gH T st i).2)/\∀x∈st.2,x∈(gH T st i).2:=by
    unfold gH;by_cases b:dH T i=true
    ·rw [if_pos b];have g:=b;unfold dH at g;simp only [jS,lA] at g;obtain ⟨w1,o,N,_⟩:=aBq E (fun i=>i∈ids/\dH T i=true) (T.nodes.length+1) i [] st g.1 (by omega) (by simp) ⟨i,⟨c,b⟩,.refl i⟩ h;exact⟨w1,fun _=>o,N⟩
    ·rw [if_neg b];exact⟨h,fun e=>absurd e b,fun x a=>a⟩
   obtain ⟨H,I,K⟩:=G;obtain ⟨L,M,A⟩:=ih (fun j d=>r j (by simp [d])) _ H;refine⟨L,fun j d b=>?_,fun x a=>A x (K x a)⟩;rcases mB.1 d with rfl | d
   ·exact A _ (I b)
   ·exact M j d b
 obtain ⟨w1,o,_⟩:=C ids (fun i c=>c) ([],[]) ⟨fun x a=>by simp at a,fun x a=>by simp at a,fun x a=>by simp at a,fun x a=>by simp at a,fun O x P e=>by simp at e,List.nodup_nil⟩;exact⟨w1,o⟩
theorem aNb {T:aC} (a:mD T) (ids:List Int):aF8 T (jY T ids).2:=(aF9 a ids).1.po
theorem aKe {T:aC} (j:mD T) (ids:List Int) (x:Int):x∈(jY T ids).2↔∃i∈ids,dH T i=true/\Reach T i x:=by
 obtain ⟨w1,g⟩:=aF9 j ids;constructor
 ·intro l;obtain ⟨i,⟨b,c⟩,d⟩:=w1.from_ x l;exact⟨i,b,c,d⟩
 ·rintro ⟨i,b,c,d⟩;have e:=g i b c;change i∈(jY T ids).2 at e;have h:∀x∈(jY T ids).2,∀a∈(nodeAt T x).args,a∈(jY T ids).2:=w1.args;generalize (jY T ids).2=o at *;clear w1 g b c
  induction d with
  | refl i=>exact e
  | arg ha _ ih=>exact ih (h _ e _ ha)
theorem aOu (T:aC) (X:Nat->Prop):∀(f:Nat) (st:List Int × List Int) (i:Int),dY { T with X:=X } f st i=dY T f st i
 | 0,_,_=>rfl
 |
  f+1,st,i=>by
  have e:dY { T with X:=X } f=dY T f:=funext fun st=>funext fun i=>aOu T X f st i
  unfold dY;rw [e];rfl
theorem aVe (T:aC) (X:Nat->Prop) (ids:List Int):jY { T with X:=X } ids=jY T ids:=by
 have e:gH { T with X:=X }=gH T:=funext fun st=>funext fun i=>by
  unfold gH;rw [aOu];rfl
 unfold jY;rw [e]
theorem aAd {T:aC} (c:mD T) (ids:List Int):uW T (jY T ids)/\∀x∈(jY T ids).2,0<=x/\x<(T.nodes.length:Int):=by
 have:∀(l:List Int) (st:List Int × List Int),uW T st->(∀x∈st.2,0<=x/\x<(T.nodes.length:Int))->uW T (l.foldl (gH T) st)/\∀x∈(l.foldl (gH T) st).2,0<=x/\x<(T.nodes.length:Int):=by
  intro l
  induction l with
  | nil=>exact fun st b a=>⟨b,a⟩
  |
   cons i l ih=>
   intro st b a;refine ih _ (b.at c i) ?_;unfold gH
   split
   ·rename_i e
    obtain ⟨d,g⟩:=cX.1 e;obtain ⟨k,rfl⟩:=fK d;exact aFz c _ k _ (by omega) a
   ·exact a
 exact this ids _ (uW.nil T) (by simp)
def aNc (tm:Int->Option Int):Int->Option Value:=fun k=>(tm k).map (Value.int .i64)
theorem aEb (tm:Int->Option Int) (i x:Int):upd (aNc tm) i (some (.int .i64 x))=aNc (aD7 tm i x):=by
 funext k
 unfold upd aNc aD7;by_cases h:k=i
 ·simp [h]
 ·simp [h]
theorem aKf (tm:Int->Option Int) (i:Int):((aNc tm) i).getD (.int .i64 0) = .int .i64 ((tm i).getD 0):=by
 unfold aNc;cases tm i <;> rfl
theorem jQ.hold {w w':World} {a:Option Addr} {n:Nat} {xs:List Int} (h:jQ w a n xs) (i:0<n->∀x,a=some x->w'.heap[x.block]? = w.heap[x.block]?) (A:w.heap.size<=w'.heap.size):jQ w' a n xs:=
 ⟨h.len,h.wf,fun d=>by
  obtain ⟨b,o,c,l,e⟩:=h.cells d;refine⟨b,o,c,bG l A,fun j g=>?_⟩;have r:=i d _ c;rw [sZ (w:=w) (a:=⟨b,o+j,none⟩) (by exact r)];exact e j g⟩
def aV9 (m:Nat) (n1:Nat) (a1:Option Addr) (n2:Nat) (a2:Option Addr) (k:Nat):Prop:=k=m\/(0<n1/\∃x,a1=some x/\x.block=k)\/(0<n2/\∃x,a2=some x/\x.block=k)
structure pH (w0 w:World) (p:Nat) {τ:Type} (J:τ->World->Prop) (D:τ->World->Nat->Prop) (sz:τ->Nat) (S0:Nat) (Y:Nat->Prop) (T:aC) (D0:Nat->Prop) (m:Nat) (n1:Nat) (a1:Option Addr) (xs1:List Int) (n2:Nat) (a2:Option Addr) (xs2:List Int) (k z:Nat) (st:TS τ) (wr:World):Prop where
 cx:Cx w0 p J D (fun k=>Y k\/k=m) st.T st.s wr
 g:kW T st.T z
 mp:∃c,c<=k/\nT prog 3 m c (aNc st.tm) wr
 ok:∀i x,st.tm i=some x->eI x
 os:lT p D0 (D st.s wr) w wr
 fr:∀k,aV9 m n1 a1 n2 a2 k->k<wr.heap.size/\¬gR p wr k/\¬D st.s wr k
 r1:jQ wr a1 n1 xs1
 r2:jQ wr a2 n2 xs2
 lo:w0.heap.size<=w.heap.size/\w.heap.size<=m
 ss:sz st.s<=S0+z
section
variable {w0 w wr w' : World} {p fv : Nat} {pre caps : List Value} {τ : Type} {f : rQ τ} {J : τ -> World -> Prop} {D : τ -> World -> Nat -> Prop} {sz : τ -> Nat} {S0 : Nat} {Y : Nat -> Prop} {T T' : aC} {s s' : τ} {D0 : Nat -> Prop} {m n1 n2 k z : Nat} {a1 a2 : Option Addr} {xs1 xs2 : List Int} {st : TS τ}
theorem pH.all (i:pQ w0 p fv pre caps f J D sz) (h:pH w0 w p J D sz S0 Y T D0 m n1 a1 xs1 n2 a2 xs2 k z st wr) (a:Below wr.heap.size wr w'):pH w0 w p J D sz S0 Y T D0 m n1 a1 xs1 n2 a2 xs2 k z st w':=by
 obtain ⟨r,hd⟩:=h.cx.all i a;have b:lT p (D st.s wr) (D st.s w') wr w':=lT.ofBelow h.cx.plt a fun k _ e=>(hd k).1 e
 refine⟨r,h.g,?_,h.ok,h.os.trans b,fun j x=>?_,h.r1.below a aA,h.r2.below a aA,h.lo,h.ss⟩
 ·obtain ⟨c,l,o⟩:=h.mp;exact⟨c,l,o.same (a.block m (h.fr m (.inl rfl)).1)⟩
 ·obtain ⟨d,A,C⟩:=h.fr j x;exact⟨bG d a.size,(b.block j d A C).2⟩
theorem pH.ostep (h:pH w0 w p J D sz S0 Y T D0 m n1 a1 xs1 n2 a2 xs2 k z st wr) (r:Cx w0 p J D (fun k=>Y k\/k=m) T' s' w') (b:lT p (D st.s wr) (D s' w') wr w') {c:Nat} (A:kW st.T T' c) (C:sz s'<=sz st.s+c) :
  pH w0 w p J D sz S0 Y T D0 m n1 a1 xs1 n2 a2 xs2 k (z+c) ⟨st.tm,T',s'⟩ w':=by
 have d:=fun j a=>b.block j (h.fr j a).1 (h.fr j a).2.1 (h.fr j a).2.2
 refine⟨r,h.g.trans A,?_,h.ok,h.os.trans b,fun j a=>⟨bG (h.fr j a).1 b.size,(d j a).2⟩,h.r1.hold (fun i x e=>(d _ (.inr (.inl ⟨i,x,e,rfl⟩))).1) b.size,h.r2.hold (fun i x e=>(d _ (.inr (.inr ⟨i,x,e,rfl⟩))).1) b.size,h.lo,by have:=h.ss;show sz s'<=_;omega⟩;obtain ⟨c,l,o⟩:=h.mp;exact⟨c,l,o.same (d m (.inl rfl)).1⟩
theorem pH.done (b:pQ w0 p fv pre caps f J D sz) (h:pH w0 w p J D sz S0 Y T D0 m n1 a1 xs1 n2 a2 xs2 k z st wr) (d:z<=1638400):Cx w0 p J D Y st.T st.s wr/\lT p D0 (D st.s wr) w wr/\kW T st.T 1638400/\sz st.s<=S0+1638400:=by
 obtain ⟨c,_⟩:=h.cx.excl b (w':=wr) (Y':=Y) (aO _ _) (fun _ _ _=>rfl) (fun _ _=>rfl) (fun k a=>⟨.inl (.inl a),(h.cx.x (.inr (.inl a))).1⟩);exact⟨c,h.os,h.g.mono d,by have:=h.ss;omega⟩
theorem pH.more (h:pH w0 w p J D sz S0 Y T D0 m n1 a1 xs1 n2 a2 xs2 k z st wr) {z':Nat} (a:z<=z'):pH w0 w p J D sz S0 Y T D0 m n1 a1 xs1 n2 a2 xs2 k z' st wr:=
 ⟨h.cx,h.g.mono a,h.mp,h.ok,h.os,h.fr,h.r1,h.r2,h.lo,by have:=h.ss;omega⟩
theorem pH.stored (G:pQ w0 p fv pre caps f J D sz) (h:pH w0 w p J D sz S0 Y T D0 m n1 a1 xs1 n2 a2 xs2 k z st wr) {i x:Int} (U:eI x) (P:n1=0\/∀y,a1=some y->y.block≠m) (Q:n2=0\/∀y,a2=some y->y.block≠m) (R:wr.mapTurned w' m) (O:∃c,c<=k+1/\nT prog 3 m c (aNc (aD7 st.tm i x)) w') :
  pH w0 w p J D sz S0 Y T D0 m n1 a1 xs1 n2 a2 xs2 (k+1) z ⟨aD7 st.tm i x,st.T,st.s⟩ w':=by
 have d:=R.grown;have C:=h.fr m (.inl rfl);have l:∀j,j<wr.heap.size->j≠m->w'.heap[j]? = wr.heap[j]?:=fun j a e=>d.block j a fun q=>e (by injection q)
 have K:∀j,D st.s wr j->w'.heap[j]? = wr.heap[j]?:=fun j a=>l j (h.cx.x (.inl a)).1 fun e=>C.2.2 (e ▸ a)
 have r:Below w0.heap.size wr w':=⟨d.os,d.tape,d.output,d.size,fun j a=>l j (bG a h.cx.b.size) fun e=>by have:=h.lo;omega⟩;obtain ⟨L,hd⟩:=h.cx.excl G (Y':=fun k=>Y k\/k=m) r (fun j a A=>l j a fun e=>A (.inr e)) K (fun j a=>⟨.inl a,bG (h.cx.x (.inr a)).1 d.size⟩);have E:w'.heap[p]? = wr.heap[p]?:=l p h.cx.plt fun e=>C.2.1 (by rw [<-e];exact .inl (.inl rfl))
 have M:∀j,aV9 m n1 a1 n2 a2 j->j<w'.heap.size/\¬gR p w' j/\¬D st.s w' j:=fun j a=>
  ⟨bG (h.fr j a).1 d.size,fun e=>(h.fr j a).2.1 ((gR.same E).1 e),fun e=>(h.fr j a).2.2 ((hd j).1 e)⟩
 refine⟨L,h.g,O,fun y z o=>?_,⟨r.os.trans h.os.os,r.tape.trans h.os.tape,r.output.trans h.os.output,aH h.os.size r.size,fun j a V Z=>?_⟩,M,
  h.r1.hold (fun A y e=>l _ (h.fr _ (.inr (.inl ⟨A,y,e,rfl⟩))).1 (P.elim (fun z=>by omega) fun z=>z y e)) d.size,h.r2.hold (fun A y e=>l _ (h.fr _ (.inr (.inr ⟨A,y,e,rfl⟩))).1 (Q.elim (fun z=>by omega) fun z=>z y e)) d.size,h.lo,h.ss⟩
 ·change (if y=i then some x else st.tm y)=some z at o
  split at o
  ·injection o with o;exact o ▸ U
  ·exact h.ok y z o
 ·obtain ⟨H,b2,I⟩:=h.os.block j a V Z;have N:j≠m:=by have:=h.lo.2;omega
  exact⟨(l j (bG a h.os.size) N).trans H,fun e=>b2 ((gR.same E).1 e),fun e=>I ((hd j).1 e)⟩
end
def qJ (f:Int->Option bS):List Int->Option (List bS)
 | []=>some []
 |
  a :: l=>match f a with
  | none=>none
  |
   some v=>match qJ f l with
   | none=>none
   | some vs=>some (v :: vs)
theorem wM {f:Int->Option bS}:∀ {l:List Int} {vs:List bS},qJ f l=some vs->∀a∈l,∃v,f a=some v
 | [],_,_,a,c=>by cases c
 |
  b :: l,vs,h,a,c=>by
  unfold qJ at h;cases d:f b with
  | none=>rw [d] at h;cases h
  |
   some v=>
   rw [d] at h;cases e:qJ f l with
   | none=>rw [e] at h;cases h
   |
    some ws=>
    rcases mB.1 c with rfl | c
    ·exact⟨v,d⟩
    ·exact wM e a c
theorem aEc {f:Int->Option bS}:∀ {l:List Int} {vs:List bS},qJ f l=some vs->vs=l.map fun a=>(f a).getD eZ
 | [],_,h=>by cases h;rfl
 |
  b :: l,vs,h=>by
  unfold qJ at h;cases c:f b with
  | none=>rw [c] at h;cases h
  |
   some v=>
   rw [c] at h;cases d:qJ f l with
   | none=>rw [d] at h;cases h
   |
    some ws=>
    rw [d] at h;cases h;rw [List.map_cons,c,aEc d];rfl
theorem aKg {f:Int->Option bS}:∀ {l:List Int},(∀a∈l,f a≠none)->qJ f l=some (l.map fun a=>(f a).getD eZ)
 | [],_=>rfl
 |
  b :: l,h=>by
  unfold qJ;cases c:f b with
  | none=>exact absurd c (h b (by simp))
  |
   some v=>
   rw [aKg (fun a d=>h a (by simp [d]))];simp [c]
theorem yE {f g:Int->Option bS}:∀ {l:List Int},(∀a∈l,f a=g a)->qJ f l=qJ g l
 | [],_=>rfl
 |
  b :: l,h=>by
  unfold qJ;rw [h b (by simp),yE fun a c=>h a (by simp [c])]
def aKh (m:gL) (x:aZ):Option (List bS)->Option bS
 | none=>none
 | some l=>if (bN m x l).2=0 then some (bN m x l).1 else none
def evF (m:gL) (T:aC):Nat->Int->Option bS
 | 0,_=>none
 | f+1,i=>aKh m (nodeAt T i) (qJ (evF m T f) (nodeAt T i).args)
def ev (m:gL) (T:aC) (i:Int):Option bS:=evF m T (T.nodes.length+1) i
theorem aKi {m:gL} {T:aC} (b:mD T):∀(f g:Nat) (i:Int),0<=i->i<(f:Int)->i<(g:Int)->evF m T f i=evF m T g i
 | 0,_,_,h0,h1,_=>by omega
 | _,0,_,h0,_,h1=>by omega
 |
  f+1,g+1,i,h0,h1,h2=>by
  unfold evF;rw [yE fun a c=>aKi b f g a (pD b c).1 (by have:=(pD b c).2 h0;omega) (by have:=(pD b c).2 h0;omega)]
theorem aKj {m:gL} {T:aC} (b:mD T) {i:Int} (e:dH T i=true):ev m T i=aKh m (nodeAt T i) (qJ (ev m T) (nodeAt T i).args):=by
 obtain ⟨d,g⟩:=cX.1 e;show evF m T (T.nodes.length+1) i=_;unfold evF
 congr 1
 exact yE fun a c=>aKi b _ _ a (pD b c).1 (by have:=(pD b c).2 d;omega) (by have:=(pD b c).2 d;omega)
theorem yF {m:gL} {x:aZ} {l:List bS} {v:bS} (h:bN m x l=(v,0)):aKh m x (some l)=some v:=by
 show(if (bN m x l).2=0 then some (bN m x l).1 else none)=some v;rw [h];rfl
theorem aH6 {m:gL} {T:aC} (o:mD T) {i:Int} (j:dH T i=true) {v:bS} (h:ev m T i=some v):(∀a∈(nodeAt T i).args,ev m T a≠none)/\bN m (nodeAt T i) ((nodeAt T i).args.map fun a=>(ev m T a).getD eZ)=(v,0):=by
 rw [aKj o j] at h;cases b:qJ (ev m T) (nodeAt T i).args with
 | none=>rw [b] at h;cases h
 |
  some l=>
  rw [b] at h;have e:=aEc b;unfold aKh at h;dsimp only at h
  split at h
  ·rename_i d
   injection h with h
   refine⟨fun a g c=>?_,?_⟩
   ·obtain ⟨u,r⟩:=wM b a g;rw [r] at c;cases c
   ·rw [<-e];exact qX h d
  ·cases h
structure EvD (m:gL) (T:aC) (done:List Int) (F:Int->Option bS):Prop where
 v:∀x∈done,∃v,ev m T x=some v/\F x=some v
theorem EvD.args {m:gL} {T:aC} {done:List Int} {F:Int->Option bS} (h:EvD m T done F) {l:List Int} (d:∀a∈l,a∈done):qI F l=l.map (fun a=>(ev m T a).getD eZ)/\qJ (ev m T) l=some (qI F l):=by
 have e:qI F l=l.map (fun a=>(ev m T a).getD eZ):=List.map_congr_left fun a c=>by
  obtain ⟨v,b,i⟩:=h.v a (d a c);rw [b,i]
 refine⟨e,?_⟩;rw [e];exact aKg fun a c g=>by
  obtain ⟨v,b,_⟩:=h.v a (d a c);rw [b] at g;cases g
theorem aKk {m:gL} {T:aC} (g:mD T):∀(l done:List Int) (F:Int->Option bS),aF8 T (done++l)->(∀x∈done++l,dH T x=true)->EvD m T done F ->
  ((rA m T l F).2=0/\EvD m T (done++l) (rA m T l F).1)\/∃x∈l,∃b,qJ (ev m T) (nodeAt T x).args=some b/\(bN m (nodeAt T x) b).2=(rA m T l F).2/\(rA m T l F).2≠0
 | [],done,F,_,_,h=>.inl ⟨rfl,by rw [lZ];exact h⟩
 |
  x :: l,done,F,hp,hh,h=>by
  have o:=hp done x l rfl;obtain ⟨K,e⟩:=h.args o;obtain ⟨r,c⟩:∃r,bN m (nodeAt T x) (qI F (nodeAt T x).args)=r:=⟨_,rfl⟩;have E:=hh x (by simp);rw [aM9 c];by_cases a:r.2=0
  ·rw [if_pos a];have A:ev m T x=some r.1:=by
    rw [aKj g E,e];exact yF (by rw [c];exact qX rfl a)
   have C:EvD m T (done ++ [x]) (aEa F x r.1):=⟨fun y hy=>by
    by_cases d:y=x
    ·subst d;exact⟨r.1,A,by unfold aEa;rw [if_pos rfl]⟩
    ·have G:y∈done:=by
      rcases fT.1 hy with h | h
      ·exact h
      ·exact absurd (eP.1 h) d
     obtain ⟨v,i,j⟩:=h.v y G;exact⟨v,i,by unfold aEa;rw [if_neg d];exact j⟩⟩
   rcases aKk g l (done ++ [x]) _ (by simpa using hp) (by simpa using hh) C with ⟨H,I⟩ | ⟨y,hy,b,q⟩
   ·exact .inl ⟨H,by simpa using I⟩
   ·exact .inr ⟨y,by simp [hy],b,q⟩
  ·rw [if_neg a];exact .inr ⟨x,by simp,_,e,by rw [c],a⟩
theorem aGa {T:aC} (a:mD T) (i:Int):∀x∈(jY T [i]).2,dH T x=true:=fun x b=>cX.2 ((aAd a [i]).2 x b)
theorem aBr {m:gL} {T:aC} (b:mD T) {i:Int} (e:dH T i=true) :
  (∃v,ev m T i=some v/\mG m T i=(v,0))\/(ev m T i=none/\(mG m T i).1=eZ/\(mG m T i).2≠0/\∃x d,Reach T i x/\qJ (ev m T) (nodeAt T x).args=some d/\(bN m (nodeAt T x) d).2=(mG m T i).2):=by
 have l:=fun x=>aKe b [i] x
 have L:i∈(jY T [i]).2:=(l i).2 ⟨i,by simp,e,.refl i⟩;have G:mG m T i=oD (rA m T (jY T [i]).2 fun _=>none) i:=by unfold mG;rw [if_pos e]
 rw [G];rcases aKk (m:=m) b (jY T [i]).2 [] (fun _=>none) (by rw [iE];exact aNb b [i]) (by rw [iE];exact aGa b i) ⟨fun x c=>by cases c⟩ with ⟨q1,q2⟩ | ⟨x,c,d,q1,q2,q3⟩
 ·obtain ⟨v,C,E⟩:=q2.v i (by rw [iE];exact L);refine .inl ⟨v,C,?_⟩;unfold oD;rw [if_pos q1,E];rfl
 ·have g:Reach T i x:=by
   obtain ⟨j,K,_,h⟩:=(l x).1 c;rw [eP.1 K] at h;exact h
  have N:ev m T x=none:=by
   rw [aKj b (aGa b i x c),q1];unfold aKh;dsimp only;rw [if_neg (by rw [q2];exact q3)]
  have I:ev m T i=none:=by
   cases M:ev m T i with
   | none=>rfl
   |
    some v=>
    exfalso
    have H:∀y,Reach T i y->ev m T y≠none:=by
     intro y hy;clear g;have:∀z,dH T z=true->ev m T z≠none->∀y,Reach T z y->ev m T y≠none:=by
      intro z o A y hy
      induction hy with
      | refl z=>exact A
      |
       @arg z a y ha _ ih=>
       cases r:ev m T z with
       | none=>exact absurd r A
       | some u=>exact ih (cX.2 (by have:=pD b ha;have:=cX.1 o;omega)) ((aH6 b o r).1 a ha)
     exact this i e (by rw [M];simp) y hy
    exact H x g N
  refine .inr ⟨I,?_,?_,x,d,g,q1,?_⟩
  ·unfold oD;rw [if_neg q3]
  ·unfold oD;rw [if_neg q3];exact q3
  ·unfold oD;rw [if_neg q3];exact q2
def wT (S:Nat->Prop) (y:Nat) (w:World) (v:Value):Prop:=∃a c,v = .slice a (limbs y).length c/\bT cH.u64 S w a (limbs y).length (limbs y)/\(limbs y).length<=c/\c<=maxLen/\(limbs y).length<=10000
abbrev rR (y:Nat) (w:World) (v:Value):Prop:=wT (fun _=>True) y w v
section
variable {S S' : Nat -> Prop} {y : Nat} {w w' : World} {v : Value}
theorem wT.all (h:wT S y w v) (g:Below w.heap.size w w'):wT S y w' v:=by
 obtain ⟨a,c,b,d,e⟩:=h;exact⟨a,c,b,d.below g aA,e⟩
theorem wT.mono (h:wT S y w v) (i:∀b,b<w.heap.size->S b->S' b):wT S' y w v:=by
 obtain ⟨a,c,d,e,g⟩:=h;exact⟨a,c,d,e.mono i,g⟩
theorem wT.top (h:wT S y w v):rR y w v:=h.mono fun _ _ _=>trivial
theorem wT.set {g:Nat} (h:wT (fun k=>k≠g) y w v) (i:Nat) (u:Value):wT (fun k=>k≠g) y (w.setCell ⟨g,i,none⟩ u) v:=by
 obtain ⟨a,c,d,e,j⟩:=h;exact⟨a,c,d,e.keep (fun b _ l=>dZ _ _ _ _ l) (cD eX.symm),j⟩
theorem uI.toX (h:uI y w (.returned v) w') (l:(limbs y).length<=10000):wT (fun k=>w.heap.size<=k) y w' v/\Below w.heap.size w w':=by
 obtain ⟨a,c,b,d,e,g,i⟩:=h;injection b with b
 exact⟨⟨a,c,b,d.mono fun _ _ j=>j.2,e,g,l⟩,i⟩
end
theorem uI.val {y:Nat} {w w':World} {e:Ending} (h:uI y w e w'):∃v,e = .returned v/\uI y w (.returned v) w':=by
 obtain ⟨a,c,b,d,g,i,j⟩:=h;subst b;exact⟨_,rfl,a,c,rfl,d,g,i,j⟩
theorem aH7 {x y:Nat} {g h:Value} {w:World} (i:rR x w g) (j:rR y w h):Calls prog 161 #[g,h] w fun e w'=>e = .returned (.int .i64 (fZ x y))/\∃q,w'=w.drewN q:=by
 obtain ⟨a,c,rfl,l,_,_,r⟩:=i;obtain ⟨b,d,rfl,o,_,_,A⟩:=j;exact aR9 a b _ _ c d x y w l o (by omega) (by omega)
theorem aW1 {x y:Nat} {g i:Value} {w:World} (j:rR x w g) (l:rR y w i) (o:y<=x):Calls prog 219 #[g,i] w fun e w'=>∃v,e = .returned v/\wT (fun k=>w.heap.size<=k) (x - y) w' v/\Below w.heap.size w w':=by
 obtain ⟨a,c,rfl,A,_,_,r⟩:=j;obtain ⟨b,d,rfl,C,_,_,E⟩:=l;refine(aSa a b _ _ c d x y w A C (by omega) o).mono ?_;rintro e w' h;obtain ⟨v,rfl,h⟩:=h.val;exact⟨v,rfl,h.toX (aH (iG (Nat.sub_le _ _)) r)⟩
theorem aS5 {x:Nat} {b:Value} {w:World} (d:rR x w b) (k:Nat) (g:k<=1000000) (i:(limbs (x * 2 ^ k)).length<=10000):Calls prog 218 #[b,.int .i64 k] w fun e w'=>∃v,e = .returned v/\wT (fun k=>w.heap.size<=k) (x * 2 ^ k) w' v/\Below w.heap.size w w':=by
 obtain ⟨a,c,rfl,j,_,_,l⟩:=d;refine(aMn a _ c x k w j (by omega) g).mono ?_;rintro e w' h;obtain ⟨v,rfl,h⟩:=h.val;exact⟨v,rfl,h.toX i⟩
theorem aS6 (x t:Nat) (c:x<aK) (b:t<64):∃p:Nat,IntKind.u64.wrap ((2:Int) ^ t)=(p:Nat)/\IntKind.u64.wrap (1 * (2:Int) ^ t)=(p:Nat)/\bits .or .u64 (x:Int) (p:Int)=((x ||| 2 ^ t:Nat):Int):=by
 have h:(2:Nat) ^ t<2 ^ 64:=aCk (by decide) b;have a:IntKind.u64.wrap ((2:Int) ^ t)=((2 ^ t:Nat):Int):=by
  rw [show((2:Int) ^ t)=((2 ^ t:Nat):Int) by simp];exact bO (by rw [fV] at h;exact h)
 exact⟨2 ^ t,a,by rw [Int.one_mul];exact a,(bits_nat .u64 64 (by decide) wraps_u64 x (2 ^ t) (by rw [fV];exact c) h).2⟩
theorem aVf {x y:Nat} (hy:0<y) (b:y<=x):pG y<=pG x:=by
 have c:=zZ hy;have d:=zZ (bG hy b);have e:2 ^ (pG y - 1)<2 ^ pG x:=lW (aH c.1 b) d.2.1;have g:=(Nat.pow_lt_pow_iff_right (a:=2) (by decide)).1 e;omega
def aS7 (x y:Nat) (w:World) (e:Ending) (w':World):Prop:=∃v1 v2,e = .returned (.tuple #[v1,v2])/\rR (x / y) w' v1/\rR (x % y) w' v2/\Below w.heap.size w w'
theorem aNd (j:Nat):∃i t:Nat,i=j / 64/\t=j % 64/\t<64/\Int.tdiv (j:Int) 64=(i:Nat)/\Int.tmod (j:Int) 64=(t:Nat)/\IntKind.u64.wrap (t:Int)=t/\min t 64=t/\j=64 * i+t:=by
 refine⟨j / 64,j % 64,rfl,rfl,gN _ (by decide),?_,?_,bO ?_,?_,(qT j 64).symm⟩
 ·rw [aAp (by omega)];omega
 ·rw [aC8 (by omega)];omega
 ·omega
 ·omega
theorem vE (bm bn:Value) (x y:Nat) (w:World) (ae:rR x w bm) (hy:rR y w bn) (af:0<y) :
  Calls prog 186 #[bm,bn] w fun e w'=>aS7 x y w e w':=by
 have ap:=Z ae;have b2:=Z hy;have au:=Z (aH7 ae hy);by_cases ab:x<y
 case pos=>
  rw [tQ ab] at au;have aV:=Z (show x / y=0/\x % y=x from⟨nM ab,lY ab⟩);clear ae hy ab af;obtain ⟨a,c,rfl,a9⟩:=ap.o;go_enter func186,ntmps186
  go_wp2_with fail
  refine au.o.mono ?_;rintro e w1 ⟨rfl,ag,rfl⟩;go_wp2;go_ret2;refine⟨_,_,rfl,?_,?_,(aO _ _).drewN ag⟩
  ·rw [aV.o.1];exact⟨none,0,by rw [dI];rfl,by rw [dI];exact bT.nil _ _ _ _,by rw [dI];exact aA,aN,by rw [dI];exact aN⟩
  ·rw [aV.o.2];exact ap.o.all ((aO _ _).drewN ag)
 case neg=>
  have ay:y<=x:=by omega
  have b6:¬(fZ x y<0):=by unfold fZ;split <;> (try split) <;> omega
  have bY:decide (fZ x y<0)=false:=by simpa using b6
  have aq:=zZ (bG af ay);have ar:=zZ af;have bX:=aVf af ay;have bb:=Z (aR6 aq.2.1 ar.1);obtain ⟨a,c,rfl,bj,c1,c2,bi⟩:=ae;obtain ⟨b,d,rfl,bk,bR,bS,cc⟩:=hy;generalize b8:fZ x y=bQ at *;have aD:=fun W (ao:Below w.heap.size w W)=>aF0 a _ c x W (bj.below ao aA) (by omega)
  have N:=fun W (ao:Below w.heap.size w W)=>aF0 b _ d y W (bk.below ao aA) (by omega)
  generalize b4:pG x=L at *;generalize b5:pG y=M at *
  generalize aQ:(limbs x).length=n at *;have bF:=Z aQ;clear aQ;obtain ⟨J,aB⟩:∃J,L=M+J:=⟨L - M,by omega⟩
  have bV:(L:Int) - M=J:=by omega
  have bW:J+1<=64 * n:=by omega
  have bL:=Z (show x<y * 2 ^ (J+1) from by have:=bb.o;rwa [show L - (M - 1)=J+1 by omega] at this);have bz:=Z aD;have b0:=Z N;have bD:=Z (fun j (h:j<=J)=>show(limbs (y * 2 ^ j)).length<=10000 from by
   refine aH (fO (k:=n) ?_) bi;have a8:y * 2 ^ j<2 ^ M * 2 ^ J:=bG (aCb ar.2.1 (mA j)) (lU _ (pW (by decide) h))
   rw [<-jT,<-aB] at a8;have a9:2 ^ L<=2 ^ (64 * n):=pW (by decide) aq.2.2.2;have bx:(2:Nat) ^ (64 * n)=aK ^ n:=by rw [Nat.pow_mul,fV]
   rw [<-bx];exact bG a8 a9)
  have bI:n<=10000:=bi;clear b8 b4 b5 bb aD N bj bk aB aq ar ay;go_enter func186,ntmps186
  go_wp2_with fail
  refine au.o.mono ?_;rintro e w1 ⟨rfl,ag,bf⟩;have aj:=Z (show Below w.heap.size w w1 from by rw [bf];exact(aO _ _).drewN ag);obtain ⟨bo,bH,aT,N,bJ⟩:=nF n w.heap.size w1 (by omega) aj.o.size;have br:=Z aT;have R:=Z (aG aj N);have bB:=aj.o.size;clear bf aT N bJ
  go_wp2_with fail
  refine(bz.o bo R.o).mono ?_;rintro e w' ⟨rfl,rfl⟩
  go_wp2_with fail
  refine(b0.o bo R.o).mono ?_;rintro e w' ⟨rfl,rfl⟩;go_wp2;generalize b9:w1.heap.size=g at *;clear b9 bH
  go_loopw [7,8,9] (fun bO a5 _ wr=>∃(j C r:Nat) (E:List Int),j<=J+1/\a5 = .int .i64 ((j:Int) - 1)/\Hid (x=C * y+r)/\Hid (r<y * 2 ^ j)/\Hid (C % 2 ^ j=0)/\Hid (aJ E=C)/\Hid (iO wr w.heap.size g n E)/\Hid (wT (fun k=>k≠g) r wr bO)/\Hid (Below w.heap.size w wr)) (fun _ a5 _ _=>(intOf a5+1).toNat)
  case atStart=>exact⟨J+1,0,x,List.replicate n 0,aA,by go_num,by show x=0 * y+x;omega,bL.o,Nat.zero_mod _,tR n,br.o,(ap.o.mono fun b b3 _=>(by omega)).all R.o,R.o⟩
  case round=>
   obtain ⟨j,C,r,E,cb,rfl,aw,aW,aR,ad,am,an,al⟩:=hrel;by_cases bC:j=0
   case pos=>
    subst bC;have ax:=Z (aWx aw.o (by have:=aW.o;rwa [vS,jN] at this));have a0:=nU (some ⟨g,0,none⟩) n n E wr am.o.datF (by omega) aA;rw [ad.o] at a0;have be:=Z a0;have b1:=Z (show(limbs C).length<=10000 from by
     rw [ax.o.1];exact aH (iG (tC x y)) (by rw [bF.o];exact bI))
    clear a0
    go_wp2_with fail
    refine be.o.mono ?_;rintro e P U;obtain ⟨bN,rfl,U⟩:=U.val;obtain ⟨aC,aE⟩:=U.toX b1.o;have ai:=Z aC;have H:=Z aE;clear U aC aE be;go_wp2;go_ret2;exact⟨_,_,rfl,by rw [<-ax.o.1];exact ai.o.top,by rw [<-ax.o.2];exact(an.o.all H.o).top,aG al H.o⟩
   case neg=>
    obtain ⟨k,rfl⟩:∃k,j=k+1:=⟨j - 1,by omega⟩;have aL:(((k+1:Nat):Int) - 1)=k:=by omega
    rw [aL];obtain ⟨i,t,aF,bd,bc,cg,ch,ci,cj,aM⟩:=aNd k;have ck:((k:Int) / 64)=(i:Nat):=by omega
    have cl:((k:Int) % 64)=(t:Nat):=by omega
    have aI:i<n:=by omega
    have ca:(i:Int)<n:=by omega
    have cm:k / 64=i:=aF.symm;have cn:k % 64=t:=bd.symm;clear aF bd;have az:=Z (aU5 aw.o aW.o aR.o);have aZ:=Z (aS5 (b2.o.all al.o) k (by omega) (bD.o k (by omega)));have aP:=Z aM;clear aL aM
    go_wp2_with fail
    refine aZ.o.mono ?_;rintro e P ⟨bN,rfl,a4,K⟩;have H:=Z (aG al K);have Q:=Z (am.o.same (K.block g am.o.lt));have V:=Z (aH7 (an.o.all K).top a4.top);have ai:=Z a4;have a7:=Z (an.o.all K);clear a4 K aZ;by_cases aa:y * 2 ^ k<=r
    case pos=>
     have av:(0:Int)<=fZ r (y * 2 ^ k):=by unfold fZ;split <;> (try split) <;> omega
     have b7:decide ((0:Int)<=fZ r (y * 2 ^ k))=true:=by simpa using av
     have ba:=Z (az.o.2.2 aa);have bA:=Z aa;generalize fZ r (y * 2 ^ k)=bw at *;clear aa
     go_wp2_with fail
     refine V.o.mono ?_;rintro e a6 ⟨rfl,a3,O⟩;have A:Below P.heap.size P a6:=by rw [O];exact(aO _ _).drewN a3
     have aX:=Z (aW1 (a7.o.all A).top (ai.o.all A).top bA.o);have ah:=Z (aG H A);have I:=Z (Q.o.same (A.block g Q.o.lt));clear O A V
     go_wp2_with fail
     refine aX.o.mono ?_;rintro e cp ⟨co,rfl,bl,ak⟩;have bp:=Z (aG ah ak);have G:=Z (I.o.same (ak.block g I.o.lt));have bu:=Z (bl.mono (S':=fun k=>k≠g) fun b _ b3=>(by have:=I.o.lt;omega));clear bl ak aX;obtain ⟨bP,zd,aS,bg,bh,aU,aY⟩:=aPx (l:=E) (i:=i) (t:=t) G.o.2.2.1 (by rw [G.o.1];exact aI) bc (by rw [ad.o,<-aP.o];exact aR.o);obtain ⟨cf,cd,ce,bM⟩:=aS6 bP t bg bc;rw [aU] at bM;have y0:=G.o.cell (j:=i) aI;rw [aS] at y0;have bU:=G.o.frz i;have bs:=Z (G.o.set (j:=i) (x:=(zd:Int)) (gJ bh));have bK:=Z aY;have bZ:=G.o.lt;have bq:=Z (bp.o.setCell (p:=⟨g,i,none⟩) bB (.int .u64 (zd:Int)));have bv:=Z (bu.o.set i (.int .u64 (zd:Int)));clear aS bg bh aU aY;go_wp2
     go_roundw
     case rel=>exact⟨k,C+2 ^ k,r - y * 2 ^ k,E.set i (zd:Int),by omega,by first | rfl | go_num,ba.o.1,ba.o.2,az.o.2.1,by show aJ _=_;rw [bK.o,ad.o,<-aP.o],bs.o,bv.o,bq.o⟩
     case measure=>first | (simp [intOf];done) | (simp [intOf];omega)
    case neg=>
     have av:¬(0:Int)<=fZ r (y * 2 ^ k):=by unfold fZ;rw [if_pos (by omega)];decide
     have b7:decide ((0:Int)<=fZ r (y * 2 ^ k))=false:=by simpa using av
     have bE:=Z (show r<y * 2 ^ k by omega);generalize fZ r (y * 2 ^ k)=bw at *;clear aa
     go_wp2_with fail
     refine V.o.mono ?_;rintro e a6 ⟨rfl,a3,O⟩;have A:Below P.heap.size P a6:=by rw [O];exact(aO _ _).drewN a3
     have ah:=Z (aG H A);have I:=Z (Q.o.same (A.block g Q.o.lt));have bt:=Z (a7.o.all A);clear O A V;go_wp2
     go_roundw
     case rel=>exact⟨k,C,r,E,by omega,by first | rfl | go_num,aw.o,bE.o,az.o.1,ad.o,I.o,bt.o,ah.o⟩
     case measure=>first | (simp [intOf];done) | (simp [intOf];omega)
def aYr (x y:Nat) (w:World) (e:Ending) (w':World):Prop:=∃v,e = .returned v/\rR (Nat.gcd x y) w' v/\Below w.heap.size w w'
theorem aKl (L M:Value) (x y:Nat) (w:World) (K:rR x w L) (hy:rR y w M) :
  Calls prog 162 #[L,M] w fun e w'=>aYr x y w e w':=by
 have ae:=Z K;have af:=Z hy;clear K hy;go_enter func162,ntmps162
 go_wp2
 go_loopg [0,1] y (fun g u0 u1 wr=>∃z,Hid (rR z wr u0)/\Hid (rR g wr u1)/\Hid (Nat.gcd z g=Nat.gcd x y)/\Hid (Below w.heap.size w wr))
 case atStart=>exact⟨x,ae.o,af.o,rfl,aO _ _⟩
 case round=>
  obtain ⟨g,U⟩:∃g,g=gk:=⟨_,rfl⟩;subst U;obtain ⟨z,j,a,h,E⟩:=hrel;by_cases R:g=0
  case pos=>
   subst R;obtain ⟨b,d,rfl,l,r,A,C⟩:=a.o;have G:(limbs 0).length=0:=by rw [dI];rfl
   rw [G] at *;have V:=Z (show Nat.gcd x y=z from by rw [<-h.o,Nat.gcd_zero_right]);clear l r A C G;go_wp2;go_ret;exact⟨_,rfl,by rw [V.o];exact j.o,E.o⟩
  case neg=>
   have i:0<g:=by omega
   have I:=Z (vE u0 u1 z g wr j.o a.o i);obtain ⟨b,d,rfl,l,r,A,C⟩:=a.o;have ag:0<(limbs g).length:=bK.2 i;have ab:=Z (gN z i);have Q:=Z (show Nat.gcd g (z % g)=Nat.gcd x y from by rw [<-h.o,aCy z g,Nat.gcd_rec g z,aCy]);clear l r A C j h;generalize aa:(limbs g).length=ah at *;clear aa
   go_wp2_with fail
   refine I.o.mono ?_;rintro e ak ⟨ai,aj,rfl,ad,H,c⟩;have O:=Z (a.o.all c);have P:=Z H;have N:=Z (aG E c);clear ad H c I;go_wp2
   go_roundg (z % g)
   case measure=>exact ab.o
   case rel=>exact⟨g,O.o,P.o,Q.o,N.o⟩
theorem mH {S:Nat->Prop} (a:Option Addr) (n c:Nat) (xs:List Int) (w:World) (g:bT cH.u64 S w a n xs) (C:n<1099511627776):Calls prog 160 #[.slice a n c] w fun e w'=>e = .returned (.bool (iB xs))/\w=w':=by
 have hd:=@Z (iB xs=(decide (xs.length<=64) && (decide (xs.length=0) || !(nth xs (xs.length - 1) == 0)))) rfl;have h:=g.1;by_cases x:n<=64
 case neg=>
  have d:=@Z (false=iB xs) (by rw [hd.o];simp [show ¬xs.length<=64 by omega]);have i:¬(n:Int)<=64:=by omega
  have A:decide ((n:Int)<=64)=false:=by simpa using i
  clear g h hd;go_enter func160,ntmps160
  go_wp2;go_ret;exact⟨aI d.o,rfl⟩
 have i:(n:Int)<=64:=by omega
 by_cases j:n=0
 ·have d:=@Z (true=iB xs) (by rw [hd.o];simp [show xs.length=0 by omega]);subst j;clear g h hd i;go_enter func160,ntmps160
  go_wp2;go_ret;exact⟨aI d.o,rfl⟩
 ·obtain ⟨k,rfl⟩:∃k,n=k+1:=⟨n - 1,by omega⟩;obtain ⟨b,o,rfl,E,_⟩:=g.at64 (k:=k) (by omega);have d:=@Z (iB xs = !(nth xs k == 0)) (by rw [hd.o,h,bV (show k+1<=64 by omega),aR (show ¬k+1=0 by omega)];rfl);have l:¬((k+1:Nat):Int)=0:=by omega
  have r:decide (((k+1:Nat):Int)=0)=false:=by simpa using l
  clear g h hd;generalize nth xs k=y at *;go_enter func160,ntmps160
  go_wp2;go_ret;exact⟨aI d.o.symm,rfl⟩
theorem aKm (w:World):Calls prog 163 #[] w fun e w'=>e = .returned (.slice (some ⟨w.heap.size,0,none⟩) 1 1)/\w'=w.alloc (.cells #[.int .u64 1] 177):=by
 go_enter func163,ntmps163
 go_wp2;go_ret;exact⟨rfl,rfl⟩
theorem aAe {xs ys:List Int} {k:Nat} (a:k<xs.length) (hy:k<ys.length):(xs.take (k+1)=ys.take (k+1))↔(xs.take k=ys.take k/\nth xs k=nth ys k):=by
 rw [jD a,jD hy,cE a,cE hy];constructor
 ·intro h;have d:(xs.take k).length=(ys.take k).length:=by rw [eS,eS];omega
  have:=List.append_inj h d;exact⟨this.1,by have:=this.2;injection this⟩
 ·rintro ⟨b,c⟩;rw [b,c]
theorem xD {S S':Nat->Prop} (a b:Option Addr) (n m c d:Nat) (xs ys:List Int) (w:World) (i:bT cH.u64 S w a n xs) (hy:bT cH.u64 S' w b m ys) (V:n<17592186044416) (U:m<17592186044416) :
  Calls prog 145 #[.slice a n c,.slice b m d] w fun e w'=>e = .returned (.bool (decide (xs=ys)))/\∃q,w'=w.drewN q:=by
 have j:=i.1;have l:=hy.1;by_cases C:n=m
 case neg=>
  have h:=Z (show false=decide (xs=ys) from(aR fun e=>C (by rw [<-j,<-l,e])).symm);have H:¬((n:Int)=m):=by omega
  have aa:((n:Int) != m)=true:=by simpa using H
  clear i hy j l;go_enter func145,ntmps145
  go_wp2;go_ret;exact⟨aI h.o,0,rfl⟩
 subst C;have I:=Z i;have K:=Z hy;have r:=Z j;have x:=Z l;clear i hy j l;go_enter func145,ntmps145
 go_wp2
 go_loopw [4,5] (fun M v wr=>∃k:Nat,k<=n/\M = .bool false/\v = .int .i64 k/\Hid (xs.take k=ys.take k)/\∃q,wr=w.drewN q) (fun _ v _=>n - (intOf v).toNat)
 case atStart=>exact⟨0,aN,rfl,rfl,rfl,0,rfl⟩
 case round=>
  obtain ⟨k,P,rfl,rfl,A,q,rfl⟩:=hrel;by_cases R:k<n
  case pos=>
   obtain ⟨N,ad,rfl,ab,_⟩:=I.o.at64 (k:=k) (by rw [r.o];omega);obtain ⟨b2,ae,rfl,L,_⟩:=K.o.at64 (k:=k) (by rw [x.o];omega);have E:=Z (aAe (xs:=xs) (ys:=ys) (k:=k) (by rw [r.o];omega) (by rw [x.o];omega));have Q:(k:Int)<n:=by omega
   by_cases g:nth xs k=nth ys k
   ·have G:=Z (E.o.2 ⟨A.o,g⟩);rw [<-g] at L;clear g;generalize nth xs k=z at *;go_wp2
    go_quiet (fail)
    go_wp2
    go_roundw
    case rel=>exact⟨k+1,by omega,rfl,by go_num,G.o,_,rfl⟩
    case measure=>first | (simp [intOf];done) | (simp [intOf];omega)
   ·have h:=Z (show false=decide (xs=ys) from(aR fun e=>g (by rw [e])).symm);have O:(nth xs k != nth ys k)=true:=by simpa using g
    clear g E;generalize nth xs k=z at *;generalize nth ys k=z' at *;go_wp2
    go_quiet (fail)
    go_wp2;go_ret;exact⟨aI h.o,_,by first | rfl | (rw [kP])⟩
  case neg=>
   have h:=Z (show true=decide (xs=ys) from(bV (by
    have:=A.o
    rwa [fL (by rw [r.o];omega),fL (by rw [x.o];omega)] at this)).symm)
   go_wp2;go_ret;exact⟨aI h.o,_,by first | rfl | (rw [kP])⟩
def aBs (a b:cJ):Bool:=(a.neg == b.neg) && (decide (a.num=b.num) && decide (a.den=b.den))
theorem aQg {S S':Nat->Prop} (r s:cJ) (a b A C:Option Addr) (c d G H:Nat) (w:World) (Q:bT cH.u64 S w a r.num.length r.num) (R:bT cH.u64 S w b r.den.length r.den) (O:bT cH.u64 S' w A s.num.length s.num) (P:bT cH.u64 S' w C s.den.length s.den)
  (ag:r.num.length<17592186044416) (af:r.den.length<17592186044416) (ae:s.num.length<17592186044416) (ad:s.den.length<17592186044416) :
  Calls prog 92 #[fA r a c b d,fA s A G C H] w fun e w'=>e = .returned (.bool (aBs r s))/\Below w.heap.size w w':=by
 have hd:=@Z (aBs r s=((r.neg == s.neg) && (decide (r.num=s.num) && decide (r.den=s.den)))) rfl;obtain ⟨l,i,g⟩:=r;obtain ⟨x,j,h⟩:=s;dsimp only at *;have E:Below w.heap.size w ((w.alloc (.cells #[.bool l,.slice a i.length c,.slice b g.length d] 36)).alloc (.cells #[.bool x,.slice A j.length G,.slice C h.length H] 36)):=cV w _ _;have K:=Z E;have U:=Z (xD a A _ _ c G i j _ (Q.below E aA) (O.below E aA) (by omega) (by omega));have V:=Z (fun q=>xD b C _ _ d H g h _ ((R.below E aA).below ((aO _ _).drewN q) aA) ((P.below E aA).below ((aO _ _).drewN q) aA) (by omega) (by omega));have M:=fI w (.cells #[.bool l,.slice a i.length c,.slice b g.length d] 36) (.cells #[.bool x,.slice A j.length G,.slice C h.length H] 36);have N:=eV w (.cells #[.bool l,.slice a i.length c,.slice b g.length d] 36) (.cells #[.bool x,.slice A j.length G,.slice C h.length H] 36);obtain ⟨aj,ak,al⟩:=eH M;obtain ⟨y0,y1,y2⟩:=eH N;clear Q R O P E M N;generalize decide (i=j)=aa at *;generalize decide (g=h)=ab at *;cases L:(l == x)
 case false=>
  have I:=@Z (false=aBs ⟨l,i,g⟩ ⟨x,j,h⟩) (by rw [hd.o,L];rfl);go_enter func92,ntmps92
  go_wp2_with fail
  all_goals (try go_quiet (fail))
  all_goals (try go_wp2)
  go_ret;exact⟨aI I.o,K.o⟩
 case true=>
  cases aa
  case false=>
   have I:=@Z (false=aBs ⟨l,i,g⟩ ⟨x,j,h⟩) (by rw [hd.o,L];rfl);go_enter func92,ntmps92
   go_wp2_with fail
   refine U.o.mono ?_;rintro e w1 ⟨rfl,q,rfl⟩;go_wp2;go_ret;exact⟨aI I.o,K.o.drewN q⟩
  case true=>
   have I:=@Z (ab=aBs ⟨l,i,g⟩ ⟨x,j,h⟩) (by rw [hd.o,L];rfl);go_enter func92,ntmps92
   go_wp2_with fail
   refine U.o.mono ?_;rintro e w1 ⟨rfl,q,rfl⟩
   go_wp2_with fail
   refine(V.o q).mono ?_;rintro e ai ⟨rfl,ah,rfl⟩;go_wp2;go_ret;exact⟨aI I.o,K.o.drewN _⟩
theorem aFb (a b:Option Addr) (n m c d:Nat) (xs ys:List Int) (w:World) (i:jQ w a n xs) (hy:jQ w b m ys) (V:n<17592186044416) (U:m<17592186044416) :
  Calls prog 118 #[.slice a n c,.slice b m d] w fun e w'=>e = .returned (.bool (decide (xs=ys)))/\∃q,w'=w.drewN q:=by
 have j:=i.len;have l:=hy.len;by_cases A:n=m
 case neg=>
  have h:=Z (show false=decide (xs=ys) from(aR fun e=>A (by rw [<-j,<-l,e])).symm);have I:¬((n:Int)=m):=by omega
  have aa:((n:Int) != m)=true:=by simpa using I
  clear i hy j l;go_enter func118,ntmps118
  go_wp2;go_ret;exact⟨aI h.o,0,rfl⟩
 subst A;have K:=Z i;have L:=Z hy;have E:=Z j;have G:=Z l;clear i hy j l;go_enter func118,ntmps118
 go_wp2
 go_loopw [4,5] (fun N v wr=>∃k:Nat,k<=n/\N = .bool false/\v = .int .i64 k/\Hid (xs.take k=ys.take k)/\∃q,wr=w.drewN q) (fun _ v _=>n - (intOf v).toNat)
 case atStart=>exact⟨0,aN,rfl,rfl,rfl,0,rfl⟩
 case round=>
  obtain ⟨k,Q,rfl,rfl,r,q,rfl⟩:=hrel;by_cases x:k<n
  case pos=>
   obtain ⟨O,ad,rfl,ab⟩:=K.o.at k x;obtain ⟨b2,ae,rfl,M⟩:=L.o.at k x;have C:=Z (aAe (xs:=xs) (ys:=ys) (k:=k) (by rw [E.o];omega) (by rw [G.o];omega));have R:(k:Int)<n:=by omega
   by_cases g:nth xs k=nth ys k
   ·have H:=Z (C.o.2 ⟨r.o,g⟩);rw [<-g] at M;clear g;generalize nth xs k=z at *;go_wp2
    go_quiet (fail)
    go_wp2
    go_roundw
    case rel=>exact⟨k+1,by omega,rfl,by go_num,H.o,_,rfl⟩
    case measure=>first | (simp [intOf];done) | (simp [intOf];omega)
   ·have h:=Z (show false=decide (xs=ys) from(aR fun e=>g (by rw [e])).symm);have P:(nth xs k != nth ys k)=true:=by simpa using g
    clear g C;generalize nth xs k=z at *;generalize nth ys k=z' at *;go_wp2
    go_quiet (fail)
    go_wp2;go_ret;exact⟨aI h.o,_,by first | rfl | (rw [kP])⟩
  case neg=>
   have h:=Z (show true=decide (xs=ys) from(bV (by
    have:=r.o
    rwa [fL (by rw [E.o];omega),fL (by rw [G.o];omega)] at this)).symm)
   go_wp2;go_ret;exact⟨aI h.o,_,by first | rfl | (rw [kP])⟩
def RRd (r:Nat) (M:List aZ) (w:World):Prop:=∃pq aL cL f,w.heap[r]? = some (.cells #[pq,.slice aL M.length cL,f] 51 (0,0))/\bT uO (fun _=>True) w aL M.length M
theorem RRd.all {r:Nat} {M:List aZ} {w w':World} (h:RRd r M w) (b:Below w.heap.size w w'):RRd r M w':=by
 obtain ⟨g,c,d,f,a,e⟩:=h;exact⟨g,c,d,f,(b.block r (bH a).1).trans a,e.below b aA⟩
theorem aEd {T:aC} {xs:List Int} {s:Int}:eM T xs s=decide (∀x∈xs,(nodeAt T x).sort=s):=by
 unfold eM;by_cases h:∀x∈xs,(nodeAt T x).sort=s
 ·rw [bV h,tA,oT];intro x a;simp [h x a]
 ·rw [aR h,aCo,oW];have:∃x,x∈xs/\(nodeAt T x).sort≠s:=by
   apply Classical.byContradiction;intro c;exact h fun x a=>Classical.byContradiction fun b=>c ⟨x,a,b⟩
  obtain ⟨x,a,b⟩:=this;exact⟨x,a,by simpa using b⟩
theorem iY (r:Nat) (T:aC) (a:Option Addr) (n c:Nat) (xs:List Int) (s:Int) (w:World) (h:RRd r T.nodes w) (G:jQ w a n xs) (au:n<1099511627776) (C:InT T xs) :
  Calls prog 164 #[.pointer (some ⟨r,0,none⟩),.slice a n c,.int .i64 s] w fun e w'=>e = .returned (.bool (eM T xs s))/\∃q,w'=w.drewN q:=by
 obtain ⟨ax,R,U,f,N,O⟩:=h;have av:w.cell? ⟨r,1,none⟩=some (.slice R T.nodes.length U):=E N 1;have hd:=Z (aEd (T:=T) (xs:=xs) (s:=s));have ai:=Z G;have L:=Z G.len;have aa:=Z O;have af:=Z C;clear G C N O;go_enter func164,ntmps164
 go_wp2
 go_loopw [6,7] (fun ak v wr=>∃k:Nat,k<=n/\ak = .bool false/\v = .int .i64 k/\Hid (∀j,j<k->(nodeAt T (nth xs j)).sort=s)/\∃q,wr=w.drewN q) (fun _ v _=>n - (intOf v).toNat)
 case atStart=>exact⟨0,aN,rfl,rfl,fun j A=>absurd A (by omega),0,rfl⟩
 case round=>
  obtain ⟨k,aq,rfl,rfl,Q,q,rfl⟩:=hrel;by_cases ah:k<n
  case pos=>
   obtain ⟨an,aw,rfl,aj⟩:=ai.o.at k ah;obtain ⟨M,V⟩:=af.o (nth xs k) (cB (by rw [L.o];omega));obtain ⟨j,A⟩:=fK M;have ag:j<T.nodes.length:=by omega
   obtain ⟨b,o,al,ao,am,d,g,e,rfl,_,P⟩:=aa.o.nodeAt (cR ag);have ay:=P 6 _ rfl;rw [A] at aj;have ar:(k:Int)<n:=by omega
   have ap:(j:Int)<T.nodes.length:=by omega
   have I:=Z (fun(h:(nodeAt T j).sort=s)=>show ∀i,i<k+1->(nodeAt T (nth xs i)).sort=s from fun i C=>by
    by_cases e:i=k
    ·rw [e,A];exact h
    ·exact Q.o i (by omega))
   have H:=Z (fun(h:(nodeAt T j).sort≠s)=>show false=eM T xs s from by
    rw [hd.o];exact(aR fun ad=>h (by rw [<-A];exact ad _ (cB (by rw [L.o];omega)))).symm)
   clear P M V A;generalize (nodeAt T j).sort=z at *;by_cases l:z=s
   ·have ab:=Z (I.o l);have ae:(z != s)=false:=by rw [l];simp
    clear I H l;go_wp2
    go_quiet (fail)
    go_wp2
    go_roundw
    case rel=>exact⟨k+1,by omega,rfl,by go_num,ab.o,_,rfl⟩
    case measure=>first | (simp [intOf];done) | (simp [intOf];omega)
   ·have K:=Z (H.o l);have ae:(z != s)=true:=by simpa using l
    clear I H l;go_wp2
    go_quiet (fail)
    go_wp2;go_ret;exact⟨aI K.o,_,by first | rfl | (rw [kP])⟩
  case neg=>
   have K:=Z (show true=eM T xs s from by
    rw [hd.o];refine(bV fun x G=>?_).symm;obtain ⟨i,C,rfl⟩:=gU G;have:=Q.o i (by have:=L.o;omega)
    rwa [cE C] at this)
   go_wp2;go_ret;exact⟨aI K.o,_,by first | rfl | (rw [kP])⟩
structure rS (T:aC):Prop where
 nums:∀(k:Nat) (x:aZ),T.nodes[k]? = some x->numAt T k=dJ T x
 div:∀x∈T.nodes,x.op=16->1<=x.args.length
 num:∀x∈T.nodes,x.op=11->x.args = []
theorem rS.first {T:aC} (h:rS T) (A:mD T) {k:Nat} {x:aZ} (d:T.nodes[k]? = some x) (a:(numAt T k).1=true) (r:x.op≠11) :
  ∃j:Nat,nth x.args 0=(j:Int)/\j<k/\0<x.args.length/\(numAt T j).1=true/\(numAt T k).2=(numAt T j).2:=by
 have e:=h.nums k x d;rw [e] at a;unfold dJ at a e;rw [if_neg r] at a e;by_cases g:x.op=14\/x.op=16
 ·rw [if_pos g] at a e;by_cases i:dB T x.args=true
  ·rw [if_pos i] at a e;by_cases b:x.op=16\/x.args.length=1
   ·rw [if_pos b] at a e;have l:0<x.args.length:=by
     rcases b with b | b
     ·exact h.div x (fP d) b
     ·omega
    obtain ⟨o,C⟩:=A k x d (nth x.args 0) (cB l);obtain ⟨j,c⟩:=fK o;refine⟨j,c,by omega,l,by rw [<-c];exact a,by rw [e,c]⟩
   ·rw [if_neg b] at a;cases a
  ·rw [if_neg i] at a;cases a
 ·rw [if_neg g] at a;cases a
def aOv (x:aZ):Bool:=(x.op == 11) || ((x.op == 16) || ((x.op == 14) && decide (x.args.length=1)))
theorem rS.is {T:aC} (h:rS T) {k:Nat} {x:aZ} (j:T.nodes[k]? = some x):(numAt T k).1=(aOv x && dB T x.args):=by
 rw [h.nums k x j];unfold dJ aOv;have i:=fP j;by_cases c:x.op=11
 ·rw [if_pos c,c,h.num x i c];rfl
 ·rw [if_neg c];have l:(x.op == 11)=false:=by simpa using c
  rw [l];by_cases d:x.op=16
  ·rw [if_pos (.inr d),d];have b:=h.div x i d;by_cases a:dB T x.args=true
   ·rw [if_pos a,a,if_pos (.inl rfl)];unfold dB at a;have:=oV.1 a (nth x.args 0) (cB b);rw [this];rfl
   ·rw [if_neg a];simp only [Bool.not_eq_true] at a;rw [a];rfl
  ·have r:(x.op == 16)=false:=by simpa using d
   rw [r];by_cases g:x.op=14
   ·rw [if_pos (.inl g),g];by_cases a:dB T x.args=true
    ·rw [if_pos a,a];by_cases b:x.args.length=1
     ·rw [if_pos (.inr b),bV b];unfold dB at a;have:=oV.1 a (nth x.args 0) (cB (by omega));rw [this];rfl
     ·have A:¬((14:Int)=16\/x.args.length=1):=by
       rintro (e | e)
       ·revert e;decide
       ·exact b e
      rw [if_neg A,aR b];rfl
    ·rw [if_neg a];simp only [Bool.not_eq_true] at a;rw [a,zE]
   ·have o:(x.op == 14)=false:=by simpa using g
    rw [if_neg (fun e=>e.elim g d),o];rfl
theorem rS.zero {T:aC} (h:rS T) {k:Nat} {x:aZ} (b:T.nodes[k]? = some x) (a:x.op=11):(numAt T k).2=decide (x.val.num.length=0):=by
 rw [h.nums k x b];unfold dJ;rw [if_pos a]
theorem aVg (n:Nat):((n:Int) == 0)=decide (n=0):=by
 by_cases h:n=0
 ·rw [h];rfl
 ·rw [aR h];simp;exact h
theorem aQh (r:Nat) (T:aC) (N:rS T) (al:mD T):∀(k:Nat) (w:World),RRd r T.nodes w->k<T.nodes.length->(numAt T k).1=true ->
  Calls prog 166 #[.pointer (some ⟨r,0,none⟩),.int .i64 k] w fun e w'=>e = .returned (.bool (numAt T k).2)/\Below w.heap.size w w':=by
 intro k
 induction k using Nat.strongRecOn with
 |
  _ k ih=>
  intro w h aj U;have l:=cR aj;have ag:=Z h;obtain ⟨a0,ae,af,f,L,M⟩:=h;have az:w.cell? ⟨r,1,none⟩=some (.slice ae T.nodes.length af):=E L 1;obtain ⟨b,o,G,I,H,d,g,e,rfl,R,a⟩:=M.nodeAt l;have au:=a 0 _ rfl;rw [cU] at au;have a3:=a 1 _ rfl;have a4:=a 2 _ rfl;have a5:=a 3 _ rfl;have a6:=a 4 _ rfl;have a7:=a 5 _ rfl;have a8:=a 6 _ rfl;have ax:(k:Int)<T.nodes.length:=by omega
  have C:=Z (fun h=>N.zero l h);have x:=Z (fun h=>N.first al l U h);have am:=Z R.args.toI;have ao:=Z ih;clear R a L M l U ih;generalize nodeAt T k=aq at *;obtain ⟨op,nm,⟨V,aa,K⟩,args,ab⟩:=aq;dsimp only at *;have c:=Z ((aO w.heap.size w).alloc aA (.cells #[.int .i64 op,.string nm,.bool V,.slice G aa.length I,.slice H K.length d,.slice g args.length e,.int .i64 ab] 38));by_cases i:op=11
  ·have an:=Z (C.o i);subst i;clear C x;go_enter func166,ntmps166
   go_wp2;go_ret;exact⟨aI (by rw [an.o];exact aVg _),c.o⟩
  ·obtain ⟨j,ah,ai,ak,P,Q⟩:=x.o i;obtain ⟨b2,ar,rfl,ap⟩:=(am.o.below c.o aA).at 0 ak;rw [cU,ah] at ap;have A:=Z (ao.o j ai (w.alloc (.cells #[.int .i64 op,.string nm,.bool V,.slice G aa.length I,.slice H K.length d,.slice (some ⟨b2,ar,none⟩) args.length e,.int .i64 ab] 38)) (ag.o.all c.o) (by omega) P);rw [<-Q] at A;have aw:decide (op=11)=false:=by simpa using i
   have ay:(0:Int)<args.length:=by omega
   clear C x P Q;go_enter func166,ntmps166
   go_wp2_with fail
   refine A.o.mono ?_;rintro av a9 ⟨rfl,O⟩;have ad:=Z (aG c O);clear O A;go_wp2;go_ret;exact⟨rfl,ad.o⟩
theorem aA9 (u:Nat):∀c∈Lib.decDigits u,48<=c.toNat/\c.toNat<58:=by
 induction u using Nat.strongRecOn with
 |
  _ u ih=>
  rw [Lib.decDigits];by_cases h:u<10
  ·rw [dif_pos h];intro c a;rw [eP.1 a,aCp];omega
  ·rw [dif_neg h];intro c a;rcases fT.1 a with a | a
   ·exact ih _ (by omega) c a
   ·rw [eP.1 a,aCp];omega
def aW2 (l:List UInt8):Nat:=l.foldl (fun a c=>10 * a+(c.toNat - 48)) 0
theorem aBt (u:Nat):aW2 (Lib.decDigits u)=u:=by
 induction u using Nat.strongRecOn with
 |
  _ u ih=>
  rw [Lib.decDigits];by_cases h:u<10
  ·rw [dif_pos h];unfold aW2;rw [tD,pJ,aCp];omega
  ·rw [dif_neg h];have:=ih (u / 10) (by omega);unfold aW2 at this ⊢;rw [vN,this,tD,pJ,aCp];omega
theorem aOw {u v:Nat} (h:Lib.decDigits u=Lib.decDigits v):u=v:=by rw [<-aBt u,<-aBt v,h]
theorem aH8 (n:Int):∀c∈Lib.itoa n,c.toNat=45\/(48<=c.toNat/\c.toNat<58):=by
 unfold Lib.itoa
 split
 ·intro c a;rcases mB.1 a with rfl | a
  ·exact .inl rfl
  ·exact .inr (aA9 _ c a)
 ·intro c a;exact .inr (aA9 _ c a)
theorem aKo (u:Nat) (l:List UInt8):Lib.decDigits u≠45 :: l:=fun e=>by
 have:=aA9 u 45 (by rw [e];exact yT);have h:(45:UInt8).toNat=45:=rfl;omega
theorem aAf {n m:Int} (h:Lib.itoa n=Lib.itoa m):n=m:=by
 unfold Lib.itoa at h;by_cases a:n<0 <;> by_cases b:m<0
 ·rw [if_pos a,if_pos b] at h;injection h with _ h
  have:=aOw h;omega
 ·rw [if_pos a,if_neg b] at h;exact absurd h.symm (aKo _ _)
 ·rw [if_neg a,if_pos b] at h;exact absurd h (aKo _ _)
 ·rw [if_neg a,if_neg b] at h;have:=aOw h;omega
theorem sN {a b r s:List UInt8} {c:UInt8} (d:c∉a) (g:c∉b) (h:a++c :: r=b++c :: s):a=b/\r=s:=by
 induction a generalizing b with
 |
  nil=>
  cases b with
  | nil=>exact⟨rfl,by injection h⟩
  | cons y b=>exact absurd (by injection h with h _;rw [h];exact yT) g
 |
  cons x a ih=>
  cases b with
  | nil=>exact absurd (by injection h with h _;rw [<-h];exact yT) d
  |
   cons y b=>
   injection h with h1 h2
   obtain ⟨i,j⟩:=ih (fun e=>d (uL _ e)) (fun e=>g (uL _ e)) h2;exact⟨by rw [h1,i],j⟩
theorem rB {n:Int} {c:UInt8} (h:c.toNat=32\/c.toNat=44\/c.toNat=47):c∉Lib.itoa n:=fun e=>by have:=aH8 n c e;omega
theorem aEe {r s:List UInt8} {xs ys:List Int} (h:gG xs++47 :: r=gG ys++47 :: s):xs=ys/\r=s:=by
 induction xs generalizing ys with
 |
  nil=>
  cases ys with
  | nil=>exact⟨rfl,by injection h⟩
  |
   cons y ys=>
   exfalso
   unfold gG at h;rw [pY,yY,iE,jM,jM] at h;cases a:Lib.itoa y with
   | nil=>rw [a] at h;injection h with h _;revert h;decide
   |
    cons c l=>
    rw [a] at h;injection h with h _
    have:=aH8 y c (by rw [a];exact yT);rw [<-h] at this
    revert this;decide
 |
  cons x xs ih=>
  cases ys with
  |
   nil=>
   exfalso
   unfold gG at h;rw [pY,yY,iE,jM,jM] at h;cases a:Lib.itoa x with
   | nil=>rw [a] at h;injection h with h _;revert h;decide
   |
    cons c l=>
    rw [a] at h;injection h with h _
    have:=aH8 x c (by rw [a];exact yT);rw [h] at this
    revert this;decide
  |
   cons y ys=>
   unfold gG at h;rw [pY,pY,jM,jM,jM,jM] at h;obtain ⟨b,d⟩:=sN (c:=44) (rB (by decide)) (rB (by decide)) h;obtain ⟨e,g⟩:=ih d;exact⟨by rw [aAf b,e],g⟩
theorem aKp {xs ys:List Int} (h:gG xs=gG ys):xs=ys:=(aEe (r:=[]) (s:=[]) (by rw [h])).1
theorem aQi {xs ys:List Int} (h:kK xs=kK ys):xs=ys:=by
 have j:∀(xs ys:List Int),kK xs ++ [32]=kK ys ++ [32]->xs=ys:=by
  intro xs
  induction xs with
  |
   nil=>
   intro ys h;cases ys with
   | nil=>rfl
   |
    cons y ys=>
    exfalso
    unfold kK at h;have:=congrArg List.length h;rw [pY,yY] at this;simp at this
  |
   cons x xs ih=>
   intro ys h;cases ys with
   |
    nil=>
    exfalso
    unfold kK at h;have:=congrArg List.length h;rw [pY,yY] at this;simp at this
   |
    cons y ys=>
    unfold kK at h;rw [pY,pY,jM,jM,tH,tH] at h;injection h with _ h
    have e:∀zs:List Int,∃r,zs.flatMap (fun a=>32 :: Lib.itoa a) ++ [32]=32 :: r:=by
     intro zs;cases zs with
     | nil=>exact⟨[],rfl⟩
     | cons z zs=>exact⟨_,by rw [pY,jM,tH]⟩
    obtain ⟨r,c⟩:=e xs;obtain ⟨s,d⟩:=e ys;have b:=h;rw [c,d] at b;obtain ⟨g,i⟩:=sN (rB (by decide)) (rB (by decide)) b;rw [aAf g,ih ys (by unfold kK;rw [c,d,i])]
 exact j xs ys (by rw [h])
def aBu (nm:ByteArray):Prop:=xL nm=34 :: (nm.data.toList ++ [34])/\(34:UInt8)∉nm.data.toList
structure aBv (x:aZ):Prop where
 name:aBu x.name
 num:x.op=11->x.args = []
 rat:x.op≠11->x.val=eA
theorem aS8 {a b:Bool} {r s:List UInt8} (h:Lib.formatBool a++47 :: r=Lib.formatBool b++47 :: s):a=b/\r=s:=by
 have c:∀a,(47:UInt8)∉Lib.formatBool a:=by intro a;cases a <;> decide
 obtain ⟨d,e⟩:=sN (c a) (c b) h;exact⟨by revert d;cases a <;> cases b <;> decide,e⟩
theorem key_inj {x y:aZ} (d:aBv x) (hy:aBv y) (h:kT x=kT y):x=y:=by
 have c:aHf x=aHf y:=by
  unfold kT at h;injection h with h
  have:=congrArg Array.toList h
  simpa using this
 unfold aHf aDe at c;rw [d.name.1,hy.name.1] at c;simp only [jM,tH,iE] at c;obtain ⟨e,C⟩:=sN (rB (by decide)) (rB (by decide)) c;obtain ⟨g,j⟩:=sN (rB (by decide)) (rB (by decide)) C;injection j with _ j
 obtain ⟨i,a⟩:=sN d.name.2 hy.name.2 j;have e:=aAf e;have g:=aAf g;obtain ⟨op,⟨nm⟩,⟨M,O,K⟩,args,R⟩:=x;obtain ⟨Q,⟨H⟩,⟨N,P,L⟩,I,U⟩:=y;dsimp only at *;subst e g;have i:nm=H:=Array.toList_inj.1 i;subst i;unfold aO8 at a;by_cases b:op=11
 ·have a1:=d.num b;have a2:=hy.num b;dsimp only at a1 a2;subst a1 a2;simp only [if_pos b] at a;unfold kK at a;simp only [yY,iE] at a;injection a with _ a
  obtain ⟨r,E⟩:=aS8 a;obtain ⟨b2,G⟩:=aEe E;have A:=aKp G;rw [r,b2,A]
 ·have l:=d.rat b;have o:=hy.rat b;dsimp only at l o;simp only [if_neg b,lZ] at a;rw [l,o,aQi a]
structure aEf (T:aC):Prop where
 back:∀k i,T.ids k=some i->∃(j:Nat) (n:aZ),i=(j:Int)/\T.nodes[j]? = some n/\kT n=k
 fwd:∀(j:Nat) (n:aZ),T.nodes[j]? = some n->T.ids (kT n)=some (j:Int)
 q:∀n∈T.nodes,aBv n
theorem aEf.hit {T:aC} (h:aEf T) {x:aZ} {k:Nat} (a:T.nodes[k]? = some x):eW T x=(((k:Int),0),T):=jX (h.fwd k x a)
theorem aEf.miss {T:aC} (h:aEf T) {x:aZ} (g:aBv x) (e:x∉T.nodes):T.ids (kT x)=none:=by
 cases b:T.ids (kT x) with
 | none=>rfl
 |
  some i=>
  obtain ⟨j,n,_,c,d⟩:=h.back _ _ b;have a:=fP c;have:=key_inj (h.q n a) g d;rw [this] at a;exact absurd a e
theorem sO {T:aC} (b:T.nums.length=T.nodes.length) (n:aZ) {i:Int} (a:0<=i) (h:i<(T.nodes.length:Int)):numAt (addN T n) i=numAt T i:=by
 unfold numAt addN;rw [iW,iW,mY (by omega)]
theorem aBw {T:aC} (g:T.nums.length=T.nodes.length) (n:aZ) {x:aZ} (b:InT T x.args) (hd:x.op=16->1<=x.args.length):dJ (addN T n) x=dJ T x:=by
 have i:dB (addN T n) x.args=dB T x.args:=by
  unfold dB;rw [zC,oV,oV];constructor
  ·intro h y hy;have:=h y hy;rwa [sO g n (b y hy).1 (b y hy).2] at this
  ·intro h y hy;rw [sO g n (b y hy).1 (b y hy).2];exact h y hy
 unfold dJ;rw [i];by_cases c:x.op=11
 ·rw [if_pos c,if_pos c]
 ·rw [if_neg c,if_neg c];by_cases d:x.op=14\/x.op=16
  ·rw [if_pos d,if_pos d];by_cases e:dB T x.args=true
   ·rw [if_pos e,if_pos e];by_cases a:x.op=16\/x.args.length=1
    ·rw [if_pos a,if_pos a];have j:0<x.args.length:=by
      rcases a with a | a
      ·exact hd a
      ·omega
     have:=b (nth x.args 0) (cB j);exact sO g n this.1 this.2
    ·rw [if_neg a,if_neg a]
   ·rw [if_neg e,if_neg e]
  ·rw [if_neg d,if_neg d]
structure pR (T:aC):Prop where
 ok:iP T
 ids:aEf T
 nu:rS T
 fq:∀f∈T.S.funs,aBu f.name
theorem mD.inT {T:aC} (h:mD T) {k:Nat} {x:aZ} (a:T.nodes[k]? = some x):InT T x.args:=fun i c=>by
 have b:=h k x a i c;have d:=(gK.1 a).1;exact⟨b.1,by omega⟩
theorem pR.add {T:aC} (h:pR T) {n:aZ} (L:T.nodes.length<16384) (H:n.val.num.length<=1000000) (I:n.val.den.length<=1000000) (K:n.args.length<=1000000) (C:InT T n.args) (r:aBv n) (hd:n.op=16->1<=n.args.length) (M:n∉T.nodes):pR (addN T n):=by
 have c:(addN T n).nodes=T.nodes ++ [n]:=rfl;refine⟨h.ok.add L H I K C,⟨fun k i g=>?_,fun j m d=>?_,fun m b=>?_⟩,⟨fun k x a=>?_,fun x a=>?_,fun x a=>?_⟩,h.fq⟩
 ·change (if k=kT n then some (T.nodes.length:Int) else T.ids k)=some i at g
  split at g
  ·rename_i e
   injection g with g
   exact⟨T.nodes.length,n,g.symm,by rw [c,oS aA,oY];rfl,e.symm⟩
  ·obtain ⟨j,m,E,A,G⟩:=h.ids.back k i g;exact⟨j,m,E,by rw [c,mY (gK.1 A).1];exact A,G⟩
 ·show(if kT m=kT n then some (T.nodes.length:Int) else T.ids (kT m))=some (j:Int);rw [c] at d;by_cases o:j<T.nodes.length
  ·rw [mY o] at d;have b:=fP d;rw [if_neg fun e=>M (by rw [<-key_inj (h.ids.q m b) r e];exact b)];exact h.ids.fwd j m d
  ·have l:=(gK.1 d).1;rw [dM,kZ] at l;obtain rfl:j=T.nodes.length:=by omega
   rw [oS aA,oY] at d;cases d;rw [if_pos rfl]
 ·rw [c] at b;rcases fT.1 b with b | b
  ·exact h.ids.q m b
  ·obtain rfl:=eP.1 b;exact r
 ·rw [c] at a;by_cases o:k<T.nodes.length
  ·rw [mY o] at a;rw [sO h.ok.sm.nn n (by omega) (by omega),aBw h.ok.sm.nn n (h.ok.ord.inT a) (h.nu.div x (fP a))];exact h.nu.nums k x a
  ·have l:=(gK.1 a).1;rw [dM,kZ] at l;obtain rfl:k=T.nodes.length:=by omega
   rw [oS aA,oY] at a;cases a;rw [aBw h.ok.sm.nn n C hd];unfold numAt addN;rw [pX,iW,oS (by rw [h.ok.sm.nn];exact aA),h.ok.sm.nn,oY];rfl
 ·rw [c] at a;rcases fT.1 a with a | a
  ·exact h.nu.div x a
  ·obtain rfl:=eP.1 a;exact hd
 ·rw [c] at a;rcases fT.1 a with a | a
  ·exact h.nu.num x a
  ·obtain rfl:=eP.1 a;exact r.num
theorem aKq:aBu ⟨#[]⟩:=⟨by decide +kernel,by decide⟩
theorem aS9 {r:cJ} (h:mE r=true):r=eA:=by
 obtain ⟨e,g,d⟩:=r;unfold mE at h;simp only [jS,tA,lA] at h;obtain ⟨a,b,c⟩:=h;rw [a,jR b,jR c];rfl
theorem aNe {T:aC} (r:∀f∈T.S.funs,aBu f.name) {op:Int} {nm:ByteArray} {val:cJ} {args:List Int} (d:fR op nm val=false) (a:(aD T op nm args).2=true):aBv ⟨op,nm,val,args,(aD T op nm args).1⟩:=by
 unfold fR at d;simp only [yN,aGt,aCo,beq_iff_eq,yQ] at d;obtain ⟨⟨b,b2⟩,_⟩:=d;refine⟨?_,fun e=>?_,fun e=>?_⟩
 ·show aBu nm;by_cases h:op=12
  ·subst h;have e:aD T 12 nm args=iA T nm args:=rfl;rw [e] at a;unfold iA at a
   split at a
   ·rename_i i
    cases g:jA T.S nm with
    | none=>rw [g] at i;exact absurd i.1 (by decide)
    |
     some f=>
     have c:=tI g;have j:=r f (mK g);have o:f.name=nm:=by
      unfold eqS at c
      first | exact wF.1 c | simpa using c
     rw [<-o];exact j
   ·cases a
  ·rcases b with b | b
   ·exact absurd b h
   ·obtain ⟨l⟩:=nm;have:l = #[]:=aC7 b;rw [this];exact aKq
 ·show args = [];have e:op=11:=e;subst e;have:aD T 11 nm args=(1,decide (args.length=0)):=rfl;rw [this] at a;exact jR (oU a)
 ·rcases b2 with b2 | b2
  ·exact absurd b2 e
  ·exact aS9 b2
theorem pR.put {T:aC} (h:pR T) {n:aZ} (b:n.val.num.length<=1000000) (c:n.val.den.length<=1000000) (d:n.args.length<=1000000) (g:InT T n.args) (x:aBv n) (hd:n.op=16->1<=n.args.length):pR (eW T n).2:=by
 cases a:T.ids (kT n) with
 | some i=>rw [jX a];exact h
 |
  none=>
  by_cases o:16384<=T.nodes.length
  ·rw [kM a o];exact h
  ·rw [iX a (by omega)];refine h.add (by omega) b c d g x hd fun r=>?_
   obtain ⟨j,l,e⟩:=gU r;have:=h.ids.fwd j n (by rw [cK l,e]);rw [a] at this;cases this
theorem pR.make {T:aC} (h:pR T) {op:Int} {nm:ByteArray} {val:cJ} {args:List Int} (c:val.num.length<=1000000) (d:val.den.length<=1000000):pR (bQ T op nm val args).2:=by
 unfold bQ
 split
 ·exact h
 ·rename_i a
  split
  ·exact h
  ·rename_i i
   split
   ·exact h
   ·rename_i g
    split
    ·rename_i b
     refine h.put c d ?_ (tO (by simpa using g)) (aNe h.fq (by simpa using i) b) (fun e=>oI b e);unfold eN at a;simp at a;show args.length<=_;omega
    ·exact h
structure xE (T T':aC):Prop where
 nodes:∃l,T'.nodes=T.nodes++l
 nums:∀k:Nat,k<T.nodes.length->numAt T' k=numAt T k
 s:T'.S=T.S
section
variable {T T' T'' : aC}
theorem xE.refl (T:aC):xE T T:=⟨⟨[],by simp⟩,fun _ _=>rfl,rfl⟩
theorem xE.len (h:xE T T'):T.nodes.length<=T'.nodes.length:=by obtain ⟨l,e⟩:=h.nodes;rw [e,dM];omega
theorem xE.trans (h:xE T T') (k:xE T' T''):xE T T'':=by
 obtain ⟨l,e⟩:=h.nodes;obtain ⟨m,f⟩:=k.nodes;exact⟨⟨l++m,by rw [f,e,jM]⟩,fun j a=>(k.nums j (bG a h.len)).trans (h.nums j a),k.s.trans h.s⟩
theorem xE.has (h:xE T T') {i:Int} (a:dH T i=true):dH T' i=true:=by
 have:=cX.1 a;have:=h.len;exact cX.2 ⟨by omega,by omega⟩
theorem xE.node (h:xE T T') {i:Int} (a:dH T i=true):nodeAt T' i=nodeAt T i:=by
 have b:=cX.1 a;obtain ⟨l,e⟩:=h.nodes;unfold nodeAt;rw [e,iW,iW,mY (by omega)]
theorem xE.num (h:xE T T') {i:Int} (b:dH T i=true):numAt T' i=numAt T i:=by
 have a:=cX.1 b;obtain ⟨k,rfl⟩:=fK a.1;exact h.nums k (by omega)
theorem aH9 {g:Int->Int} {l:List Int} {j:Nat} (h:j<l.length):nth (l.map g) j=g (nth l j):=by
 rw [cE (by simpa using h),cE h,List.getElem_map]
theorem aEg (g:Int->Int) {l:List Int} (s:Int) (h:∀x∈l,(nodeAt T' (g x)).sort=(nodeAt T x).sort):eM T' (l.map g) s=eM T l s:=by
 unfold eM;rw [List.any_map]
 congr 1
 rw [zC,oW,oW];constructor
 ·rintro ⟨x,a,b⟩;exact⟨x,a,by rw [<-h x a];exact b⟩
 ·rintro ⟨x,a,b⟩;exact⟨x,a,by show(!((nodeAt T' (g x)).sort == s))=true;rw [h x a];exact b⟩
theorem aEh (g:Int->Int) {l:List Int} (h:∀x∈l,(nodeAt T' (g x)).sort=(nodeAt T x).sort):jV T' (l.map g)=jV T l:=by
 unfold jV;rw [lB];by_cases a:2<=l.length
 ·rw [aH9 (by omega),h _ (cB (by omega)),aEg g _ h]
 ·rw [aR a];rfl
theorem aNf (g:Int->Int) {l:List Int} (h:∀x∈l,numAt T' (g x)=numAt T x):lG T' (l.map g)=lG T l:=by
 unfold lG;rw [List.filter_map,lB]
 congr 1
 exact List.filter_congr fun x a=>by show(!(numAt T' (g x)).1)=_;rw [h x a]
theorem aFc (g:Int->Int) {l:List Int} (h:∀x∈l,numAt T' (g x)=numAt T x):fD T' (l.map g)=fD T l:=by
 unfold fD;rw [<-List.map_drop,List.any_map]
 congr 1
 rw [zC,oW,oW];constructor
 ·rintro ⟨x,b,a⟩;exact⟨x,b,by change jG T' (g x)=true at a;unfold jG at a ⊢;rw [h x (pV b)] at a;exact a⟩
 ·rintro ⟨x,b,a⟩;exact⟨x,b,by show jG T' (g x)=true;unfold jG at a ⊢;rw [h x (pV b)];exact a⟩
theorem xF (g:Int->Int):∀ {l:List Int} (ss:List Int),(∀x∈l,(nodeAt T' (g x)).sort=(nodeAt T x).sort)->dN T' (l.map g) ss=dN T l ss
 | [],ss,_=>by simp [dN]
 | a :: l,[],_=>by simp [dN]
 |
  a :: l,s :: ss,h=>by
  show((nodeAt T' (g a)).sort == s && dN T' (l.map g) ss)=((nodeAt T a).sort == s && dN T l ss);rw [h a (by simp),xF g ss fun x b=>h x (by simp [b])]
theorem aIa (g:Int->Int) (op:Int) {l:List Int} (h:∀x∈l,(nodeAt T' (g x)).sort=(nodeAt T x).sort/\numAt T' (g x)=numAt T x):bP T' op (l.map g)=bP T op l:=by
 unfold bP lH;rw [lB,aEg g _ fun x a=>(h x a).1,aNf g fun x a=>(h x a).2,aFc g fun x a=>(h x a).2]
theorem aKr (d:T'.S=T.S) (g:Int->Int) (op:Int) (nm:ByteArray) {l:List Int} (h:∀x∈l,(nodeAt T' (g x)).sort=(nodeAt T x).sort/\numAt T' (g x)=numAt T x):aD T' op nm (l.map g)=aD T op nm l:=by
 have a:∀x∈l,(nodeAt T' (g x)).sort=(nodeAt T x).sort:=fun x b=>(h x b).1
 have j:xM T' (l.map g)=xM T l:=by
  unfold xM;rw [lB];by_cases c:l.length=3
  ·rw [aH9 (by omega),aH9 (by omega),a _ (cB (by omega)),a _ (cB (by omega)),<-List.map_drop,aEh g fun x b=>a x (pV b)]
  ·rw [if_neg fun e=>c e.1,if_neg fun e=>c e.1]
 have i:iA T' nm (l.map g)=iA T nm l:=by
  unfold iA;rw [d,lB,xF g _ a]
 unfold aD;rw [j,i,aIa g op h,aEh g a,aEg g _ a,lB]
theorem rC (h:xE T T') (op:Int) (nm:ByteArray) {l:List Int} (a:∀x∈l,dH T x=true):aD T' op nm l=aD T op nm l:=by
 have:=aKr h.s id op nm (l:=l) fun x b=>⟨by rw [id,h.node (a x b)],h.num (a x b)⟩
 rwa [List.map_id] at this
theorem xE.add (a:T.nums.length=T.nodes.length) (n:aZ):xE T (addN T n):=
 ⟨⟨[n],rfl⟩,fun k b=>sO a n (by omega) (by omega),rfl⟩
theorem aW3 (h:pR T) {x:aZ} (g:x.val.num.length<=1000000) (l:x.val.den.length<=1000000) (o:x.args.length<=1000000) (A:InT T x.args) (e:aBv x) (hd:x.op=16->1<=x.args.length) (C:T.nodes.length<16384) :
  ∃(j:Nat) (a:aC),eW T x=(((j:Int),0),a)/\a.nodes[j]? = some x/\xE T a/\pR a/\a.nodes.length<=T.nodes.length+1/\a.fresh=T.fresh/\(a=T\/a=addN T x):=by
 have c:=h.put g l o A e hd;cases b:T.ids (kT x) with
 |
  some i=>
  rw [jX b] at c ⊢;obtain ⟨j,n,rfl,d,r⟩:=h.ids.back _ _ b;have:n=x:=key_inj (h.ids.q n (fP d)) e r;subst this;exact⟨j,T,rfl,d,.refl T,h,by omega,rfl,.inl rfl⟩
 |
  none=>
  rw [iX b C] at c ⊢;exact⟨T.nodes.length,addN T x,rfl,by show(T.nodes ++ [x])[_]? = _;rw [oS aA,oY];rfl,.add h.ok.sm.nn x,c,by show(T.nodes ++ [x]).length<=_;simp,rfl,.inr rfl⟩
theorem aVh (h:pR T) {op:Int} {nm:ByteArray} {val:cJ} {args:List Int} {s:Int} (I:val.num.length<=1000000) (K:val.den.length<=1000000) (b:eN op args=false) (o:fR op nm val=false) (M:∀x∈args,dH T x=true) (c:aD T op nm args=(s,true)) (N:T.nodes.length<16384) :
  ∃(j:Nat) (a:aC),bQ T op nm val args=(((j:Int),0),a)/\a.nodes[j]? = some ⟨op,nm,val,args,s⟩/\xE T a/\pR a/\a.nodes.length<=T.nodes.length+1/\a.fresh=T.fresh:=by
 have l:(aD T op nm args).2=true:=by rw [c]
 have g:=aNe h.fq o l;have hd:=fun e:op=16=>oI l e
 have L:args.length<=1000000:=by unfold eN at b;simp at b;omega
 have d:args.any (fun i=>!dH T i)=false:=by rw [oT];intro x O;rw [M x O];simp
 rw [c] at g;unfold bQ;rw [b,o,d,c];simp only [vM,if_false,if_true];obtain ⟨j,a,r,A,C,E,G,H,_⟩:=aW3 (x:=⟨op,nm,val,args,s⟩) h I K L (tO d) g hd N;exact⟨j,a,r,A,C,E,G,H⟩
end
instance (nm:ByteArray):Decidable (aBu nm):=by unfold aBu;exact inferInstance
section
variable {T T' : aC}
structure wU (T:aC):Prop where
 so:∀x∈T.nodes,x.args ≠ []\/x.op≠12->aD T x.op x.name x.args=(x.sort,true)/\eN x.op x.args=false/\fR x.op x.name x.val=false
 sb:∀x∈T.nodes,xK T.S.sorts.length x.sort=true
 fb:∀f∈T.S.funs,xK T.S.sorts.length f.res=true
 vl:∀x∈T.nodes,x.val.num.length<=1000000/\x.val.den.length<=1000000
theorem aTa (n:Nat):xK n 0=true:=by unfold xK;simp;omega
theorem aXv (n:Nat):xK n 1=true:=by unfold xK;simp;omega
theorem wU.node (h:wU T) (i:Int):xK T.S.sorts.length (nodeAt T i).sort=true:=by
 unfold nodeAt;rw [iW];cases a:T.nodes[i.toNat]? with
 | none=>exact aTa _
 | some x=>exact h.sb x (fP a)
theorem wU.sorted (h:wU T) (op:Int) (nm:ByteArray) (args:List Int):xK T.S.sorts.length (aD T op nm args).1=true:=by
 unfold aD xM iA
 repeat' split
 all_goals first | exact aTa _ | exact aXv _ | exact h.node _ | skip
 all_goals
  unfold fM;cases a:jA T.S nm with
  | none=>exact aTa _
  | some f=>exact h.fb f (mK a)
theorem rD {l:List Int} (h:InT T l) {x:Int} (a:x∈l):dH T x=true:=cX.2 (h x a)
theorem wU.make (h:wU T) (j:pR T) {op:Int} {nm:ByteArray} {val:cJ} {args:List Int} (l:val.num.length<=1000000) (o:val.den.length<=1000000):wU (bQ T op nm val args).2:=by
 unfold bQ
 split
 ·exact h
 ·rename_i A
  split
  ·exact h
  ·rename_i K
   split
   ·exact h
   ·rename_i r
    split
    ·rename_i I
     have C:=tO (by simpa using r);generalize e:(⟨op,nm,val,args,(aD T op nm args).1⟩:aZ)=x;cases d:T.ids (kT x) with
     | some i=>rw [jX d];exact h
     |
      none=>
      by_cases G:16384<=T.nodes.length
      ·rw [kM d G];exact h
      ·rw [iX d (by omega)];have g:=xE.add j.ok.sm.nn x;have b:(addN T x).nodes=T.nodes ++ [x]:=rfl;refine⟨fun y hy H=>?_,fun y hy=>?_,h.fb,fun y hy=>?_⟩
       ·rw [b] at hy;rcases fT.1 hy with hy | hy
        ·obtain ⟨k,E,rfl⟩:=gU hy;rw [rC g _ _ fun a c=>rD (j.ok.ord.inT (cK E)) c];exact h.so _ hy H
        ·obtain rfl:=eP.1 hy;subst e;rw [rC g _ _ fun a c=>rD C c];exact⟨qX rfl I,by simpa using A,by simpa using K⟩
       ·rw [b] at hy;rcases fT.1 hy with hy | hy
        ·exact h.sb y hy
        ·obtain rfl:=eP.1 hy;subst e;exact h.sorted op nm args
       ·rw [b] at hy;rcases fT.1 hy with hy | hy
        ·exact h.vl y hy
        ·obtain rfl:=eP.1 hy;subst e;exact⟨l,o⟩
    ·exact h
structure DcI (T:aC):Prop where
 so:∀x∈T.nodes,x.op=12->aD T x.op x.name x.args=(x.sort,true)
theorem DcI.make (h:DcI T) (e:pR T) {op:Int} {nm:ByteArray} {val:cJ} {args:List Int}:DcI (bQ T op nm val args).2:=by
 unfold bQ
 split
 ·exact h
 ·split
  ·exact h
  ·split
   ·exact h
   ·rename_i j
    split
    ·rename_i C
     have l:=tO (by simpa using j);generalize E:(⟨op,nm,val,args,(aD T op nm args).1⟩:aZ)=x;cases c:T.ids (kT x) with
     | some i=>rw [jX c];exact h
     |
      none=>
      by_cases r:16384<=T.nodes.length
      ·rw [kM c r];exact h
      ·rw [iX c (by omega)];have d:=xE.add e.ok.sm.nn x;have g:(addN T x).nodes=T.nodes ++ [x]:=rfl;refine⟨fun y hy A=>?_⟩;rw [g] at hy;rcases fT.1 hy with hy | hy
       ·obtain ⟨k,o,rfl⟩:=gU hy;rw [rC d _ _ fun a b=>rD (e.ok.ord.inT (cK o)) b];exact h.so _ hy A
       ·obtain rfl:=eP.1 hy;subst E;rw [rC d _ _ fun a b=>rD l b];exact qX rfl C
    ·exact h
theorem aTb (j:pR T) {op:Int} {nm:ByteArray} {val:cJ} {args:List Int} (a:(bQ T op nm val args).1.2=0):dH (bQ T op nm val args).2 (bQ T op nm val args).1.1=true:=by
 unfold bQ at a ⊢
 split at a
 ·cases a
 ·rename_i d
  rw [if_neg d]
  split at a
  ·cases a
  ·rename_i h
   rw [if_neg h]
   split at a
   ·cases a
   ·rename_i c
    rw [if_neg c]
    split at a
    ·rename_i g
     rw [if_pos g];generalize (⟨op,nm,val,args,(aD T op nm args).1⟩:aZ)=x at a ⊢;cases b:T.ids (kT x) with
     | some i=>rw [jX b];exact cX.2 (j.ok.sm.ids _ _ b)
     |
      none=>
      by_cases e:16384<=T.nodes.length
      ·rw [kM b e] at a;cases a
      ·rw [iX b (by omega)];exact cX.2 ⟨by show(0:Int)<=(T.nodes.length:Int);omega,by show(T.nodes.length:Int)<((T.nodes ++ [x]).length:Int);rw [dM,kZ];omega⟩
    ·cases a
end
def kI (v:Value) (k:Nat):Prop:=v.ownBlock=some k
structure aAg (S:Nat->Prop) (w w':World):Prop where
 os:w'.os=w.os
 tape:w'.tape=w.tape
 output:w'.output=w.output
 size:w'.heap.size=w.heap.size
 block:∀k,¬S k->w'.heap[k]? = w.heap[k]?
theorem aAg.refl (S:Nat->Prop) (w:World):aAg S w w:=⟨rfl,rfl,rfl,rfl,fun _ _=>rfl⟩
theorem aAg.set {S:Nat->Prop} {w w':World} (h:aAg S w w') {b:Nat} (c:S b) (i:Nat) (v:Value):aAg S w (w'.setCell ⟨b,i,none⟩ v):=
 ⟨h.os,h.tape,h.output,eX.trans h.size,fun k a=>(dZ _ _ _ _ (fun e=>a (by rw [show k=b from e];exact c))).trans (h.block k a)⟩
theorem aAg.below {S:Nat->Prop} {w w':World} (h:aAg S w w') {B:Nat} (a:∀k,S k->B<=k):Below B w w':=
 ⟨h.os,h.tape,h.output,cD h.size.symm,fun k b=>h.block k fun e=>by have:=a k e;omega⟩
theorem aW.set {w:World} {base g c n:Nat} {e:TypeId} {xs:List Value} (h:aW w base e 1 (.slice (some ⟨g,0,none⟩) n c) n xs) {i:Nat} (E:i<n) (v:Value):aW (w.setCell ⟨g,i,none⟩ v) base e 1 (.slice (some ⟨g,0,none⟩) n c) n (xs.set i v):=by
 refine⟨by rw [nN];exact h.1,?_⟩;rcases h.2 with ⟨a,C⟩ | ⟨A,x,cur,a,o,r,b,d,j,l⟩
 ·omega
 ·injection a with e1 e2 e3
  injection e1 with e1
  injection e1 with e1
  subst e1 e3;refine .inr ⟨g,c,cur.setIfInBounds i v,rfl,o,?_,b,d,by rw [yL];exact j,?_⟩
  ·unfold World.setCell;rw [iN,if_pos rfl,r];rfl
  ·rw [<-l,aGi,List.take_set]
theorem aW.ty0 {w:World} {base s n:Nat} {e:TypeId} {v:Value} {xs:List Value} (h:aW w base e s v n xs):∀k,v.ownBlock=some k->∃cs,w.heap[k]? = some (.cells cs e (0,0)):=fun k a=>by
 rcases h.2 with ⟨b,_⟩ | ⟨g,d,cur,b,_,c,_⟩
 ·rw [b] at a;cases a
 ·rw [b] at a;injection a with a;exact⟨cur,a ▸ c⟩
theorem aW.rdX {w:World} {base n c:Nat} {a:Option Addr} {xs:List Int} (h:aW w base 3 1 (.slice a n c) n (xs.map (Value.int .i64))) (r:∀x∈xs,eI x):jQ w a n xs:=by
 have e:=h.1;have i:xs.length=n:=by simpa using e
 refine⟨i,r,fun l=>?_⟩;obtain ⟨g,A,o,C,d⟩:=h.form l;injection o with e1 e2 e3
 subst e1;refine⟨g,0,rfl,d,fun j E=>?_⟩;rw [dT];refine h.cells rfl j _ ?_;have b:j<xs.length:=by omega
 rw [mZ,cK b,cE b];rfl
theorem aTc {tm:Int->Option Int} {args:List Int} {i:Nat} (h:i<args.length):(toA tm (args.take i)++args.drop i).set i ((tm (nth args i)).getD 0)=toA tm (args.take (i+1))++args.drop (i+1):=by
 have a:(toA tm (args.take i)).length=i:=by unfold toA;rw [lB,eS];omega
 rw [sW _ _ (by omega),a,oY,kY h,yS,jD h];unfold toA;rw [mL,jM,cE h];rfl
theorem aNg {tm:Int->Option Int} {args:List Int} {i:Nat} (h:i<args.length):aD6 tm (args.take (i+1))=(aD6 tm (args.take i) && ((tm (nth args i)).getD 0 == nth args i)):=by
 unfold aD6;rw [jD h,aCu,cE h];simp
theorem wN (tm:Int->Option Int) (l:List Int):(toA tm l).length=l.length:=lB _
theorem aOx {T:aC} (h:SmT T) (n:aZ):0<=(eW T n).1.1/\(eW T n).1.1<=16384:=by
 have c:=h.le;cases a:T.ids (kT n) with
 | some i=>rw [jX a];have:=h.ids _ _ a;dsimp only;omega
 |
  none=>
  by_cases b:16384<=T.nodes.length
  ·rw [kM a b];dsimp only;omega
  ·rw [iX a (by omega)];dsimp only;omega
theorem aEi {T:aC} (h:SmT T) (op:Int) (nm:ByteArray) (val:cJ) (args:List Int):0<=(bQ T op nm val args).1.1/\(bQ T op nm val args).1.1<=16384:=by
 unfold bQ
 split
 ·dsimp only;omega
 ·split
  ·dsimp only;omega
  ·split
   ·dsimp only;omega
   ·split
    ·exact aOx h _
    ·dsimp only;omega
def aKs (w0:World) (p:Nat) {τ:Type} (J:τ->World->Prop) (D:τ->World->Nat->Prop) (sz:τ->Nat) (Y:Nat->Prop) (T:aC) (s:τ) (R:(List Int × Int) × aC × τ) (w:World) (e:Ending) (w':World):Prop:=
 ∃a c,e = .returned (.tuple #[.slice a R.1.1.length c,.int .i64 R.1.2])/\aW w' w.heap.size 3 1 (.slice a R.1.1.length c) R.1.1.length (R.1.1.map (Value.int .i64))/\(∀x∈R.1.1,eI x) /\
  Cx w0 p J D Y R.2.1 R.2.2 w'/\lT p (D s w) (D R.2.2 w') w w'/\kW T R.2.1 1638400/\sz R.2.2<=sz s+1638400
section
variable {τ : Type}
theorem aTd {w0:World} {p fv:Nat} {pre caps:List Value} {f:rQ τ} {J:τ->World->Prop} {D:τ->World->Nat->Prop} {sz:τ->Nat} (aJ:pQ w0 p fv pre caps f J D sz) (cL:lF w0) (Y:Nat->Prop) (T:aC) (s:τ) (a:Option Addr) (n c:Nat) (ids:List Int) (w:World)
  (h:Cx w0 p J D Y T s w) (aP:dR T) (eu:T.fresh<=1000000000) (ev:sz s<=1000000000) (aa:jQ w a n ids) (cS:0<n->∀x,a=some x->x.block<w.heap.size/\¬gR p w x.block/\¬D s w x.block) (bO:n<1099511627776) :
  Calls prog 72 #[.pointer (some ⟨p,0,none⟩),.slice a n c,.func (.func fv) pre.toArray caps.toArray] w fun e w'=>aKs w0 p J D sz Y T s (lS f T s ids) w e w':=by
 have e2:=@run_makeMap prog;have U:=Z aJ;have d9:=Z cL;have dA:=Z aP;have dp:=Z aa;have a8:Below w.heap.size w (w.alloc (.map #[] 0)):=bJ;have b9:=h.all aJ a8;have bX:=aJq w0.heap.size p _ a n c ids _ b9.1.t (aP.ok.X _) (aa.below a8 aA) bO;rw [aVe] at bX;have dn:=Z bX;have bY:=aAd aP.ok.ord ids;have bq:=Z bY.2;have cW:=Z bY.1.small.2;have aX:=Z aP.ok.sm.le;have bi:=@Z (lS f T s ids=outT ids (xB f (jY T ids).2 ⟨fun _=>none,T,s⟩)) rfl;have aj:=Z h;have b7:=Z cS;generalize lS f T s ids=d4 at *;generalize (jY T ids).2=C at *;clear bX bY b9 a8 aJ cL aP aa h cS;go_enter func72,ntmps72
 go_wp2_with fail
 refine dn.o.mono ?_;rintro e an ⟨b6,em,rfl,bx,b2⟩;have cM:pH w0 w p J D sz (sz s) Y T (D s w) w.heap.size n a ids C.length b6 C 0 0 ⟨fun _=>none,T,s⟩ an:=by
  have aJ:=U.o;have a8:Below w.heap.size w (w.alloc (.map #[] 0)):=bJ;have ar:=a8.trans (b2.mono a8.size);obtain ⟨l,hd⟩:=aj.o.excl aJ (w':=an) (Y':=fun k=>Y k\/k=w.heap.size) (ar.mono aj.o.b.size) (fun k V _=>ar.block k V) (fun k V=>ar.block k (aj.o.x (.inl V)).1) (fun k V=>by
   rcases V with V | rfl
   ·exact⟨.inl V,bG (aj.o.x (.inr V)).1 ar.size⟩
   ·exact⟨.inr aA,bG (by rw [iD];omega) b2.size⟩)
  have dj:lT p (D s w) (D s an) w an:=lT.ofBelow aj.o.plt ar fun k _ e=>(hd k).1 e
  have dO:an.heap[p]? = w.heap[p]?:=ar.block p aj.o.plt;have df:∀k,w.heap.size<=k->k<an.heap.size->k<an.heap.size/\¬gR p an k/\¬D s an k:=fun k ai bh=>by
   refine⟨bh,fun e=>?_,fun e=>?_⟩
   ·obtain ⟨q,u1,u2,m,az⟩:=aj.o.t;have:=(az.ownB ((gR.same dO).1 e)).2;omega
   ·have:=(aj.o.x (.inl ((hd k).1 e))).1;omega
  refine⟨l,⟨dA.o,aA,by show T.fresh<=_;omega⟩,⟨0,aA,(nT.made (P:=prog) (k:=3) w).same (b2.block _ (by rw [iD];omega))⟩,fun i x bn=>(by cases bn),dj,fun k V=>?_,dp.o.below ar aA,(jQ.own bx (fun x aa=>by have:=bq.o x aa;have:=aX.o;omega)).2.1,⟨aj.o.b.size,aA⟩,yX _ _⟩;rcases V with rfl | ⟨ai,x,aa,rfl⟩ | ⟨ai,x,aa,rfl⟩
  ·exact df _ aA (bG (by rw [iD];omega) b2.size)
  ·obtain ⟨c8,c9,d6⟩:=b7.o ai x aa;exact⟨bG c8 ar.size,(dj.block _ c8 c9 d6).2⟩
  ·obtain ⟨aM,cF⟩:=(jQ.own bx (fun x aa=>by have:=bq.o x aa;have:=aX.o;omega)).2.2 x aa;rw [iD] at aM;exact df _ (by omega) cF
 have d1:=Z cM;have bI:=Z (show n=0\/∀y,a=some y->y.block≠w.heap.size from by
  by_cases d7:n=0
  ·exact .inl d7
  ·exact .inr fun y hy e=>by have:=(b7.o (by omega) y hy).1;omega)
 have bK:=Z (show C.length=0\/∀y,b6=some y->y.block≠w.heap.size from by
  refine .inr fun y hy e=>?_
  obtain ⟨aM,cF⟩:=(jQ.own bx (fun x aa=>by have:=bq.o x aa;have:=aX.o;omega)).2.2 y hy;rw [iD] at aM;omega)
 clear cM bx b2 dn b7 dp;go_wp2
 go_loopw [6,7,10,11,12,13,14,15,16,17,25] (fun cm eg _ _ _ _ _ _ _ _ ck wr=>∃(k:Nat) (st:TS τ),k<=C.length/\ck = .int .i64 k/\cm = .slice none 0 0/\eg = .int .i64 0/\Hid (xB f (C.take k) ⟨fun _=>none,T,s⟩=(0,st))/\Hid (pH w0 w p J D sz (sz s) Y T (D s w) w.heap.size n a ids C.length b6 C k (100 * k) st wr)) (fun _ _ _ _ _ _ _ _ _ _ ck _=>C.length - (intOf ck).toNat)
 case atStart=>exact⟨0,_,aN,rfl,rfl,rfl,rfl,d1.o⟩
 case round=>
  obtain ⟨k,st,V,rfl,rfl,rfl,bt,A⟩:=hrel;by_cases bp:k<C.length
  ·obtain ⟨u,rfl⟩:∃u,u=wr:=⟨_,rfl⟩;have e1:k<16384:=by have:=cW.o;have:=aX.o;omega
   obtain ⟨ek,e9,rfl,dq⟩:=A.o.r2.at k bp;obtain ⟨cA,aM⟩:=bq.o (nth C k) (cB bp);have br:=aD9 f (C.take k) (nth C k) _ _ bt.o;rw [show C.take k ++ [nth C k]=C.take (k+1) from by rw [jD bp,cE bp]] at br;obtain ⟨i,bn⟩:=fK cA;rw [bn] at dq aM br;have bC:i<st.T.nodes.length:=by have:=A.o.g.len;omega
   have bS:=A.o.g.g.at bC;have ba:=A.o.g.g.ok.sn _ (fP (cR bC));obtain ⟨q,eh,ei,eC,eE,e7,az⟩:=A.o.cx.t.look;have ed:u.cell? ⟨p,1,none⟩=some (.slice eh st.T.nodes.length ei):=E az.blk 1;obtain ⟨b,o,ct,cw,cv,d,g,e,rfl,de,l⟩:=(az.nodes.read (S':=fun _=>True) (fun _ _ _=>trivial) (fun _ _=>trivial)).nodeAt (cR bC);have bU:=Z (aJb (nodeAt st.T i) ct cv g cw d e u de ba.1 ba.2.1 ba.2.2);have l:∀(j:Nat) (v:Value),(wW (nodeAt st.T i) ct cw cv d g e)[j]? = some v->u.cell? ⟨b,o+i * 7+j,none⟩=some v:=l;have ca:=l 0 _ rfl;rw [cU] at ca;have dt:=l 1 _ rfl;have du:=l 2 _ rfl;have dv:=l 3 _ rfl;have dw:=l 4 _ rfl;have dx:=l 5 _ rfl;have dy:=l 6 _ rfl;have e0:(i:Int)<st.T.nodes.length:=by omega
   have aV:eI (i:Int):=by have:=A.o.g.g.ok.sm.le;unfold eI;omega
   have dG:=@Z (xB f (C.take (k+1)) ⟨fun _=>none,T,s⟩=aS4 st i (nodeAt st.T i) (f st.T st.s i (withArgs (nodeAt st.T i) (toA st.tm (nodeAt st.T i).args)))) br;have a4:=Z bS;have dI:(nodeAt st.T i).args.length<=64:=bS.args;clear az de l ba br bS bn cA bt;generalize nodeAt st.T i=x at *;obtain ⟨op,nm,⟨ad,R,O⟩,args,am⟩:=x;dsimp only at ca dt du dv dw dx dy bU dI
   go_wp2_with fail
   refine bU.o.mono ?_;rintro c6 av ⟨af,c3,ag,G,Q,I,rfl,bZ,d0,bj⟩;have cG:Below u.heap.size u (av.alloc (.cells #[.int .i64 op,.string nm,.bool ad,.slice af R.length c3,.slice ag O.length G,.slice Q args.length I,.int .i64 am] 38)):=bj.alloc bj.size _;have aE:=Z cG;have aL:=Z (cC av (.cells #[.int .i64 op,.string nm,.bool ad,.slice af R.length c3,.slice ag O.length G,.slice Q args.length I,.int .i64 am] 38));have bc:Below av.heap.size av (av.alloc (.cells #[.int .i64 op,.string nm,.bool ad,.slice af R.length c3,.slice ag O.length G,.slice Q args.length I,.int .i64 am] 38)):=bJ;have ao:=Z (d0.move (Below.dat bc) bc.size);have a5:=Z (bZ.move (Below.dat bc) bc.size);have e3:u.heap.size<=av.heap.size:=bj.size;obtain ⟨dJ,bm⟩:args.length<=I/\I<=maxLen:=bZ.ac;clear cG bc bZ d0 bj bU ca dt du dv dw dx dy ed dq;go_wp2;generalize dH:av.alloc (.cells #[.int .i64 op,.string nm,.bool ad,.slice af R.length c3,.slice ag O.length G,.slice Q args.length I,.int .i64 am] 38)=b1 at *;generalize dS:av.heap.size=aw at *;clear dH dS
   go_loopw [12,13,14,40] (fun ef _ _ cl bf=>∃j:Nat,j<=args.length/\cl = .int .i64 j/\ef = .bool (aD6 st.tm (args.take j))/\Hid (aAg (kI (.slice Q args.length I)) b1 bf)/\Hid (aW bf u.heap.size 3 1 (.slice Q args.length I) args.length ((toA st.tm (args.take j)++args.drop j).map (Value.int .i64)))) (fun _ _ _ cl _=>args.length - (intOf cl).toNat)
   case atStart=>exact⟨0,aN,rfl,rfl,aAg.refl _ _,ao.o.ow⟩
   case round=>
    obtain ⟨j,dL,rfl,rfl,K,ay⟩:=hrel;by_cases au:j<args.length
    ·obtain ⟨ab,eo,bW,ey,ez⟩:=ay.o.form (by omega);injection bW with bW _ hv4
     subst bW hv4;have dF:(toA st.tm (args.take j)++args.drop j)[j]? = some (nth args j):=by
      have bE:(toA st.tm (args.take j)).length=j:=by rw [wN,eS];omega
      rw [oS (by omega),bE,oY,tE,cU,cK au,cE au]
     have et:wr.cell? ⟨ab,j,none⟩=some (.int .i64 (nth args j)):=ay.o.cells rfl j _ (by rw [mZ,dF];rfl);have es:wr.frozen? ⟨ab,j,none⟩=false:=by
      obtain ⟨cs,l⟩:=ay.o.ty0 ab rfl;exact aQ l j
     have bv:aw≠ab:=fun e=>by
      obtain ⟨cs,f,l⟩:=ao.o.ow.ty ab rfl;rw [<-e,aL.o] at l;injection l with l
      injection l with _ l _
      exact absurd l (by decide)
     have cO:=(K.o.block aw (fun e=>bv (by injection e with e;exact e.symm))).trans aL.o;have el:wr.cell? ⟨aw,5,none⟩=some (.slice (some ⟨ab,0,none⟩) args.length I):=E cO 5;obtain ⟨cy,bk,aY⟩:=A.o.mp;have bN:=(A.o.fr w.heap.size (.inl rfl)).1;have aZ:w.heap.size≠ab:=by omega
     have al:=(aY.same (aE.o.block _ bN)).same (K.o.block w.heap.size (fun e=>aZ (by injection e with e;exact e.symm)));have ak:eI (nth args j):=a5.o.args.toI.wf _ (cB au);have bo:=al.look underlying3 underlying143 (qF wr) (x:=nth args j) ak;have dN:=(al.setCell (a:=⟨ab,j,none⟩) aZ (.int .i64 ((st.tm (nth args j)).getD 0))).look underlying3 underlying143 (qF _) (x:=nth args j) ak;rw [aKf] at bo dN;have dD:=Z (K.o.set (b:=ab) (show kI _ ab from rfl) j (.int .i64 ((st.tm (nth args j)).getD 0)));have dE:=Z (show aW (wr.setCell ⟨ab,j,none⟩ (.int .i64 ((st.tm (nth args j)).getD 0))) u.heap.size 3 1 (.slice (some ⟨ab,0,none⟩) args.length I) args.length ((toA st.tm (args.take (j+1))++args.drop (j+1)).map (Value.int .i64)) from by
      rw [<-aTc au,List.map_set];exact ay.o.set au _)
     have dk:=Z (aNg (tm:=st.tm) au);have dM:(j:Int)<args.length:=by omega
     clear al aY bk ak cO K ay;generalize (st.tm (nth args j)).getD 0=y at *;generalize nth args j=z at *;cases aD:aD6 st.tm (args.take j)
     all_goals
      rw [aD] at dk;go_wp2
      go_roundw
      case rel=>exact⟨j+1,by omega,by go_num,by rw [dk.o];rfl,dD.o,dE.o⟩
      case measure=>simp [intOf];omega
    ·obtain rfl:j=args.length:=by omega
     have aR:=ay.o;rw [nA,tG,lZ] at aR;have aT:∀b,aDh u.heap.size b1 b->¬kI (.slice Q args.length I) b:=fun b L e=>by
      obtain ⟨cs,f,l⟩:=ao.o.ow.ty b e;obtain ⟨⟨eq,c9,a0⟩,_⟩:=L;rw [l] at a0;injection a0 with a0
      injection a0 with _ a0 _
      exact absurd a0 (by decide)
     have bv:¬kI (.slice Q args.length I) aw:=fun e=>by
      obtain ⟨cs,f,l⟩:=ao.o.ow.ty aw e;rw [aL.o] at l;injection l with l
      injection l with _ l _
      exact absurd l (by decide)
     have b5:=(K.o.block aw bv).trans aL.o;have bg:Below u.heap.size u wr:=aE.o.trans (K.o.below fun k V=>(ao.o.ow.lt k V).1);have cJ:=(A.o.cx.all U.o bg).2;have bP:∀b,u.heap.size<=b->¬D st.s wr b:=fun b L e=>by have:=(A.o.cx.x (.inl ((cJ b).1 e))).1;omega
     have dd:∀b,u.heap.size<=b->¬gR p wr b:=fun b L e=>by
      obtain ⟨q,eA,eB,m,az⟩:=A.o.cx.t;have:=(az.ownB ((gR.same (bg.block p A.o.cx.plt)).1 e)).2;omega
     have ak:∀z∈toA st.tm args,eI z:=fun z bd=>by
      obtain ⟨y,_,rfl⟩:=qA.1 bd;cases hy:st.tm y with
      | none=>exact⟨by decide,by decide⟩
      | some v=>exact A.o.ok y v hy
     have cP:bT cH.int (fun k=>dU wr k/\u.heap.size<=k) wr Q args.length (toA st.tm args):=bT.ofI (aW.rdX aR ak) fun y bO e=>by
      obtain ⟨ab,en,dQ,bE,_⟩:=aR.form bO;injection dQ with ai bh h3
      rw [ai] at e;injection e with e
      subst e;exact⟨aR.dat ab (by rw [ai];rfl),bE⟩
     have dg:bT cH.u64 (fun k=>dU wr k/\u.heap.size<=k) wr af R.length R:=(ao.o.num.keep (fun b _ L=>K.o.block b (aT b L)) (cD K.o.size.symm)).mono fun b _ L=>⟨L.dat.same (K.o.block b (aT b L)),L.2⟩
     have cQ:bT cH.u64 (fun k=>dU wr k/\u.heap.size<=k) wr ag O.length O:=(ao.o.den.keep (fun b _ L=>K.o.block b (aT b L)) (cD K.o.size.symm)).mono fun b _ L=>⟨L.dat.same (K.o.block b (aT b L)),L.2⟩
     have b4:eD (fun k=>dU wr k/\u.heap.size<=k) wr (withArgs ⟨op,nm,⟨ad,R,O⟩,args,am⟩ (toA st.tm args)) af c3 ag G Q I:=
      ⟨dg,a5.o.nc,cQ,a5.o.dc,by show bT _ _ _ _ (toA st.tm args).length _;rw [wN];exact cP,by show(toA st.tm args).length<=_/\_;rw [wN];exact⟨dJ,bm⟩,a5.o.op,a5.o.sort⟩
     have aK:=Z (A.o.all U.o bg);have bR:=a4.o.withArgs (wN st.tm args);have cT:st.T.fresh<=1000000000000:=by have:=A.o.g.fr;omega
     have ea:sz st.s<=1000000000000:=by have:=A.o.ss;omega
     have c7:lI (withArgs ⟨op,nm,⟨ad,R,O⟩,args,am⟩ (toA st.tm args)) af c3 ag G Q I = .agg #[.int .i64 op,.string nm,.bool ad,.slice af R.length c3,.slice ag O.length G,.slice Q args.length I,.int .i64 am]:=by
      show Value.agg #[.int .i64 op,.string nm,.bool ad,.slice af R.length c3,.slice ag O.length G,.slice Q (toA st.tm args).length I,.int .i64 am]=_;rw [wN]
     have bA:=(U.o.call (fun k=>Y k\/k=w.heap.size) st.T st.s wr i _ af c3 ag G Q I aK.o.cx aK.o.g.g cT ea bR aV (b4.mono fun b _ L=>⟨L.1,bP b L.2⟩));rw [c7] at bA;have bB:=Z bA;clear bA c7;have aU:=Z (U.o.grow st.T st.s wr i _ aK.o.cx.j aK.o.g.g cT bR);have N:=dG.o;generalize f st.T st.s i (withArgs ⟨op,nm,⟨ad,R,O⟩,args,am⟩ (toA st.tm args))=r at *;obtain ⟨⟨x,eb,er⟩,cq,ee⟩:=r;dsimp only at bB aU;unfold aS4 at N;dsimp only at N;have cp:=Z b4;have cr:=Z b5;have dB:=Z bP;have dC:=Z dd;obtain ⟨cb,cc,cd,ce,cf,cg,ch⟩:=pT b5;rw [nA];clear ay aR aT bv b5 bg cJ bP dd ak cP dg cQ b4 bR ao a5 aL aE K;have ex:=U.o.enter
     go_wp2_with fail
     refine bB.o.mono ?_;rintro c6 be ⟨rfl,c0,bz⟩;have ae:=Z (aK.o.ostep c0 bz aU.o.1 aU.o.2.2);have dV:=Z aU.o.2.1;have bw:∀b,u.heap.size<=b->b<wr.heap.size->be.heap[b]? = wr.heap[b]?:=fun b ai bh=>(bz.block b bh (dC.o b ai) (dB.o b ai)).1
     have dT:aw<wr.heap.size:=(bH cr.o).1;have d5:=Z ((bw aw (by omega) dT).trans cr.o);have dP:wr.heap.size<=be.heap.size:=bz.size;have ax:=Z ((cp.o.keep (fun y hy aS=>bw y aS.2 hy) dP).mono fun y _ aS=>(show dU be y from aS.1.same (bw y aS.2 aS.1.lt)));clear c0 bz bB cb cc cd ce cf cg ch aU bw cp;have e5:100 * k+100<=1638400:=by omega
     obtain ⟨cy,bk,al⟩:=ae.o.mp;have cY:=Z al;clear al;by_cases bl:er=0
     case neg=>
      rw [if_pos bl] at N;have a9:xB f C ⟨fun _=>none,T,s⟩=(er,⟨st.tm,cq,ee⟩):=by
       have:=aA7 f (C.take (k+1)) (C.drop (k+1)) _ _ er bl N;rw [xJ] at this;exact this
      have H:=bi.o;rw [a9] at H;unfold outT at H;dsimp only at H;rw [if_neg bl] at H;have ah:=Z H;obtain ⟨ap,aq,G⟩:=ae.o.done U.o (by omega);have aF:=Z ap;have aG:=Z aq;have aI:=Z G;clear H a9 N ap aq G;go_wp2;go_ret2;rw [ah.o];exact⟨none,0,rfl,aW.nil _ _ _ _,fun(z:Int) (bd:z∈([]:List Int))=>absurd bd (by simp),aF.o,aG.o,aI.o⟩
     case pos=>
      subst bl;rw [if_neg (by simp)] at N;cases eb
      case true=>
       rw [if_pos rfl] at N;have a7:=Z N;obtain ⟨dz,bs,a3,bb⟩:=cY.o.store underlying3 underlying143 (by unfold maxLen;omega) (x:=(i:Int)) aV (.int .i64 x);rw [aEb] at a3;have b3:=Z ((ae.o.stored U.o dV.o bI.o bK.o bb ⟨_,by split <;> omega,a3⟩).more (z':=100 * (k+1)) (by omega));clear a3 bb N;go_wp2
       go_roundw
       case rel=>exact⟨k+1,_,by omega,by go_num,rfl,rfl,a7.o,b3.o⟩
       case measure=>simp [intOf];omega
      case false=>
       rw [if_neg (by simp)] at N;cases aD:aD6 st.tm args
       case true=>
        rw [if_pos aD] at N;have a7:=Z N;obtain ⟨dz,bs,a3,bb⟩:=cY.o.store underlying3 underlying143 (by unfold maxLen;omega) (x:=(i:Int)) aV (.int .i64 i);rw [aEb] at a3;have b3:=Z ((ae.o.stored U.o aV bI.o bK.o bb ⟨_,by split <;> omega,a3⟩).more (z':=100 * (k+1)) (by omega));clear a3 bb N;go_wp2
        go_roundw
        case rel=>exact⟨k+1,_,by omega,by go_num,rfl,rfl,a7.o,b3.o⟩
        case measure=>simp [intOf];omega
       case false=>
        rw [if_neg (by rw [aD];simp)] at N;have d8:op≠11:=fun e=>by
         have:=a4.o.lit e;change args = [] at this;rw [this] at aD;cases aD
        have cN:oH be nm ⟨ad,R,O⟩ (toA st.tm args) op af ag Q c3 G I:=⟨ax.o.num.mono fun _ _ _=>trivial,ax.o.den.mono fun _ _ _=>trivial,ax.o.args,ax.o.nc,ax.o.dc,ax.o.ac,a4.o.num,a4.o.name,ax.o.op,fun e=>absurd e d8⟩;have aB:=sH w0.heap.size p _ op nm ⟨ad,R,O⟩ (toA st.tm args) af ag Q c3 G I be ae.o.cx.t (ae.o.g.g.ok.sm.X _) (d9.o.all ae.o.cx.b) cN;unfold cZ at aB;rw [wI,wN] at aB;dsimp only at aB;have aZ:=Z (ae.o.g.g.make op (nm:=nm) (val:=⟨ad,R,O⟩) (toA st.tm args) a4.o.num a4.o.den a4.o.name);have b8:=Z (aEi ae.o.g.g.ok.sm op nm ⟨ad,R,O⟩ (toA st.tm args));generalize bQ cq op nm ⟨ad,R,O⟩ (toA st.tm args)=M at *;obtain ⟨⟨ds,dr⟩,T7⟩:=M;dsimp only at aB aZ b8 N;have da:=Z aB;obtain ⟨cb,cc,cd,ce,cf,cg,ch⟩:=pT d5.o;have a7:=Z N;clear aB cN N
        go_wp2_with fail
        refine da.o.mono ?_;rintro c6 dz ⟨rfl,ci,b0⟩;have cn:=Z (ae.o.ostep (ae.o.cx.tstep U.o ci b0).1 (lT.ofT b0 fun k e=>((ae.o.cx.tstep U.o ci b0).2 k).1 e) aZ.o aA);obtain ⟨ep,ew,db⟩:=cn.o.mp;obtain ⟨eF,bs,bL,dl⟩:=db.store underlying3 underlying143 (by unfold maxLen;omega) (x:=(i:Int)) aV (.int .i64 ds);rw [aEb] at bL;have co:=Z ((cn.o.stored U.o (show eI ds from⟨by have:=b8.o.1;omega,by have:=b8.o.2;omega⟩) bI.o bK.o dl ⟨_,by split <;> omega,bL⟩).more (z':=100 * (k+1)) (by omega));clear bL dl db ci b0 da cb cc cd ce cf cg ch;by_cases bM:dr=0
        ·subst bM;go_wp2
         go_roundw
         case rel=>exact⟨k+1,_,by omega,by go_num,rfl,rfl,a7.o,co.o⟩
         case measure=>simp [intOf];omega
        ·have a9:=aA7 f (C.take (k+1)) (C.drop (k+1)) _ _ dr bM a7.o;rw [xJ] at a9;have H:=bi.o;rw [a9] at H;unfold outT at H;dsimp only at H;rw [if_neg bM] at H;have ah:=Z H;obtain ⟨ap,aq,G⟩:=co.o.done U.o (by omega);have aF:=Z ap;have aG:=Z aq;have aI:=Z G;clear H a9 ap aq G;go_wp2;go_ret2;rw [ah.o];exact⟨none,0,rfl,aW.nil _ _ _ _,fun(z:Int) (bd:z∈([]:List Int))=>absurd bd (by simp),aF.o,aG.o,aI.o⟩
  ·obtain rfl:k=C.length:=by omega
   obtain ⟨u,rfl⟩:∃u,u=wr:=⟨_,rfl⟩;have bV:=bt.o;rw [nA] at bV;have H:=bi.o;rw [bV] at H;unfold outT at H;dsimp only at H;rw [if_pos rfl] at H;have ah:=Z H;have cX:=A.o.r1.len;have bF:=Z cX;have di:=Z (show ∀x:Int,eI ((st.tm x).getD 0) from fun x=>by
    cases hy:st.tm x with
    | none=>exact⟨by decide,by decide⟩
    | some v=>exact A.o.ok x v hy)
   obtain ⟨e6,dK,dW,dX,dZ⟩:=info_parts lE;have dY:100 * C.length<=1638400:=by have:=cW.o;have:=aX.o;omega
   clear H bt bV bi cX;go_wp2
   go_loopw [6,19,104] (fun cm _ cj bf=>∃j:Nat,j<=n/\cj = .int .i64 j/\Hid (Below u.heap.size u bf)/\Hid (aW bf u.heap.size 3 1 cm j (((ids.take j).map fun i=>(st.tm i).getD 0).map (Value.int .i64)))) (fun _ _ cj _=>n - (intOf cj).toNat)
   case atStart=>exact⟨0,aN,rfl,aO _ _,aW.nil _ _ _ _⟩
   case round=>
    obtain ⟨j,dL,rfl,a6,K⟩:=hrel;by_cases au:j<n
    ·obtain ⟨ej,e8,rfl,ec⟩:=(A.o.r1.below a6.o aA).at j au;have bD:j<ids.length:=by have:=bF.o;omega
     have ak:eI (nth ids j):=A.o.r1.wf _ (cB bD);have bN:=(A.o.fr w.heap.size (.inl rfl)).1;obtain ⟨cy,bk,aY⟩:=A.o.mp;have al:=aY.same (a6.o.block _ bN);have bo:=al.look underlying3 underlying143 (qF wr) (x:=nth ids j) ak;rw [aKf] at bo;have bs:=@Z (((ids.take (j+1)).map fun i=>(st.tm i).getD 0)=((ids.take j).map fun i=>(st.tm i).getD 0) ++ [(st.tm (nth ids j)).getD 0]) (by rw [jD bD,mL,cE bD];rfl);have dM:(j:Int)<n:=by omega
     have e4:=Z (di.o (nth ids j));clear al aY bk ak;generalize (st.tm (nth ids j)).getD 0=y at *;generalize nth ids j=z at *;have ba:=a6.o.size
     go_wp2_with (at_builtin;refine cI rfl (.tmp 108) (.tmp 112) rfl underlying23 dK dW dX dZ rfl (by decide) rfl rfl (K.o.alloc _) (Src.one (b:=wr.heap.size) (news:=[.int .i64 y]) rfl ?c1) ?c2 ?c3 ?c4 ?c5 ?_)
     case c1=>intro j u bu;rw [kO];simpa using bu
     case c2=>intro u bu;simp at bu;subst bu;rfl
     case c3=>unfold maxLen;omega
     case c4=>omega
     case c5=>first | omega | (simp;omega)
     intro v' b1 dh bm _;have aE:=Z ((a6.o.alloc a6.o.size (.cells #[.int .i64 y] 3)).grown bm (by simp;omega) (fun k V=>(K.o.lt k V).1));have d3:=Z (show aW b1 u.heap.size 3 1 v' (j+1) (((ids.take (j+1)).map fun i=>(st.tm i).getD 0).map (Value.int .i64)) from by rw [bs.o,mL,vR,List.map_take];exact dh);clear dh bm bo ec;go_wp2
     go_roundw
     case rel=>exact⟨j+1,by omega,by go_num,aE.o,d3.o⟩
     case measure=>simp [intOf];omega
    ·obtain rfl:j=n:=by omega
     obtain ⟨cu,cz,rfl,b9,a0⟩:=K.o.slice;obtain ⟨ap,aq,G⟩:=(A.o.all U.o a6.o).done U.o dY;have aF:=Z ap;have aG:=Z aq;have aI:=Z G;have d2:=Z (show aW wr w.heap.size 3 1 (.slice cu j cz) j ((ids.map fun i=>(st.tm i).getD 0).map (Value.int .i64)) from by
      have:=K.o.lower (aH A.o.lo.2 (gM (A.o.fr w.heap.size (.inl rfl)).1))
      rwa [fL (by have:=bF.o;omega)] at this)
     clear ap aq G K;go_wp2;go_ret2;have cV:d4.1.1.length=j:=by rw [ah.o];simp [bF.o]
     refine⟨cu,cz,?_,?_,?_,?_,?_,?_⟩
     ·rw [cV,ah.o];rfl
     ·rw [cV,ah.o];exact d2.o
     ·rw [ah.o];intro x aa;obtain ⟨y,_,rfl⟩:=qA.1 aa;exact di.o y
     ·rw [ah.o];exact aF.o
     ·rw [ah.o];exact aG.o
     ·rw [ah.o];exact aI.o
end
theorem aTe (P:Int->Bool) (fv:Nat) (caps:List Value) (a:Option Addr) (n c:Nat) (xs:List Int) (w:World) (h:jQ w a n xs) (ad:n<1099511627776)
  (aa:∀args w,(callFunc fv args).run prog w = .ok (.enter fv args) w)
  (K:∀w1,Below w.heap.size w w1->∀x∈xs,Calls prog fv (Value.int .i64 x :: caps).toArray w1 fun e w'=>e = .returned (.bool (P x))/\Below w1.heap.size w1 w') :
  Calls prog 124 #[.slice a n c,.func (.func fv) #[] caps.toArray] w fun e w'=>e = .returned (.int .i64 (uM P xs 0))/\Below w.heap.size w w':=by
 have O:=Z h;have N:=Z h.len;have Q:=Z K;clear h K;go_enter func124,ntmps124
 go_wp2
 go_loopw [4,5,8] (fun _ _ i wr=>∃k:Nat,k<=n/\i = .int .i64 k/\Hid (∀j x,j<k->xs[j]? = some x->P x=false)/\Hid (Below w.heap.size w wr)) (fun _ _ i _=>n - (intOf i).toNat)
 case atStart=>exact⟨0,aN,rfl,fun j f A=>absurd A (oX _),aO _ _⟩
 case round=>
  obtain ⟨k,ab,rfl,H,l⟩:=hrel;by_cases M:k<n
  ·have G:k<xs.length:=by rw [N.o];exact M
   have d:=cK G;obtain ⟨b,o,rfl,V⟩:=(O.o.below l.o aA).at k M;have C:=Z (Q.o wr l.o xs[k] (qS G));rw [cE G] at V;have L:=Z d;clear d;cases g:P xs[k]
   case true=>
    have I:=Z (rT (p:=P) (fun j f A d=>H.o j f A d) L.o g);rw [g] at C;generalize xs[k]=f at *;clear g
    go_wp2_with fail
    refine C.o.mono ?_;rintro e w1 ⟨rfl,r⟩;have E:=Z (aG l r);clear r;go_wp2;go_ret;exact⟨mI I.o.symm,E.o⟩
   case false=>
    have U:=@Z (∀j f,j<k+1->xs[j]? = some f->P f=false) (fun j f A d=>by
     by_cases R:j<k
     ·exact H.o j f R d
     ·obtain rfl:j=k:=by omega
      rw [L.o] at d;cases d;exact g)
    rw [g] at C;generalize xs[k]=f at *;clear g
    go_wp2_with fail
    refine C.o.mono ?_;rintro e w1 ⟨rfl,r⟩;have E:=Z (aG l r);clear r;go_wp2
    go_roundw
    case rel=>exact⟨k+1,by omega,by go_num,U.o,E.o⟩
    case measure=>simp [intOf];omega
  ·have I:=Z (rU (p:=P) (xs:=xs) (fun j f A d=>H.o j f (by have:=N.o;omega) d));go_wp2;go_ret;exact⟨mI I.o.symm,l.o⟩
theorem aTf (P:Int->Bool) (fv:Nat) (caps:List Value) (a:Option Addr) (n c:Nat) (xs:List Int) (w:World) (h:jQ w a n xs) (E:n<1099511627776)
  (C:∀args w,(callFunc fv args).run prog w = .ok (.enter fv args) w)
  (r:∀w1,Below w.heap.size w w1->∀x∈xs,Calls prog fv (Value.int .i64 x :: caps).toArray w1 fun e w'=>e = .returned (.bool (P x))/\Below w1.heap.size w1 w') :
  Calls prog 80 #[.slice a n c,.func (.func fv) #[] caps.toArray] w fun e w'=>e = .returned (.bool (xs.any P))/\Below w.heap.size w w':=by
 have i:=Z (aTe P fv caps a n c xs w h E C r);clear h r;have d:=nQ (p:=P) xs 0;cases b:xs.find? P with
 |
  none=>
  rw [b] at d;dsimp only at d;have l:=@Z (xs.any P=false) (by rw [oT];rw [yR] at b;exact b);rw [d] at i;clear d b;go_enter func80,ntmps80
  go_wp2_with fail
  refine i.o.mono ?_;rintro e w1 ⟨rfl,g⟩;have j:=Z g;clear g;go_wp2;go_ret;exact⟨aI l.o.symm,j.o⟩
 |
  some f=>
  rw [b] at d;dsimp only at d;obtain ⟨k,A,G⟩:=d;have l:=@Z (xs.any P=true) (by rw [oW];exact⟨f,mK b,by have:=tI b;exact this⟩);rw [A] at i;clear A b;go_enter func80,ntmps80
  go_wp2_with fail
  refine i.o.mono ?_;rintro e w1 ⟨rfl,g⟩;have j:=Z g;clear g;go_wp2;go_ret;exact⟨aI l.o.symm,j.o⟩
def boolT (T:aC) (i:Int):Bool:=(nG T i).2 && decide ((nG T i).1=0)
def vF (T:aC) (ids:List Int):Bool:=!ids.any fun i=>!boolT T i
theorem aNh (B p:Nat) (T:aC) (i:Int) (x:Nat) (w:World) (h:dG B p T w) (d:w.cell? ⟨x,0,none⟩=some (.pointer (some ⟨p,0,none⟩))) :
  Calls prog 121 #[.int .i64 i,.pointer (some ⟨x,0,none⟩)] w fun e w'=>e = .returned (.bool (!boolT T i))/\Below w.heap.size w w':=by
 have b:=Z (aFw B p T i w h);have hd:=@Z (boolT T i=((nG T i).2 && decide ((nG T i).1=0))) rfl;generalize nG T i=r at *;obtain ⟨s,c⟩:=r;dsimp only at *;clear h;cases c
 case false=>
  have a:=@Z (true = !boolT T i) (by rw [hd.o];rfl);clear hd;go_enter func121,ntmps121
  go_wp2_with fail
  refine b.o.mono ?_;rintro e w' ⟨rfl,rfl⟩;go_wp2;go_ret;exact⟨aI a.o,aO _ _⟩
 case true=>
  have a:=@Z ((!decide (s=0)) = !boolT T i) (by rw [hd.o];rfl);clear hd;go_enter func121,ntmps121
  go_wp2_with fail
  refine b.o.mono ?_;rintro e w' ⟨rfl,rfl⟩;go_wp2;go_ret;exact⟨aI a.o,aO _ _⟩
theorem aQj (B p:Nat) (T:aC) (a:Option Addr) (n c:Nat) (ids:List Int) (w:World) (h:dG B p T w) (l:jQ w a n ids) (C:n<1099511627776) :
  Calls prog 71 #[.pointer (some ⟨p,0,none⟩),.slice a n c] w fun e w'=>e = .returned (.bool (vF T ids))/\Below w.heap.size w w':=by
 have b:Below w.heap.size w (w.alloc (.cells #[.pointer (some ⟨p,0,none⟩)] 26)):=bJ;have A:=Z (aTf (fun i=>!boolT T i) 121 [.pointer (some ⟨w.heap.size,0,none⟩)] a n c ids _ (l.below b aA) C
  (enters_of func121 (by kernel_rfl) rfl) (fun w1 j x _=>aNh B p T x w.heap.size w1 ((h.all b).all j) (E ((j.block w.heap.size (by simp)).trans (cC w _)) 0)))
 have G:=@Z ((!ids.any fun i=>!boolT T i)=vF T ids) rfl;have d:=Z b;clear h l b;go_enter func71,ntmps71
 go_wp2_with fail
 refine A.o.mono ?_;rintro e w1 ⟨rfl,g⟩;have r:=Z (d.o.trans (g.mono d.o.size));clear g;go_wp2;go_ret;exact⟨aI G.o,r.o⟩
def mk1 (T:aC) (op a:Int):(Int × Int) × aC:=bQ T op ⟨#[]⟩ eA [a]
def uA (T:aC) (op a b:Int):(Int × Int) × aC:=bQ T op ⟨#[]⟩ eA [a,b]
def uB (T:aC) (k by' x:Int):(Int × Int) × aC:=
 if (uA T 8 k x).1.2=0 then uA (uA T 8 k x).2 6 by' (uA T 8 k x).1.1 else(uA T 8 k x)
def oE (T:aC) (k:Int):List (Int × Int)->List Int->(List Int × Int) × aC
 | [],out=>((out,0),T)
 | (b,x) :: l,out=>if (uB T k b x).1.2=0 then oE (uB T k b x).2 k l (out ++ [(uB T k b x).1.1]) else(([],(uB T k b x).1.2),(uB T k b x).2)
def jK (T:aC) (k:Int) (args:List Int):(List Int × Int) × aC:=
 if (mk1 T 3 (nth args 0)).1.2=0 then oE (mk1 T 3 (nth args 0)).2 k [(nth args 0,nth args 1),((mk1 T 3 (nth args 0)).1.1,nth args 2)] [] else(([],(mk1 T 3 (nth args 0)).1.2),(mk1 T 3 (nth args 0)).2)
def jL:rQ (List Int):=fun T s _ n=>
 if n.op=10/\n.sort≠0 then
  if (dC T n.sort).1.2=0 then
   (((dC T n.sort).1.1,true,(jK (dC T n.sort).2 (dC T n.sort).1.1 n.args).1.2),(jK (dC T n.sort).2 (dC T n.sort).1.1 n.args).2,s++(jK (dC T n.sort).2 (dC T n.sort).1.1 n.args).1.1)
  else((0,false,(dC T n.sort).1.2),(dC T n.sort).2,s)
 else((0,false,0),T,s)
def mJ (T:aC) (ids:List Int):(List Int × List Int × Int) × aC:=
 if vF T ids then
  if (lS jL T [] ids).1.2=0 then(((lS jL T [] ids).1.1,(lS jL T [] ids).2.2,0),(lS jL T [] ids).2.1)
  else(([],[],(lS jL T [] ids).1.2),(lS jL T [] ids).2.1)
 else(([],[],1),T)
section
variable {T T0 T' : aC}
theorem aBa (c:mD T) {i z:Int} (a:dH T i=true) (h:Reach T i z):dH T z=true:=by
 induction h with
 | refl i=>exact a
 |
  arg ha _ ih=>
  refine ih ?_;have b:=cX.1 a;have:=pD c ha;exact cX.2 ⟨this.1,by have:=this.2 b.1;omega⟩
theorem aVj (d:mD T) {i a:Int} (c:dH T i=true) (b:a∈(nodeAt T i).args):dH T a=true:=aBa d c (.arg b (.refl a))
theorem aQk {j:Nat} {x:aZ} (h:T.nodes[j]? = some x):nodeAt T (j:Int)=x/\dH T (j:Int)=true:=by
 have a:=(gK.1 h).1;have:=cR a;rw [h] at this;exact⟨(tK this).symm,cX.2 ⟨by omega,by omega⟩⟩
theorem aKt {op:Int} (h:op≠11):fR op ⟨#[]⟩ eA=false:=by
 unfold fR;have a:(op == 11)=false:=by simpa using h
 rw [a];simp [eA,mE,ByteArray.size]
theorem aIb {l:List Int} {s:Int} (h:∀x∈l,(nodeAt T x).sort=s):eM T l s=true:=by rw [aEd];exact bV h
end
end Go.Proofs.YtgoojkiccdjplaaGreatDoor
