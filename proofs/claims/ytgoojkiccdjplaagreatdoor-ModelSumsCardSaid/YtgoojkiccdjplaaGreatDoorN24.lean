/-
  Parts of this claim's texts, one behind the other: ZG ZH ZI ZJ ZP UA FN FQ FV CE. No condition.
-/
import Derived.Test.YtgoojkiccdjplaaGreatDoorN22
import Derived.Test.YtgoojkiccdjplaaGreatDoorN23
import Derived.Test.YtgoojkiccdjplaaGreatDoorN13
import Derived.Test.YtgoojkiccdjplaaGreatDoorN7
import Derived.Test.YtgoojkiccdjplaaGreatDoorN20
import Derived.Test.YtgoojkiccdjplaaGreatDoorN14
set_option linter.unusedVariables false
set_option linter.unusedSimpArgs false
set_option maxRecDepth 100000
set_option maxHeartbeats 16000000
namespace Go.Proofs.YtgoojkiccdjplaaGreatDoor
open Go.RowKit Go.Sort Go.Lib
def sy:ByteArray:=⟨#[121]⟩
def sz:ByteArray:=⟨#[122]⟩
def sp:ByteArray:=⟨#[112]⟩
def sq:ByteArray:=⟨#[113]⟩
def sa:ByteArray:=⟨#[97]⟩
def sb:ByteArray:=⟨#[98]⟩
def sh:ByteArray:=⟨#[104]⟩
def jC:List gX:=[⟨sx,[],1⟩,⟨sy,[],1⟩,⟨sz,[],1⟩,⟨sp,[],0⟩,⟨sq,[],0⟩,⟨sa,[],2⟩,⟨sb,[],2⟩,⟨sf,[1],1⟩,⟨sg,[2,1],2⟩,⟨sh,[2],0⟩]
def T7 (k:Nat):fA:=⟨[sU],jC.take k,[]⟩
theorem pY (T:fA) (s:ByteArray):gO T s=T.funs.find? fun f=>f.name.data.toList == s.data.toList:=by
 unfold gO
 congr 1
 funext f
 exact nN f.name s
theorem aNi:∀k:Fin 10,eD (T7 k.val) (jC.getD k.val oS)=0:=by
 intro k;unfold eD jM;rw [oG,pY]
 revert k
 decide +kernel
theorem aNj {k:Nat} (hk:k<10) (f:gX) (hf:jC[k]? = some f):eD (T7 k) f=0/\mX (T7 k) f=T7 (k+1):=by
 have h:=aNi ⟨k,hk⟩;have e:jC.getD k oS=f:=by rw [List.getD_eq_getElem?_getD,hf];rfl
 dsimp only at h;rw [e] at h;refine⟨h,?_⟩;unfold mX;rw [if_pos h];unfold T7;have hl:k<jC.length:=(List.getElem?_eq_some_iff.1 hf).1;rw [List.take_succ_eq_append_getElem hl];have e2:=List.getElem?_eq_getElem hl;rw [hf] at e2;injection e2 with e2
 rw [<-e2]
theorem aCp (k:Nat):qD (T7 k):=by
 have hl:(T7 k).funs.length<=10:=by show(jC.take k).length<=10;rw [List.length_take];exact Nat.min_le_right _ _
 refine⟨by show(1:Nat)<_;decide,by omega,by show(0:Nat)<_;decide,fun f hf=>?_⟩;have:f∈jC:=List.mem_of_mem_take hf;simp [jC] at this;rcases this with rfl | rfl | rfl | rfl | rfl | rfl | rfl | rfl | rfl | rfl <;> decide
theorem aMe:gY ⟨[],[],[]⟩ sU=false:=aMd
theorem bJ.ofCss {α:Type} {R:bV α} {S:Nat->Prop} {w:World} {g:Nat} {t:TypeId} {f:Nat × Nat} {css:List (List Value)} {xs:List α} (hb:w.heap[g]? = some (.cells css.flatten.toArray t f)) (hS:S g) (hl:css.length=xs.length)
  (hr:∀(j:Nat) (x:α),xs[j]? = some x->∃cs,css[j]? = some cs/\R.rd S w x cs):bJ R S w (some ⟨g,0,none⟩) xs.length xs:=by
 refine⟨rfl,fun _=>⟨g,0,rfl,(bQ hb).1,hS,fun j x hx=>?_⟩⟩;obtain ⟨cs,h1,h2⟩:=hr j x hx;refine⟨cs,h2,fun i u hu=>?_⟩;have hk:∀cs∈css,cs.length=R.k:=fun cs hc=>by
  obtain ⟨j,hj,rfl⟩:=List.getElem_of_mem hc;obtain ⟨cs',h3,h4⟩:=hr j _ (List.getElem?_eq_getElem (by omega:j<xs.length));rw [List.getElem?_eq_getElem hj] at h3;injection h3 with h3
  rw [h3];exact R.len h4
 have:=mA hk h1 hu;rw [Nat.zero_add,aC hb]
 simpa using this
def aDe (g:Nat):List (List Value):=
 [[.string sx,.slice none 0 0,.int .i64 1],[.string sy,.slice none 0 0,.int .i64 1],[.string sz,.slice none 0 0,.int .i64 1],[.string sp,.slice none 0 0,.int .i64 0],[.string sq,.slice none 0 0,.int .i64 0],[.string sa,.slice none 0 0,.int .i64 2],[.string sb,.slice none 0 0,.int .i64 2],
  [.string sf,.slice (some ⟨g,0,none⟩) 1 1,.int .i64 1],[.string sg,.slice (some ⟨g+1,0,none⟩) 2 2,.int .i64 2],[.string sh,.slice (some ⟨g+2,0,none⟩) 1 1,.int .i64 0]]
def aHq (w:World) (e:Ending) (w':World):Prop:=
 e = .returned (.slice (some ⟨w.heap.size+3,0,none⟩) 10 10)/\bJ kP (fun k=>w.heap.size<=k) w' (some ⟨w.heap.size+3,0,none⟩) 10 jC/\Below w.heap.size w w'/\w'.heap.size=w.heap.size+4
theorem aJg {S:Nat->Prop} {w:World} {g:Nat} (h1:bJ bV.int S w (some ⟨g,0,none⟩) 1 [1]) (h2:bJ bV.int S w (some ⟨g+1,0,none⟩) 2 [2,1]) (h3:bJ bV.int S w (some ⟨g+2,0,none⟩) 1 [2]) :
  ∀(j:Nat) (x:gX),jC[j]? = some x->∃cs,(aDe g)[j]? = some cs/\kP.rd S w x cs:=by
 have o0:fG 0:=⟨by decide,by decide⟩;have o1:fG 1:=⟨by decide,by decide⟩;have o2:fG 2:=⟨by decide,by decide⟩;have nl:=fun nm r (h:fG r)=>(kZ (S:=S) (w:=w) (f:=⟨nm,[],r⟩) (cs:=[.string nm,.slice none 0 0,.int .i64 r])).2 ⟨none,0,0,rfl,aB,aV,bJ.nil _ _ _ _,h⟩
 intro j x hx
 match j,hx with
 | 0,hx=>cases hx;exact⟨_,rfl,nl _ _ o1⟩
 | 1,hx=>cases hx;exact⟨_,rfl,nl _ _ o1⟩
 | 2,hx=>cases hx;exact⟨_,rfl,nl _ _ o1⟩
 | 3,hx=>cases hx;exact⟨_,rfl,nl _ _ o0⟩
 | 4,hx=>cases hx;exact⟨_,rfl,nl _ _ o0⟩
 | 5,hx=>cases hx;exact⟨_,rfl,nl _ _ o2⟩
 | 6,hx=>cases hx;exact⟨_,rfl,nl _ _ o2⟩
 | 7,hx=>cases hx;exact⟨_,rfl,kZ.2 ⟨_,1,1,rfl,aB,by decide,h1,o1⟩⟩
 | 8,hx=>cases hx;exact⟨_,rfl,kZ.2 ⟨_,2,2,rfl,aB,by decide,h2,o2⟩⟩
 | 9,hx=>cases hx;exact⟨_,rfl,kZ.2 ⟨_,1,1,rfl,aB,by decide,h3,o0⟩⟩
 | j+10,hx=>simp [jC] at hx
structure Duo (w0:World) (p q:Nat) (T:fA) (w:World):Prop where
 t:TabIs w0.heap.size p T w
 r:gK (fun _=>False) w0.heap.size q T w
 ap:Apart w p q
 b:Below w0.heap.size w0 w
 e:Env w
section
variable {w0 w w1 w' : World} {p q : Nat} {T T' : fA}
theorem Apart.symm (h:Apart w p q) (hp:∀j,dQ w p j->j<w.heap.size):Apart w q p:=fun j hj=>⟨hp j hj,fun hq=>(h j hq).2 hj⟩
theorem Duo.all (h:Duo w0 p q T w) (hb:Below w.heap.size w w'):Duo w0 p q T w':=
 ⟨h.t.all hb,h.r.all hb,(h.ap.keep (.of_below h.t.plt hb)).2,h.b.trans (hb.mono h.b.size),h.e.all hb⟩
theorem Duo.step (h:Duo w0 p q T w) (h0:0<w0.heap.size) (s1:eX p w w1):gK (fun _=>False) w0.heap.size q T w1/\Apart w1 p q/\Below w0.heap.size w0 w1/\Env w1:=by
 have hk:=h.ap.keep s1;have hb:=h.t.stepBelow s1;exact⟨h.r.keep hk.1 (fun j hj=>(s1.block j hj.lt fun e=>h.t.ownI e hj).1) s1.size,hk.2,h.b.trans hb,h.e.below hb h0⟩
theorem Duo.step2 (h0:0<w0.heap.size) (t1:TabIs w0.heap.size p T' w1) (r1:gK (fun _=>False) w0.heap.size q T w1) (ap:Apart w1 p q) (b:Below w0.heap.size w0 w1) (e:Env w1) (r2:gK (fun _=>False) w0.heap.size q T' w') (s2:eX q w1 w'):Duo w0 p q T' w':=by
 have ap':=ap.symm fun j hj=>(t1.ownB hj).2
 have hk:=ap'.keep s2;have hb:=r1.stepBelow s2;exact⟨t1.keep hk.1 (fun j hj=>(s2.block j hj.lt fun e=>r1.ownI e hj).1) s2.size,r2,hk.2.symm fun j hj=>(r2.ownB hj).2,b.trans hb,e.below hb h0⟩
def sH (S:Nat->Prop) (p q:Nat) (w:World):Prop:=∀k,S k->k<w.heap.size/\¬dQ w p k/\¬dQ w q k
theorem sH.stepP {S:Nat->Prop} (h:sH S p q w) (s:eX p w w') (hq:w'.heap[q]? = w.heap[q]?):sH S p q w'/\∀k,S k->w'.heap[k]? = w.heap[k]?:=
 ⟨fun k hk=>⟨bN (h k hk).1 s.size,(s.block k (h k hk).1 (h k hk).2.1).2,fun e=>(h k hk).2.2 ((dQ.same hq).1 e)⟩,fun k hk=>(s.block k (h k hk).1 (h k hk).2.1).1⟩
theorem sH.stepQ {S:Nat->Prop} (h:sH S p q w) (s:eX q w w') (hp:w'.heap[p]? = w.heap[p]?):sH S p q w'/\∀k,S k->w'.heap[k]? = w.heap[k]?:=
 ⟨fun k hk=>⟨bN (h k hk).1 s.size,fun e=>(h k hk).2.1 ((dQ.same hp).1 e),(s.block k (h k hk).1 (h k hk).2.2).2⟩,fun k hk=>(s.block k (h k hk).1 (h k hk).2.2).1⟩
end
theorem bK.lower {α:Type} {R:bV α} {S:Nat->Prop} {w:World} {base base':Nat} {e:TypeId} {v:Value} {xs:List α} (h:bK R S w base e v xs) (hb:base'<=base):bK R S w base' e v xs:=by
 obtain ⟨css,h1,h2⟩:=h;exact⟨css,h1.lower hb,h2⟩
theorem cU.lower {B B' p:Nat} {T:aR} {w:World} (h:cU B p T w) (hb:B'<=B):cU B' p T w:=by
 obtain ⟨q,v1,v2,m,h⟩:=h;exact⟨q,v1,v2,m,aK hb h.bp,h.blk,h.nodes.lower hb,h.nums.lower hb,h.ids,aK hb h.bm,h.srtX,h.xlt⟩
def aHs (w:World) (e:Ending) (w':World):Prop:=∃p r,e = .returned (.tuple #[.pointer (some ⟨p,0,none⟩),.pointer (some ⟨r,0,none⟩)])/\cU w.heap.size p (pT (T7 10)) w'/\Below w.heap.size w w'
def addN (T:aR) (n:bY):aR:={ T with nodes:=T.nodes ++ [n],nums:=T.nums ++ [eE T n],ids:=fun k=>if k=mQ n then some (T.nodes.length:Int) else T.ids k,cnt:=T.cnt+1 }
def nX:bY:=⟨12,sx,dC,[],1⟩
def A0:aR:=pT (T7 10)
def A1:aR:=addN A0 nX
section
variable {T : aR} {op : Int} {nm : ByteArray} {val : cE} {args : List Int} {s : Int}
theorem fE (h1:jN op args=false) (h2:jG op nm val=false) (h3:args.any (fun i=>!iD T i)=false) (h4:aX T op nm args=(s,true)):cD T op nm val args=fT T ⟨op,nm,val,args,s⟩:=by
 unfold cD;rw [h1,h2,h3,h4];rfl
theorem eH {n:bY} (h:T.ids (mQ n)=none) (hl:T.nodes.length<16384):fT T n=(((T.nodes.length:Int),0),addN T n):=aC1 h (by omega)
end
theorem aCq (T:fA) (s:ByteArray):fH T s=(T.funs.find? fun f=>f.name.data.toList == s.data.toList).getD oS:=by unfold fH;rw [pY]
theorem mL (T:aR) (nm:ByteArray) (args:List Int):gF T nm args=if (T.S.funs.find? fun f=>f.name.data.toList == nm.data.toList).isSome/\((T.S.funs.find? fun f=>f.name.data.toList == nm.data.toList).getD oS).args.length=args.length then
  (if eQ T args ((T.S.funs.find? fun f=>f.name.data.toList == nm.data.toList).getD oS).args then(((T.S.funs.find? fun f=>f.name.data.toList == nm.data.toList).getD oS).res,true) else(0,false)) else(0,false):=by
 unfold gF;rw [pY,aCq]
theorem aK5:aX A0 12 sx []=(1,true):=by
 show gF A0 sx []=_;rw [mL]
 decide +kernel
theorem aK6:cD A0 12 sx dC []=((0,0),A1):=(fE (by decide +kernel) (by decide +kernel) rfl aK5).trans (eH rfl (by decide))
theorem iJ.empty (k:Nat):iJ (pT (T7 k)):=
 ⟨⟨rfl,aB,aV,⟨Int.le_refl _,by show(0:Int)<=_;decide⟩,aCp k,fun _ _ h=>by simp [pT] at h⟩,fun _ h=>by simp [pT] at h,fun _ _ h=>by simp [pT] at h⟩
theorem iJ.add {T:aR} (h:iJ T) {n:bY} (hl:T.nodes.length<16384) (h1:n.val.num.length<=1000000) (h2:n.val.den.length<=1000000) (h3:n.args.length<=1000000) (hi:InT T n.args):iJ (addN T n):=by
 refine⟨⟨by simp [addN,h.sm.nn],by have:=h.sm.cn;simp [addN];omega,by simp [addN];omega,h.sm.fr,h.sm.s,fun k i hk=>?_⟩,fun x hx=>?_,fun k x hx=>?_⟩
 ·unfold addN at hk;dsimp only at hk;have e:((addN T n).nodes.length:Int)=T.nodes.length+1:=by simp [addN]
  rw [e]
  split at hk
  ·injection hk with hk;omega
  ·have:=h.sm.ids k i hk;omega
 ·rcases List.mem_append.1 hx with hx | hx
  ·exact h.sn x hx
  ·obtain rfl:=List.mem_singleton.1 hx;omega
 ·by_cases hk:k<T.nodes.length
  ·exact h.ord k x (by rw [show(addN T n).nodes=T.nodes ++ [n] from rfl,List.getElem?_append_left hk] at hx;exact hx)
  ·have hl2:=(List.getElem?_eq_some_iff.1 hx).1;rw [show(addN T n).nodes=T.nodes ++ [n] from rfl,List.length_append,List.length_singleton] at hl2;obtain rfl:k=T.nodes.length:=by omega
   rw [show(addN T n).nodes=T.nodes ++ [n] from rfl,List.getElem?_append_right aB,Nat.sub_self] at hx;cases hx;exact hi
theorem iJ.put {T:aR} (h:iJ T) {n:bY} (h1:n.val.num.length<=1000000) (h2:n.val.den.length<=1000000) (h3:n.args.length<=1000000) (hi:InT T n.args):iJ (fT T n).2:=by
 cases hk:T.ids (mQ n) with
 | some i=>rw [qH hk];exact h
 |
  none=>
  by_cases hl:16384<=T.nodes.length
  ·rw [qI hk hl];exact h
  ·rw [eH hk (by omega)];exact h.add (by omega) h1 h2 h3 hi
theorem iJ.make {T:aR} (h:iJ T) {op:Int} {nm:ByteArray} {val:cE} {args:List Int} (h1:val.num.length<=1000000) (h2:val.den.length<=1000000):iJ (cD T op nm val args).2:=by
 unfold cD
 split
 ·exact h
 ·rename_i hh
  split
  ·exact h
  ·split
   ·exact h
   ·rename_i ha
    split
    ·refine h.put h1 h2 ?_ (xE (by simpa using ha));unfold jN at hh;simp at hh;show args.length<=_;omega
    ·exact h
structure St (w0:World) (p:Nat) (T:aR) (w:World):Prop where
 t:cU w0.heap.size p T w
 b:Below w0.heap.size w0 w
section
variable {w0 w w' : World} {p : Nat} {T T' : aR}
theorem St.all (h:St w0 p T w) (hb:Below w.heap.size w w'):St w0 p T w':=⟨h.t.all hb,h.b.trans (hb.mono h.b.size)⟩
theorem St.lit (h:St w0 p T w) (o:Obj):St w0 p T (w.alloc o):=h.all (bD)
theorem St.step (h:St w0 p T w) (ht:cU w0.heap.size p T' w') (hs:fB p w w'):St w0 p T' w':=⟨ht,h.b.trans (h.t.stepBelow hs)⟩
theorem St.env (h:St w0 p T w) (hE:jQ w0):jQ w:=hE.all h.b
theorem aDf (w:World) (xs:List Int) (hx:∀x∈xs,fG x):bJ bV.int (dO (w.alloc (.cells (xs.map (Value.int .i64)).toArray 3))) (w.alloc (.cells (xs.map (Value.int .i64)).toArray 3)) (some ⟨w.heap.size,0,none⟩) xs.length xs:=
 bJ.ofI (jP.lit xs 3 w hx) fun x _ e=>by
  injection e with e
  subst e;exact⟨_,_,.inl (heap_alloc_new w _)⟩
theorem aHt (w:World) (op:Int) (xs:List Int) (ho:fG op) (hx:∀x∈xs,fG x) (hl:xs.length<=maxLen) (h11:op≠11):kF (w.alloc (.cells (xs.map (Value.int .i64)).toArray 3)) ⟨#[]⟩ dC xs op none none (some ⟨w.heap.size,0,none⟩) 0 0 xs.length:=
 ⟨bJ.nil _ _ _ _,bJ.nil _ _ _ _,aDf w xs hx,⟨aB,aV⟩,⟨aB,aV⟩,⟨aB,hl⟩,by decide,by decide,ho,fun e=>absurd e h11⟩
end
theorem aMf:iJ A0:=iJ.empty 10
section
variable (T : aR) (X : Nat -> Prop)
theorem sI:∀(l m:List Int),eQ { T with X:=X } l m=eQ T l m
 | [],_=>rfl
 | _ :: _,[]=>rfl
 | a :: l,s :: m=>by unfold eQ;rw [sI l m];rfl
theorem aJh (nm:ByteArray) (args:List Int):gF { T with X:=X } nm args=gF T nm args:=by unfold gF;rw [sI]
theorem aE1 (op:Int) (nm:ByteArray) (args:List Int):aX { T with X:=X } op nm args=aX T op nm args:=by unfold aX;rw [aJh];rfl
theorem aK7 (n:bY):fT { T with X:=X } n=((fT T n).1,{ (fT T n).2 with X:=X }):=by
 unfold fT;dsimp only;cases T.ids (mQ n) with
 | some i=>rfl
 |
  none=>
  dsimp only;by_cases h:16384<=T.nodes.length
  ·rw [if_pos h,if_pos h]
  ·rw [if_neg h,if_neg h];rfl
theorem qZ (op:Int) (nm:ByteArray) (val:cE) (args:List Int):cD { T with X:=X } op nm val args=((cD T op nm val args).1,{ (cD T op nm val args).2 with X:=X }):=by
 unfold cD;rw [aE1];have e:args.any (fun i=>!iD { T with X:=X } i)=args.any (fun i=>!iD T i):=rfl;rw [e]
 split
 ·rfl
 ·split
  ·rfl
  ·split
   ·rfl
   ·split
    ·exact aK7 T X _
    ·rfl
end
theorem SmT.X {T:aR} (h:SmT T) (X:Nat->Prop):SmT { T with X:=X }:=⟨h.nn,h.cn,h.le,h.fr,h.s,h.ids⟩
section
variable {w0 w w' : World} {p n s : Nat} {t : TypeId} {T : aR} {v v' : Value} {xs : List Value}
theorem St.own (h:St w0 p T w) {k:Nat} (hX:T.X k) (hs:fB p w w'):w'.heap[k]? = w.heap[k]?:=by
 obtain ⟨q,v1,v2,m,ha⟩:=h.t;exact(hs.block k (ha.xlt k hX).1 (ha.xlt k hX).2.1).1
theorem St.excl (h:St w0 p T w) {X':Nat->Prop} (hb:Below w0.heap.size w w') (hk:∀k,k<w.heap.size->¬T.X k->w'.heap[k]? = w.heap[k]?) (hx:∀k,X' k->(T.X k\/w.heap.size<=k)/\k<w'.heap.size):St w0 p { T with X:=X' } w':=
 ⟨h.t.excl hk hb.size hx,h.b.trans hb⟩
end
section
variable {τ : Type}
structure aDg (x:bY):Prop where
 num:x.val.num.length<=1000000
 name:x.name.size<=1000000
 args:x.args.length<=64
 lit:x.op=11->x.args = []
 ite:x.op=10->x.args.length=3
 den:x.val.den.length<=1000000
structure iB (T:aR):Prop where
 ok:iJ T
 ng:∀x∈T.nodes,aDg x
theorem iB.at {T:aR} (h:iB T) {k:Nat} (hk:k<T.nodes.length):aDg (nodeAt T k):=h.ng _ (List.mem_of_getElem? (fC hk))
theorem aE2 (T:aR) (n:bY):(fT T n).2.nodes=T.nodes\/(fT T n).2.nodes=T.nodes ++ [n]:=by
 cases hk:T.ids (mQ n) with
 | some i=>rw [qH hk];exact .inl rfl
 |
  none=>
  by_cases hl:16384<=T.nodes.length
  ·rw [qI hk hl];exact .inl rfl
  ·rw [eH hk (by omega)];exact .inr rfl
theorem wT (T:aR) (n:bY):(fT T n).2.fresh=T.fresh:=by
 cases hk:T.ids (mQ n) with
 | some i=>rw [qH hk]
 |
  none=>
  by_cases hl:16384<=T.nodes.length
  ·rw [qI hk hl]
  ·rw [eH hk (by omega)];rfl
structure aHu (T T':aR) (c:Nat):Prop where
 g:iB T'
 len:T.nodes.length<=T'.nodes.length
 fr:T'.fresh<=T.fresh+c
theorem aHu.refl {T:aR} (h:iB T):aHu T T 0:=⟨h,aB,by omega⟩
theorem iB.make {T:aR} (h:iB T) (op:Int) {nm:ByteArray} {val:cE} (args:List Int) (h1:val.num.length<=1000000) (h2:val.den.length<=1000000) (h3:nm.size<=1000000):aHu T (cD T op nm val args).2 0:=by
 have hok:=h.ok.make (op:=op) (nm:=nm) (args:=args) h1 h2;unfold cD at hok ⊢
 split
 ·exact .refl h
 ·rename_i hb
  rw [if_neg hb] at hok
  split
  ·exact .refl h
  ·rename_i hv
   rw [if_neg hv] at hok
   split
   ·exact .refl h
   ·rename_i ha
    rw [if_neg ha] at hok
    split
    ·rename_i hs
     rw [if_pos hs] at hok;have hl:args.length<=64:=by unfold jN at hb;simp at hb;omega
     have hg:aDg ⟨op,nm,val,args,(aX T op nm args).1⟩:=by
      refine⟨h1,h3,hl,fun e=>?_,fun e=>?_,h2⟩
      ·change op=11 at e;subst e;unfold aX at hs;simp at hs;exact hs
      ·change op=10 at e;subst e;unfold aX aFh at hs;simp at hs
       split at hs
       ·rename_i h4;exact h4.1
       ·cases hs
     rcases aE2 T ⟨op,nm,val,args,(aX T op nm args).1⟩ with e | e
     ·exact⟨⟨hok,fun x hx=>by rw [e] at hx;exact h.ng x hx⟩,by rw [e];exact aB,by rw [wT];omega⟩
     ·refine⟨⟨hok,fun x hx=>?_⟩,by rw [e,List.length_append];omega,by rw [wT];omega⟩;rw [e] at hx;rcases List.mem_append.1 hx with hx | hx
      ·exact h.ng x hx
      ·obtain rfl:=List.mem_singleton.1 hx;exact hg
    ·exact .refl h
end
def gL (F:Int->Option bP) (args:List Int):List bP:=args.map fun a=>(F a).getD bZ
def aAz (F:Int->Option bP) (x:Int) (v:bP):Int->Option bP:=fun y=>if y=x then some v else F y
def mN (m:iF) (T:aR):List Int->(Int->Option bP)->(Int->Option bP) × Int
 | [],F=>(F,0)
 | x :: l,F=>if (bG m (nodeAt T x) (gL F (nodeAt T x).args)).2=0 then mN m T l (aAz F x (bG m (nodeAt T x) (gL F (nodeAt T x).args)).1) else(F,(bG m (nodeAt T x) (gL F (nodeAt T x).args)).2)
def rA (r:(Int->Option bP) × Int) (i:Int):bP × Int:=if r.2=0 then((r.1 i).getD bZ,0) else(bZ,r.2)
def iY (m:iF) (T:aR) (i:Int):bP × Int:=if iD T i then rA (mN m T (jB T [i]).2 fun _=>none) i else(bZ,1)
theorem dE {m:iF} {T:aR} {x:Int} {l:List Int} {F:Int->Option bP} {r:bP × Int} (h:bG m (nodeAt T x) (gL F (nodeAt T x).args)=r):mN m T (x :: l) F=if r.2=0 then mN m T l (aAz F x r.1) else(F,r.2):=by
 subst h;rfl
def ArT (T:aR):Prop:=∀x∈T.nodes,uM x.op x.args.length
theorem oH:cZ bZ:=⟨by decide,by decide⟩
theorem oI {l:List bP} (h:∀v∈l,cZ v) (k:Nat):cZ (bF l k):=by
 unfold bF;rw [List.getD_eq_getElem?_getD];cases hk:l[k]? with
 | none=>exact oH
 | some v=>exact h v (List.mem_of_getElem? hk)
theorem yK {t:mU} (h:rU t) (l:List bP):cZ (dZ t l):=by
 unfold dZ
 split
 ·rename_i r hr
  exact(h.1 r (List.mem_of_find?_eq_some hr)).2.1
 ·exact h.2.1
theorem aCr {r:cE} (h:gB r):gB (jS r):=by
 unfold jS
 split
 ·first | exact mK _ _ | exact jW | exact h | exact⟨h.1,h.2⟩
 ·first | exact mK _ _ | exact jW | exact h | exact⟨h.1,h.2⟩
theorem sJ (op:Int) {a b:cE} (h:gB a):gB (qW op a b).1:=by
 unfold qW
 split
 ·exact pW _ _
 ·split
  ·exact uG _ _
  ·split
   ·exact mK _ _
   ·split
    ·exact uH _ _
    ·exact h
theorem oW (op:Int):∀(l:List bP) {a:cE},gB a->gB (eA op a l).1
 | [],_,h=>h
 |
  v :: l,a,h=>by
  unfold eA
  split
  ·exact oW op l (sJ op h)
  ·exact sJ op h
theorem aA0 {m:iF} (hm:iK m) {x:bY} (hx:aDg x) {l:List bP} (hl:∀v∈l,cZ v):cZ (bG m x l).1:=by
 have ht:∀b,cZ (eJ b):=fun b=>⟨aV,aV⟩
 unfold bG
 split
 ·exact ht _
 ·split
  ·exact ht _
  ·split
   ·exact ht _
   ·split
    ·exact ht _
    ·split
     ·split
      ·exact oI hl 1
      ·exact oI hl 2
     ·split
      ·exact⟨hx.num,hx.den⟩
      ·split
       ·split
        ·exact oH
        ·rename_i t ht
         exact yK (hm.1 t (List.mem_of_find?_eq_some ht)) l
       ·show gB (kC x.op l).1;unfold kC
        split
        ·exact aCr (oI hl 0)
        ·exact oW _ _ (oI hl 0)
def Ev (S:Nat->Prop) (w:World) (dm q:Nat):Prop:=(q<w.heap.size/\S q)\/(w.heap.size<=q/\q≠dm)
def yL (S:Nat->Prop) (W:World) (G:Int->Option Value) (F:Int->Option bP):Prop:=
 ∀x,(F x=none/\G x=none)\/∃v a c b d,F x=some v/\G x=some (jV v a c b d)/\dI S W v a c b d/\cZ v
structure EvS (S:Nat->Prop) (w:World) (dm:Nat) (F:Int->Option bP) (k:Nat) (W:World):Prop where
 b:Below w.heap.size w W
 dl:w.heap.size<=dm
 mp:∃c G,c<=k/\lH Tryz.prog 3 dm c G W/\yL (Ev S w dm) W G F
section
variable {S : Nat -> Prop} {w W W' : World} {dm k : Nat} {F : Int -> Option bP}
theorem EvS.dlt (h:EvS S w dm F k W):dm<W.heap.size:=by obtain ⟨c,G,_,h,_⟩:=h.mp;exact h.lt
theorem yL.keep {S:Nat->Prop} {G:Int->Option Value} (h:yL S W G F) (hk:∀q,q<W.heap.size->S q->W'.heap[q]? = W.heap[q]?) (hs:W.heap.size<=W'.heap.size):yL S W' G F:=fun x=>by
 rcases h x with h | ⟨v,a,c,b,d,h1,h2,h3,h4⟩
 ·exact .inl h
 ·exact .inr ⟨v,a,c,b,d,h1,h2,h3.keep hk hs,h4⟩
theorem EvS.below (h:EvS S w dm F k W) (hb:Below W.heap.size W W'):EvS S w dm F k W':=by
 obtain ⟨c,G,h1,h2,h3⟩:=h.mp;exact⟨h.b.trans (hb.mono h.b.size),h.dl,c,G,h1,h2.same (hb.block _ h2.lt),h3.keep (fun q hq _=>hb.block q hq) hb.size⟩
theorem EvS.start (hb:Below w.heap.size w W) (hd:w.heap.size<=dm) (hm:lH Tryz.prog 3 dm 0 (fun _=>none) W):EvS S w dm (fun _=>none) 0 W:=
 ⟨hb,hd,0,_,aB,hm,fun _=>.inl ⟨rfl,rfl⟩⟩
theorem aA1 (w:World):(zeroValue 64).run Tryz.prog w = .ok (.agg #[.int .i64 0,.bool false,.bool false,.slice none 0 0,.slice none 0 0,.int .i64 0]) w:=by kernel_rfl
theorem EvS.look (h:EvS S w dm F k W) {x:Int} (hx:fG x):∃a c b d,(Instr.lookup 149 (.map (some dm)) (.int .i64 x) false).run Tryz.prog W = .ok (jV ((F x).getD bZ) a c b d) W/\dI (Ev S w dm) W ((F x).getD bZ) a c b d/\cZ ((F x).getD bZ):=by
 obtain ⟨c,G,h1,h2,h3⟩:=h.mp;have hl:=h2.look Tryz.underlying3 Tryz.underlying149 (aA1 W) hx;rcases h3 x with ⟨e1,e2⟩ | ⟨v,a,c,b,d,e1,e2,e3,e4⟩
 ·rw [e2] at hl;rw [e1];exact⟨none,0,none,0,hl,⟨⟨by decide,by decide⟩,⟨by decide,by decide⟩,.nil _ _ _ _,⟨aB,aV⟩,.nil _ _ _ _,⟨aB,aV⟩⟩,oH⟩
 ·rw [e2] at hl;rw [e1];exact⟨a,c,b,d,hl,e3,e4⟩
theorem EvS.store (h:EvS S w dm F k W) (hk:k<maxLen) {x:Int} (hx:fG x) {v:bP} {a b:Option Addr} {c d:Nat} (V:dI (Ev S w dm) W v a c b d) (hv:cZ v) :
  ∃W',(Instr.mapUpdate 149 (.map (some dm)) (.int .i64 x) (jV v a c b d)).run Tryz.prog W = .ok () W'/\EvS S w dm (aAz F x v) (k+1) W'/\W.mapTurned W' dm:=by
 obtain ⟨n,G,h1,h2,h3⟩:=h.mp;obtain ⟨W',hr,hm,ht⟩:=h2.store Tryz.underlying3 Tryz.underlying149 (by omega) hx (jV v a c b d);have hg:=ht.grown;have hne:∀q,q<W.heap.size->q≠dm->W'.heap[q]? = W.heap[q]?:=fun q hq e=>hg.block q hq fun z=>e (by injection z)
 have hk2:∀q,q<W.heap.size->Ev S w dm q->W'.heap[q]? = W.heap[q]?:=fun q hq hE=>hne q hq (hE.elim (fun z=>by have:=h.dl;omega) fun z=>z.2)
 refine⟨W',hr,⟨⟨hg.os.trans h.b.os,hg.tape.trans h.b.tape,hg.output.trans h.b.output,aK h.b.size hg.size,fun q hq=>(hne q (bN hq h.b.size) (by have:=h.dl;omega)).trans (h.b.block q hq)⟩,h.dl,_,_,?_,hm,fun y=>?_⟩,ht⟩
 ·split <;> omega
 ·by_cases hy:y=x
  ·subst hy;rw [upd_same];exact .inr ⟨v,a,c,b,d,by unfold aAz;rw [if_pos rfl],rfl,V.keep hk2 hg.size,hv⟩
  ·rw [wH G _ hy];have e:aAz F x v y=F y:=by unfold aAz;rw [if_neg hy]
   rw [e];exact h3.keep hk2 hg.size y
end
def EvP (r:bP × Int) (w:World) (e:Ending) (w':World):Prop:=∃a c b d,e = .returned (.tuple #[jV r.1 a c b d,.int .i64 r.2])/\dI (dM w.heap.size w') w' r.1 a c b d/\Below w.heap.size w w'
def kH (q:Rat):cE:=⟨decide (q.num<0),aF q.num.natAbs,aF q.den⟩
def oJ (neg:Bool) (n:Nat):Int:=if neg then -(n:Int) else n
theorem aJi (neg:Bool) (n:Nat):(oJ neg n).natAbs=n:=by unfold oJ;split <;> simp
theorem aA2 {neg:Bool} {n d:Nat} (hd:0<d):qM neg n d=kH (mkRat (oJ neg n) d):=by
 have e:mkRat (oJ neg n) d=Rat.normalize (oJ neg n) d (by omega):=by
  unfold mkRat;rw [dif_neg (by omega)]
 rw [e,Rat.normalize_eq];unfold qM kH;simp only [aJi];have hg:0<Nat.gcd n d:=Nat.gcd_pos_of_pos_right _ hd;have h1:(oJ neg n / ((Nat.gcd n d:Nat):Int)).natAbs=n / Nat.gcd n d:=by
  unfold oJ
  split
  ·rw [Int.neg_ediv_of_dvd (Int.ofNat_dvd.2 (Nat.gcd_dvd_left n d))];rw [<-Int.natCast_ediv,Int.natAbs_neg];exact Int.natAbs_natCast _
  ·rw [<-Int.natCast_ediv];exact Int.natAbs_natCast _
 have h2:decide (oJ neg n / ((Nat.gcd n d:Nat):Int)<0)=(neg && decide (0<n / Nat.gcd n d)):=by
  unfold oJ;cases neg with
  |
   false=>
   rw [if_neg (by decide),<-Int.natCast_ediv,Bool.false_and];exact decide_eq_false (by omega)
  |
   true=>
   rw [if_pos rfl,Int.neg_ediv_of_dvd (Int.ofNat_dvd.2 (Nat.gcd_dvd_left n d)),<-Int.natCast_ediv,Bool.true_and];exact decide_eq_decide.2 (by omega)
 rw [h1,h2]
def vJ (q:Rat):cE × Int:=if xW (kH q) then(iI,4) else(kH q,0)
theorem nO {neg:Bool} {n d:Nat} (hd:0<d):dV neg n d=vJ (mkRat (oJ neg n) d):=by
 unfold dV vJ;rw [aA2 hd]
def sY (q:Rat):Prop:=xW (kH q)=false
theorem mM {q:Rat} (h:sY q):IsR (kH q) q.num.natAbs q.den:=by
 unfold sY xW at h;simp only [Bool.or_eq_false_iff,decide_eq_false_iff_not] at h;exact⟨rfl,rfl,by omega,by omega,q.den_pos,q.reduced,fun h=>by unfold kH at h;simp at h;omega⟩
theorem gH {q:Rat} (h:sY q):dN (kH q)=true:=(mM h).valid
theorem tE (q:Rat):oJ (decide (q.num<0)) q.num.natAbs=q.num:=by
 unfold oJ;by_cases h:q.num<0
 ·rw [decide_eq_true h,if_pos rfl];omega
 ·rw [decide_eq_false h,if_neg (by decide)];omega
def zI (z:ZD):Int:=oJ z.neg z.n
theorem rB (neg:Bool) (n:Nat):zI (jA neg n)=oJ neg n:=by
 unfold zI jA oJ;cases neg with
 | false=>rfl
 |
  true=>
  rcases Nat.eq_zero_or_pos n with rfl | h
  ·rfl
  ·simp [h]
theorem aJj (a b:ZD):zI (eG a b)=zI a+zI b:=by
 obtain ⟨s,m⟩:=a;obtain ⟨t,n⟩:=b;unfold eG;dsimp only;cases s <;> cases t
 ·rw [if_pos rfl,rB];simp [zI,oJ]
 ·rw [if_neg (by decide)];split <;> rw [rB] <;> simp [zI,oJ] <;> omega
 ·rw [if_neg (by decide)];split <;> rw [rB] <;> simp [zI,oJ] <;> omega
 ·rw [if_pos rfl,rB];simp [zI,oJ];omega
theorem rC (s t:Bool) (m n:Nat):oJ (s != t) (m * n)=oJ s m * oJ t n:=by
 cases s <;> cases t <;> simp [oJ,Int.natCast_mul,Int.neg_mul,Int.mul_neg]
theorem aA3 (a b:ZD):zI (aT a b)=zI a * zI b:=by
 unfold aT;rw [rB,rC];rfl
theorem aJk {q:Rat}:aBu (kH q)=⟨decide (q.num<0),q.num.natAbs⟩:=by unfold aBu kH;rw [aU]
theorem aJl {q:Rat}:aBv (kH q)=⟨false,q.den⟩:=by unfold aBv kH;rw [aU]
theorem yM (q:Rat):zI (aBu (kH q))=q.num:=by rw [aJk];exact tE q
theorem yN (q:Rat):zI (aBv (kH q))=q.den:=by rw [aJl];rfl
theorem rD (q:Rat):mkRat q.num q.den=q:=Rat.mkRat_self q
theorem uO {a b:Rat} (ha:sY a) (hb:sY b):jZ (kH a) (kH b)=vJ (a+b):=by
 unfold jZ;rw [gH ha,gH hb];simp only [Bool.and_self,if_true];have h1:=(mM ha).val.2;have h2:=(mM hb).val.2;rw [h1,h2,nO (Nat.mul_pos a.den_pos b.den_pos)];have e:oJ (aD0 (kH a) (kH b)).neg (aD0 (kH a) (kH b)).n=a.num * b.den+b.num * a.den:=by
  show zI (aD0 (kH a) (kH b))=_;unfold aD0;rw [aJj,aA3,aA3,yM,yM,yN,yN]
 rw [e,<-Rat.mkRat_add_mkRat _ _ (Nat.ne_of_gt a.den_pos) (Nat.ne_of_gt b.den_pos),rD,rD]
theorem aA4 {a:Rat} (ha:sY a):jS (kH a)=kH (-a):=by
 unfold jS;rw [gH ha,if_pos rfl];unfold kH;simp only [Rat.neg_num,Rat.neg_den,Int.natAbs_neg]
 congr 1
 have hl:decide (0<(aF a.num.natAbs).length)=decide (0<a.num.natAbs):=decide_eq_decide.2 aZ;rw [hl];by_cases h:a.num<0
 ·rw [decide_eq_true h];simp;omega
 ·rw [decide_eq_false h];show(true && decide _)=_;rw [Bool.true_and];exact decide_eq_decide.2 (by omega)
theorem aJm {a:Rat} (ha:sY a):sY (-a):=by
 unfold sY xW kH at *
 simpa only [Rat.neg_num,Rat.neg_den,Int.natAbs_neg] using ha
theorem aHv {a b:Rat} (ha:sY a) (hb:sY b):pM (kH a) (kH b)=vJ (a - b):=by
 unfold pM;rw [gH hb,if_pos rfl,aA4 hb,uO ha (aJm hb),Rat.sub_eq_add_neg]
theorem aHw {a b:Rat} (ha:sY a) (hb:sY b):nA (kH a) (kH b)=vJ (a * b):=by
 unfold nA;rw [gH ha,gH hb];simp only [Bool.and_self,if_true];obtain ⟨h1,h2⟩:=(mM ha).val;obtain ⟨h3,h4⟩:=(mM hb).val;rw [h1,h2,h3,h4,nO (Nat.mul_pos a.den_pos b.den_pos)];show vJ (mkRat (oJ (decide (a.num<0) != decide (b.num<0)) _) _)=_;rw [rC,tE,tE,<-Rat.mkRat_mul_mkRat,rD,rD]
theorem aJn {a:Rat}:decide ((kH a).num.length=0)=decide (a=0):=by
 unfold kH;dsimp only;apply decide_eq_decide.2;rw [gP,Int.natAbs_eq_zero,Rat.num_eq_zero]
theorem aA5 {a b:Rat} (ha:sY a) (hb:sY b) (h0:b≠0):lO (kH a) (kH b)=vJ (a / b):=by
 unfold lO;rw [gH ha,gH hb,aJn,decide_eq_false h0];simp only [Bool.not_false,Bool.and_self,if_true];obtain ⟨h1,h2⟩:=(mM ha).val;obtain ⟨h3,h4⟩:=(mM hb).val;have hb0:b.num≠0:=fun e=>h0 (Rat.num_eq_zero.1 e)
 have hp:0<b.num.natAbs:=by omega
 rw [h1,h2,h3,h4,nO (Nat.mul_pos a.den_pos hp)];show vJ (mkRat (oJ (decide (a.num<0) != decide (b.num<0)) _) _)=_
 congr 1
 have e1:oJ (decide (a.num<0) != decide (b.num<0)) (a.num.natAbs * b.den)=a.num * oJ (decide (b.num<0)) b.den:=by rw [rC,tE]
 have e2:mkRat (oJ (decide (b.num<0)) b.den) b.num.natAbs=b⁻¹:=by
  have hb:=Rat.mkRat_self b;rw [Rat.inv_def];rw [Rat.divInt_eq_div,Rat.mkRat_eq_div];unfold oJ;by_cases h:b.num<0
  ·rw [decide_eq_true h,if_pos rfl];have h2:(b.num:Rat) = -((b.num.natAbs:Nat):Rat):=by rw [<-Rat.intCast_natCast,<-Rat.intCast_neg,show -((b.num.natAbs:Nat):Int)=b.num by omega]
   rw [h2,Rat.intCast_neg,Rat.intCast_natCast];generalize ((b.num.natAbs:Nat):Rat)=u;generalize ((b.den:Nat):Rat)=v;rw [Rat.div_def,Rat.div_def];grind
  ·rw [decide_eq_false h,if_neg (by decide)];have h2:(b.num:Rat)=((b.num.natAbs:Nat):Rat):=by rw [<-Rat.intCast_natCast,show((b.num.natAbs:Nat):Int)=b.num by omega]
   rw [h2]
 rw [e1,<-Rat.mkRat_mul_mkRat,rD,e2,Rat.div_def]
def nP (x y:Int):Int:=if x<y then -1 else if x=y then 0 else 1
def aJo (a b:Rat):Int:=if a<b then -1 else if a=b then 0 else 1
theorem aA6 (s t:Bool) (m n:Nat):kS (jA s m) (jA t n)=nP (oJ s m) (oJ t n):=by
 unfold kS jA dU nP oJ;cases s <;> cases t <;> simp <;> (try split) <;> (repeat' split) <;> omega
theorem yO (a b c d:ZD):kS (aT a b) (aT c d)=nP (zI a * zI b) (zI c * zI d):=by
 unfold aT;rw [aA6,rC,rC];rfl
theorem aCs (a b:Rat):a=b↔a.num * b.den=b.num * a.den:=by
 constructor
 ·rintro rfl;rfl
 ·intro h;have h1:¬a<b:=by rw [Rat.lt_iff];omega
  have h2:¬b<a:=by rw [Rat.lt_iff];omega
  exact Rat.le_antisymm (Rat.not_lt.1 h2) (Rat.not_lt.1 h1)
theorem aHx {a b:Rat} (ha:sY a) (hb:sY b):kU (kH a) (kH b)=aJo a b:=by
 unfold kU;rw [gH ha,gH hb];simp only [Bool.and_self,if_true];rw [yO,yM,yM,yN,yN];unfold nP aJo;simp only [Rat.lt_iff,aCs a b]
theorem aDh {a b:Rat} (h:kH a=kH b):a=b:=by
 unfold kH at h;injection h with h1 h2 h3
 have e1:=vV h2;have e2:=vV h3;have h1':=decide_eq_decide.1 h1;refine Rat.ext ?_ e2;omega
theorem aK8 {q:Rat} (h1:q.num.natAbs<aO) (h2:q.den<aO):sY q:=by
 unfold sY xW kH;have a:=cT (n:=q.num.natAbs) (k:=1) (by rw [Nat.pow_one];exact h1);have b:=cT (n:=q.den) (k:=1) (by rw [Nat.pow_one];exact h2);simp only [Bool.or_eq_false_iff,decide_eq_false_iff_not];exact⟨by omega,by omega⟩
theorem aMg (n:Int) {d:Nat} (hd:0<d):(mkRat n d).num.natAbs<=n.natAbs/\(mkRat n d).den<=d:=by
 have e:mkRat n d=Rat.normalize n d (by omega):=by
  unfold mkRat;rw [dif_neg (by omega)]
 rw [e,Rat.normalize_eq];dsimp only;refine⟨?_,Nat.div_le_self _ _⟩;have hdv:((Nat.gcd n.natAbs d:Nat):Int) ∣ n:=Int.ofNat_dvd_left.2 (Nat.gcd_dvd_left _ _);rw [Int.natAbs_ediv_of_dvd hdv];exact Nat.div_le_self _ _
theorem aK9 {n:Int} {d:Nat} (hd:0<d) (h1:n.natAbs<aO) (h2:d<aO):sY (mkRat n d):=by
 obtain ⟨a,b⟩:=aMg n hd;exact aK8 (by omega) (by omega)
theorem jK {q:Rat} (h:sY q):vJ q=(kH q,0):=by unfold vJ;rw [show xW (kH q)=false from h];rfl
abbrev fK (n:Int) (d:Nat):Rat:=mkRat n d
theorem fL (n:Int) (d:Nat):fK n d=(n:Rat) / (d:Rat):=Rat.mkRat_eq_div n d
theorem aDi {m n:Int} {d:Nat} (hd:0<d):fK m d=fK n d↔m=n:=by
 rw [Rat.mkRat_eq_iff (by omega) (by omega)];constructor
 ·intro h;exact Int.eq_of_mul_eq_mul_right (by omega) h
 ·rintro rfl;rfl
theorem aDj {d:Nat} (hd:0<d):(0:Rat)<(d:Rat):=by
 have h:=Rat.natCast_lt_natCast (a:=0) (b:=d);exact h.2 hd
theorem aJp {m n:Int} {d:Nat} (hd:0<d):fK m d<fK n d↔m<n:=by
 rw [fL,fL,Rat.div_lt_iff (aDj hd),<-Rat.intCast_lt_intCast (a:=m)];have h:(n:Rat) / (d:Rat) * (d:Rat)=n:=by
  have:=aDj hd;have h0:(d:Rat)≠0:=fun e=>by rw [e] at this;exact Rat.lt_irrefl this
  exact Rat.div_mul_cancel h0
 rw [h]
theorem aJq {m n:Int} {d:Nat} (hd:0<d):aJo (fK m d) (fK n d)=nP m n:=by
 unfold aJo nP;simp only [aJp hd,aDi hd]
theorem rW (n:Int):fK n 2=n / 2:=by rw [fL];rfl
theorem aHy (x y:Int):fK x 2+fK y 2=fK (x+y) 2:=by rw [rW,rW,rW,Rat.intCast_add];grind
theorem aHz (x y:Int):fK x 2 - fK y 2=fK (x - y) 2:=by rw [rW,rW,rW,Rat.intCast_sub];grind
theorem aH0 (x:Int) (d:Nat):-fK x d=fK (-x) d:=by rw [fL,fL,Rat.intCast_neg,Rat.div_def,Rat.div_def,Rat.neg_mul]
theorem aH1 (x:Int):fK (-2) 3 * fK x 2=fK (-x) 3:=by
 rw [fL,fL,fL,Rat.intCast_neg];show(-2:Rat) / 3 * (x / 2) = -x / 3;generalize (x:Rat)=q
 grind
theorem aH2 (x:Int):fK x 2 / fK (-2) 3 / fK (-2) 3=fK (9 * x) 8:=by
 rw [fL,fL,fL,Rat.intCast_mul];show(x:Rat) / 2 / ((-2:Rat) / 3) / ((-2:Rat) / 3)=(9:Rat) * x / 8;generalize (x:Rat)=q
 grind
theorem iZ {n d:Int} (hd:0<d):gC n d=kH (fK n d.natAbs):=by
 unfold gC;rw [aA2 (by omega)]
 congr 1
 show mkRat _ _=mkRat _ _
 congr 1
 unfold oJ;by_cases h:n<0
 ·rw [decide_eq_true h,if_pos rfl];omega
 ·rw [decide_eq_false h,if_neg (by decide)];omega
theorem oX {n d:Int} (hd:0<d) (h1:-1000000<=n/\n<=1000000) (h2:d<=1000000):sY (fK n d.natAbs):=aK9 (by omega) (by rw [show aO=18446744073709551616 from rfl];omega) (by rw [show aO=18446744073709551616 from rfl];omega)
theorem uP (v:bP):iQ v v=true:=by
 unfold iQ;rw [kV.2 rfl];simp
theorem aCt {q:Rat} (h:sY q):gB (kH q):=by
 have h2:=(mM h).nl;have h3:=(mM h).dl;exact⟨by omega,by omega⟩
theorem cC {n d:Int} (hd:0<d) (h1:-1000000<=n/\n<=1000000) (h2:d<=1000000):cZ (aH n d):=by
 have:=aCt (oX hd h1 h2);rw [<-iZ hd] at this;exact this
def r11:cE:=⟨false,[1],[1]⟩
def aMh:bY:=⟨11,⟨#[]⟩,r11,[],1⟩
def aLa:bY:=⟨13,⟨#[]⟩,dC,[0,1],1⟩
def aJr:bY:=⟨12,sf,dC,[2],1⟩
def B2:aR:=addN A1 aMh
def B3:aR:=addN B2 aLa
def B4:aR:=addN B3 aJr
theorem aH3:cD A1 11 ⟨#[]⟩ r11 []=((1,0),B2):=(fE (s:=1) (by decide +kernel) (by decide +kernel) rfl rfl).trans (eH (by decide +kernel) (by decide +kernel))
theorem aH4:cD B2 13 ⟨#[]⟩ dC [0,1]=((2,0),B3):=(fE (s:=1) (by decide +kernel) (by decide +kernel) (by decide +kernel) (by decide +kernel)).trans (eH (by decide +kernel) (by decide +kernel))
theorem aLb:aX B3 12 sf [2]=(1,true):=by
 show gF B3 sf [2]=_;rw [mL]
 decide +kernel
theorem aMi:cD B3 12 sf dC [2]=((3,0),B4):=(fE (by decide +kernel) (by decide +kernel) (by decide +kernel) aLb).trans (eH (by decide +kernel) (by decide +kernel))
theorem aH5:gC 1 1=r11:=by
 show(⟨_,aF (1 / Nat.gcd 1 1),aF (1 / Nat.gcd 1 1)⟩:cE)=_;rw [show 1 / Nat.gcd 1 1=1 from by decide,gZ];rfl
def aLc:mU:=⟨sx,[],aH 2 1⟩
def hM:mU:=⟨sf,[⟨[aH 3 1],aH 7 1⟩],aH 0 1⟩
def rF:iF:=[aLc,hM]
theorem uQ (s:ByteArray):nQ s s=true:=by unfold nQ;simp
theorem aNk:nQ sx sx=true:=uQ _
theorem aNl:nQ sx sf=false:=by rw [nN];decide +kernel
theorem aNm:nQ sf sf=true:=uQ _
theorem aLd:eC rF sx=some aLc:=by
 unfold eC rF;rw [List.find?_cons_of_pos (by exact aNk)]
theorem aH6:eC rF sf=some hM:=by
 unfold eC rF;rw [List.find?_cons_of_neg (by show ¬nQ sx sf=true;rw [aNl];decide),List.find?_cons_of_pos (by exact aNm)]
theorem aJs:(jB B4 [3]).2 = [0,1,2,3]:=by decide +kernel
theorem aLe:jZ (aH 2 1).num r11=(gC 3 1,0):=by
 rw [<-aH5];show jZ (gC 2 1) (gC 1 1)=_;rw [iZ (by decide),iZ (by decide),iZ (by decide),uO (oX (by decide) (by decide) (by decide)) (oX (by decide) (by decide) (by decide))];rw [show fK 2 (Int.natAbs 1)+fK 1 (Int.natAbs 1)=fK 3 (Int.natAbs 1) from by decide +kernel];exact jK (oX (d:=1) (by decide) (by decide) (by decide))
theorem aJt:dZ hM [aH 3 1]=aH 7 1:=by
 unfold dZ hM;dsimp only;rw [List.find?_cons_of_pos (by show jU [aH 3 1] [aH 3 1]=true;unfold jU;rw [uP];rfl)]
theorem aJu:dZ hM [aH 1 1]=aH 0 1:=by
 unfold dZ hM;dsimp only;have h:iQ (aH 3 1) (aH 1 1)=false:=by
  have:iE (gC 3 1) (gC 1 1)=false:=by
   cases h:iE (gC 3 1) (gC 1 1) with
   | false=>rfl
   |
    true=>
    have:=kV.1 h;rw [iZ (by decide),iZ (by decide)] at this;have:=aDh this;exact absurd this (by decide +kernel)
  show(decide ((1:Int)=1) && (if (1:Int)=0 then _ else if (1:Int)=1 then iE (gC 3 1) (gC 1 1) else _))=false;rw [this];rfl
 rw [List.find?_cons_of_neg (by show ¬jU [aH 3 1] [aH 1 1]=true;unfold jU;rw [h];decide)];rfl
theorem aLf:iY rF B4 3=(aH 7 1,0):=by
 have e0:∀F,bG rF (nodeAt B4 0) (gL F (nodeAt B4 0).args)=(aH 2 1,0):=fun F=>by
  show bG rF nX (gL F [])=_;rw [qY (x:=nX) rfl];show(if (eC rF sx).isSome=true then(dZ ((eC rF sx).getD mJ) _,(0:Int)) else _)=_;rw [aLd];rfl
 have e1:∀F,bG rF (nodeAt B4 1) (gL F (nodeAt B4 1).args)=(⟨1,false,r11,0⟩,0):=fun F=>rfl
 have e2:∀F,F 0=some (aH 2 1)->F 1=some ⟨1,false,r11,0⟩->bG rF (nodeAt B4 2) (gL F (nodeAt B4 2).args)=(aH 3 1,0):=fun F h0 h1=>by
  show bG rF aLa (gL F [0,1])=_;unfold gL;rw [List.map_cons,List.map_cons,h0,h1];show((⟨1,false,(eA 13 (aH 2 1).num [⟨1,false,r11,0⟩]).1,0⟩:bP),(eA 13 (aH 2 1).num [⟨1,false,r11,0⟩]).2)=_;have:eA 13 (aH 2 1).num [⟨1,false,r11,0⟩]=(gC 3 1,0):=by
   show(if (jZ (aH 2 1).num r11).2=0 then((jZ (aH 2 1).num r11).1,(0:Int)) else jZ (aH 2 1).num r11)=_;rw [aLe];rfl
  rw [this];rfl
 have e3:∀F,F 2=some (aH 3 1)->bG rF (nodeAt B4 3) (gL F (nodeAt B4 3).args)=(aH 7 1,0):=fun F h=>by
  show bG rF aJr (gL F [2])=_;unfold gL;rw [List.map_cons,h,List.map_nil,qY (x:=aJr) rfl];show(if (eC rF sf).isSome=true then(dZ ((eC rF sf).getD mJ) [aH 3 1],(0:Int)) else _)=_;rw [aH6];show(dZ hM [aH 3 1],(0:Int))=_;rw [aJt]
 unfold iY;rw [if_pos (by decide),aJs,dE (e0 _),if_pos rfl,dE (e1 _),if_pos rfl,dE (e2 _ rfl rfl),if_pos rfl,dE (e3 _ rfl),if_pos rfl];rfl
theorem aLg:iY [] B4 0=(bZ,5):=by
 have e0:∀F,bG [] (nodeAt B4 0) (gL F (nodeAt B4 0).args)=(bZ,5):=fun F=>by
  show bG [] nX (gL F [])=_;rw [qY (x:=nX) rfl];rfl
 unfold iY;rw [if_pos (by decide),show(jB B4 [0]).2 = [0] from by decide +kernel,dE (e0 _),if_neg (by decide)];rfl
theorem aLh:iY rF B4 99=(bZ,1):=by
 unfold iY;rw [if_neg (by decide)]
theorem aLi:zeroV 1=aH 0 1:=by
 have:gC 0 1=yE:=by
  show(⟨_,aF (0 / Nat.gcd 0 1),aF (1 / Nat.gcd 0 1)⟩:cE)=_;rw [show 0 / Nat.gcd 0 1=0 from by decide,show 1 / Nat.gcd 0 1=1 from by decide,gZ,cB];rfl
 unfold aH;rw [this];rfl
theorem aJv:iQ (aH 1 2) ⟨3,false,dC,0⟩=false:=rfl
theorem oK:iK rF:=by
 refine⟨fun t ht=>?_,by decide⟩;have h0:=cC (n:=0) (d:=1) (by decide) (by decide) (by decide);have h2:=cC (n:=2) (d:=1) (by decide) (by decide) (by decide);have h3:=cC (n:=3) (d:=1) (by decide) (by decide) (by decide);have h7:=cC (n:=7) (d:=1) (by decide) (by decide) (by decide);rcases List.mem_cons.1 ht with rfl | ht
 ·exact⟨fun r hr=>(by cases hr),h2,by decide⟩
 ·obtain rfl:=List.mem_singleton.1 ht;refine⟨fun r hr=>?_,h0,by decide⟩;obtain rfl:=List.mem_singleton.1 hr;exact⟨fun v hv=>by obtain rfl:=List.mem_singleton.1 hv;exact h3,h7,by decide⟩
end Go.Proofs.YtgoojkiccdjplaaGreatDoor
