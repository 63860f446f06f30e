/-
  Parts of this claim's texts, one behind the other: ZG ZH ZI ZJ ZP UA FN FQ FV CE. No condition.
-/
import Derived.Test.YtgoojkiccdjplaaGreatDoorN22
import Derived.Test.YtgoojkiccdjplaaGreatDoorN23
import Derived.Test.YtgoojkiccdjplaaGreatDoorN13
import Derived.Test.YtgoojkiccdjplaaGreatDoorN7
import Derived.Test.YtgoojkiccdjplaaGreatDoorN20
import Derived.Test.YtgoojkiccdjplaaGreatDoorN14
set_option linter.unusedVariables false
set_option linter.unusedSimpArgs false
set_option maxRecDepth 100000
set_option maxHeartbeats 16000000
namespace Go.Proofs.YtgoojkiccdjplaaGreatDoor
open Go.RowKit Go.Sort Go.Lib
def sy:ByteArray:=⟨#[121]⟩
def sz:ByteArray:=⟨#[122]⟩
def sp:ByteArray:=⟨#[112]⟩
def sq:ByteArray:=⟨#[113]⟩
def sa:ByteArray:=⟨#[97]⟩
def sb:ByteArray:=⟨#[98]⟩
def sh:ByteArray:=⟨#[104]⟩
def declL:List FunD:=[⟨sx,[],1⟩,⟨sy,[],1⟩,⟨sz,[],1⟩,⟨sp,[],0⟩,⟨sq,[],0⟩,⟨sa,[],2⟩,⟨sb,[],2⟩,⟨sf,[1],1⟩,⟨sg,[2,1],2⟩,⟨sh,[2],0⟩]
def T7 (k:Nat):TabD:=⟨[sU],declL.take k,[]⟩
theorem findF_data (T:TabD) (s:ByteArray):findF T s=T.funs.find? fun f=>f.name.data.toList == s.data.toList:=by
 unfold findF
 congr 1
 funext f
 exact eqS_data f.name s
theorem err7:∀k:Fin 10,errFun (T7 k.val) (declL.getD k.val noFun)=0:=by
 intro k
 unfold errFun mayFunB
 rw [mayB_data,findF_data]
 revert k
 decide +kernel
theorem add7 {k:Nat} (hk:k<10) (f:FunD) (hf:declL[k]? = some f):errFun (T7 k) f=0∧addFun (T7 k) f=T7 (k+1):=by
 have h:=err7 ⟨k,hk⟩
 have e:declL.getD k noFun=f:=by rw [List.getD_eq_getElem?_getD,hf];rfl
 dsimp only at h
 rw [e] at h
 refine⟨h,?_⟩
 unfold addFun
 rw [if_pos h]
 unfold T7
 have hl:k<declL.length:=(List.getElem?_eq_some_iff.1 hf).1
 rw [List.take_succ_eq_append_getElem hl]
 have e2:=List.getElem?_eq_getElem hl
 rw [hf] at e2
 injection e2 with e2
 rw [←e2]
theorem small7 (k:Nat):Small (T7 k):=by
 have hl:(T7 k).funs.length≤10:=by show(declL.take k).length≤10;rw [List.length_take];exact Nat.min_le_right _ _
 refine⟨by show(1:Nat)<_;decide,by omega,by show(0:Nat)<_;decide,fun f hf=>?_⟩
 have:f∈declL:=List.mem_of_mem_take hf
 simp [declL] at this
 rcases this with rfl | rfl | rfl | rfl | rfl | rfl | rfl | rfl | rfl | rfl <;> decide
theorem bad7:badSort ⟨[],[],[]⟩ sU=false:=bad_U
theorem SlR.ofCss {α:Type} {R:Rep α} {S:Nat→Prop} {w:World} {g:Nat} {t:TypeId} {f:Nat × Nat} {css:List (List Value)} {xs:List α} (hb:w.heap[g]? = some (.cells css.flatten.toArray t f)) (hS:S g) (hl:css.length=xs.length)
  (hr:∀(j:Nat) (x:α),xs[j]? = some x→∃cs,css[j]? = some cs∧R.rd S w x cs):SlR R S w (some ⟨g,0,none⟩) xs.length xs:=by
 refine⟨rfl,fun _=>⟨g,0,rfl,(Array.getElem?_eq_some_iff.1 hb).1,hS,fun j x hx=>?_⟩⟩
 obtain ⟨cs,h1,h2⟩:=hr j x hx
 refine⟨cs,h2,fun i u hu=>?_⟩
 have hk:∀cs∈css,cs.length=R.k:=fun cs hc=>by
  obtain ⟨j,hj,rfl⟩:=List.getElem_of_mem hc
  obtain ⟨cs',h3,h4⟩:=hr j _ (List.getElem?_eq_getElem (by omega:j<xs.length))
  rw [List.getElem?_eq_getElem hj] at h3
  injection h3 with h3
  rw [h3];exact R.len h4
 have:=flat_at hk h1 hu
 rw [Nat.zero_add,cell_p hb]
 simpa using this
def declC (g : Nat) : List (List Value) :=
  [[.string sx, .slice none 0 0, .int .i64 1], [.string sy, .slice none 0 0, .int .i64 1], [.string sz, .slice none 0 0, .int .i64 1], [.string sp, .slice none 0 0, .int .i64 0], [.string sq, .slice none 0 0, .int .i64 0], [.string sa, .slice none 0 0, .int .i64 2], [.string sb, .slice none 0 0, .int .i64 2],
   [.string sf, .slice (some ⟨g, 0, none⟩) 1 1, .int .i64 1], [.string sg, .slice (some ⟨g + 1, 0, none⟩) 2 2, .int .i64 2], [.string sh, .slice (some ⟨g + 2, 0, none⟩) 1 1, .int .i64 0]]
def DeclPost (w:World) (e:Ending) (w':World):Prop:=
 e = .returned (.slice (some ⟨w.heap.size+3,0,none⟩) 10 10)∧SlR repF (fun k=>w.heap.size≤k) w' (some ⟨w.heap.size+3,0,none⟩) 10 declL∧Below w.heap.size w w'∧w'.heap.size=w.heap.size+4
theorem decl_rd {S:Nat→Prop} {w:World} {g:Nat} (h1:SlR Rep.int S w (some ⟨g,0,none⟩) 1 [1]) (h2:SlR Rep.int S w (some ⟨g+1,0,none⟩) 2 [2,1]) (h3:SlR Rep.int S w (some ⟨g+2,0,none⟩) 1 [2]) :
  ∀(j:Nat) (x:FunD),declL[j]? = some x→∃cs,(declC g)[j]? = some cs∧repF.rd S w x cs:=by
 have o0:okI 0:=⟨by decide,by decide⟩
 have o1:okI 1:=⟨by decide,by decide⟩
 have o2:okI 2:=⟨by decide,by decide⟩
 have nl:=fun nm r (h:okI r)=>(repF_rd (S:=S) (w:=w) (f:=⟨nm,[],r⟩) (cs:=[.string nm,.slice none 0 0,.int .i64 r])).2 ⟨none,0,0,rfl,Nat.le_refl _,Nat.zero_le _,SlR.nil _ _ _ _,h⟩
 intro j x hx
 match j,hx with
 | 0,hx=>cases hx;exact⟨_,rfl,nl _ _ o1⟩
 | 1,hx=>cases hx;exact⟨_,rfl,nl _ _ o1⟩
 | 2,hx=>cases hx;exact⟨_,rfl,nl _ _ o1⟩
 | 3,hx=>cases hx;exact⟨_,rfl,nl _ _ o0⟩
 | 4,hx=>cases hx;exact⟨_,rfl,nl _ _ o0⟩
 | 5,hx=>cases hx;exact⟨_,rfl,nl _ _ o2⟩
 | 6,hx=>cases hx;exact⟨_,rfl,nl _ _ o2⟩
 | 7,hx=>cases hx;exact⟨_,rfl,repF_rd.2 ⟨_,1,1,rfl,Nat.le_refl _,by decide,h1,o1⟩⟩
 | 8,hx=>cases hx;exact⟨_,rfl,repF_rd.2 ⟨_,2,2,rfl,Nat.le_refl _,by decide,h2,o2⟩⟩
 | 9,hx=>cases hx;exact⟨_,rfl,repF_rd.2 ⟨_,1,1,rfl,Nat.le_refl _,by decide,h3,o0⟩⟩
 | j+10,hx=>simp [declL] at hx
structure Duo (w0:World) (p q:Nat) (T:TabD) (w:World):Prop where
 t:TabIs w0.heap.size p T w
 r:RefX (fun _=>False) w0.heap.size q T w
 ap:Apart w p q
 b:Below w0.heap.size w0 w
 e:Env w
section
variable {w0 w w1 w' : World} {p q : Nat} {T T' : TabD}
theorem Apart.symm (h:Apart w p q) (hp:∀j,ownOf w p j→j<w.heap.size):Apart w q p:=fun j hj=>⟨hp j hj,fun hq=>(h j hq).2 hj⟩
theorem Duo.all (h:Duo w0 p q T w) (hb:Below w.heap.size w w'):Duo w0 p q T w':=
 ⟨h.t.all hb,h.r.all hb,(h.ap.keep (.of_below h.t.plt hb)).2,h.b.trans (hb.mono h.b.size),h.e.all hb⟩
theorem Duo.step (h:Duo w0 p q T w) (h0:0<w0.heap.size) (s1:PStep p w w1):RefX (fun _=>False) w0.heap.size q T w1∧Apart w1 p q∧Below w0.heap.size w0 w1∧Env w1:=by
 have hk:=h.ap.keep s1
 have hb:=h.t.stepBelow s1
 exact⟨h.r.keep hk.1 (fun j hj=>(s1.block j hj.lt fun e=>h.t.ownI e hj).1) s1.size,hk.2,h.b.trans hb,h.e.below hb h0⟩
theorem Duo.step2 (h0:0<w0.heap.size) (t1:TabIs w0.heap.size p T' w1) (r1:RefX (fun _=>False) w0.heap.size q T w1) (ap:Apart w1 p q) (b:Below w0.heap.size w0 w1) (e:Env w1) (r2:RefX (fun _=>False) w0.heap.size q T' w') (s2:PStep q w1 w'):Duo w0 p q T' w':=by
 have ap':=ap.symm fun j hj=>(t1.ownB hj).2
 have hk:=ap'.keep s2
 have hb:=r1.stepBelow s2
 exact⟨t1.keep hk.1 (fun j hj=>(s2.block j hj.lt fun e=>r1.ownI e hj).1) s2.size,r2,hk.2.symm fun j hj=>(r2.ownB hj).2,b.trans hb,e.below hb h0⟩
def FreeS (S:Nat→Prop) (p q:Nat) (w:World):Prop:=∀k,S k→k<w.heap.size∧¬ownOf w p k∧¬ownOf w q k
theorem FreeS.stepP {S:Nat→Prop} (h:FreeS S p q w) (s:PStep p w w') (hq:w'.heap[q]? = w.heap[q]?):FreeS S p q w'∧∀k,S k→w'.heap[k]? = w.heap[k]?:=
 ⟨fun k hk=>⟨Nat.lt_of_lt_of_le (h k hk).1 s.size,(s.block k (h k hk).1 (h k hk).2.1).2,fun e=>(h k hk).2.2 ((ownOf.same hq).1 e)⟩,fun k hk=>(s.block k (h k hk).1 (h k hk).2.1).1⟩
theorem FreeS.stepQ {S:Nat→Prop} (h:FreeS S p q w) (s:PStep q w w') (hp:w'.heap[p]? = w.heap[p]?):FreeS S p q w'∧∀k,S k→w'.heap[k]? = w.heap[k]?:=
 ⟨fun k hk=>⟨Nat.lt_of_lt_of_le (h k hk).1 s.size,fun e=>(h k hk).2.1 ((ownOf.same hp).1 e),(s.block k (h k hk).1 (h k hk).2.2).2⟩,fun k hk=>(s.block k (h k hk).1 (h k hk).2.2).1⟩
end
theorem OwnR.lower {α:Type} {R:Rep α} {S:Nat→Prop} {w:World} {base base':Nat} {e:TypeId} {v:Value} {xs:List α} (h:OwnR R S w base e v xs) (hb:base'≤base):OwnR R S w base' e v xs:=by
 obtain ⟨css,h1,h2⟩:=h
 exact⟨css,h1.lower hb,h2⟩
theorem TermX.lower {B B' p:Nat} {T:TermD} {w:World} (h:TermX B p T w) (hb:B'≤B):TermX B' p T w:=by
 obtain ⟨q,v1,v2,m,h⟩:=h
 exact⟨q,v1,v2,m,Nat.le_trans hb h.bp,h.blk,h.nodes.lower hb,h.nums.lower hb,h.ids,Nat.le_trans hb h.bm,h.srtX,h.xlt⟩
def TabsPost (w:World) (e:Ending) (w':World):Prop:=∃p r,e = .returned (.tuple #[.pointer (some ⟨p,0,none⟩),.pointer (some ⟨r,0,none⟩)])∧TermX w.heap.size p (emptyT (T7 10)) w'∧Below w.heap.size w w'
def addN (T:TermD) (n:NodeD):TermD:={ T with nodes:=T.nodes ++ [n],nums:=T.nums ++ [numberD T n],ids:=fun k=>if k=keyB n then some (T.nodes.length:Int) else T.ids k,cnt:=T.cnt+1 }
def nX:NodeD:=⟨12,sx,noRat,[],1⟩
def A0:TermD:=emptyT (T7 10)
def A1:TermD:=addN A0 nX
section
variable {T : TermD} {op : Int} {nm : ByteArray} {val : RatD} {args : List Int} {s : Int}
theorem make_put (h1:badHead op args=false) (h2:badVal op nm val=false) (h3:args.any (fun i=>!hasT T i)=false) (h4:sortedD T op nm args=(s,true)):makeD T op nm val args=putD T ⟨op,nm,val,args,s⟩:=by
 unfold makeD
 rw [h1,h2,h3,h4]
 rfl
theorem put_addN {n:NodeD} (h:T.ids (keyB n)=none) (hl:T.nodes.length<16384):putD T n=(((T.nodes.length:Int),0),addN T n):=put_new h (by omega)
end
theorem lookF_data (T:TabD) (s:ByteArray):lookF T s=(T.funs.find? fun f=>f.name.data.toList == s.data.toList).getD noFun:=by unfold lookF;rw [findF_data]
theorem callD_data (T:TermD) (nm:ByteArray) (args:List Int):callD T nm args=if (T.S.funs.find? fun f=>f.name.data.toList == nm.data.toList).isSome∧((T.S.funs.find? fun f=>f.name.data.toList == nm.data.toList).getD noFun).args.length=args.length then
  (if sameSorts T args ((T.S.funs.find? fun f=>f.name.data.toList == nm.data.toList).getD noFun).args then(((T.S.funs.find? fun f=>f.name.data.toList == nm.data.toList).getD noFun).res,true) else(0,false)) else(0,false):=by
 unfold callD
 rw [findF_data,lookF_data]
theorem sort_x:sortedD A0 12 sx []=(1,true):=by
 show callD A0 sx []=_
 rw [callD_data]
 decide +kernel
theorem mk_x:makeD A0 12 sx noRat []=((0,0),A1):=(make_put (by decide +kernel) (by decide +kernel) rfl sort_x).trans (put_addN rfl (by decide))
theorem TermOk.empty (k:Nat):TermOk (emptyT (T7 k)):=
 ⟨⟨rfl,Nat.le_refl _,Nat.zero_le _,⟨Int.le_refl _,by show(0:Int)≤_;decide⟩,small7 k,fun _ _ h=>by simp [emptyT] at h⟩,fun _ h=>by simp [emptyT] at h,fun _ _ h=>by simp [emptyT] at h⟩
theorem TermOk.add {T:TermD} (h:TermOk T) {n:NodeD} (hl:T.nodes.length<16384) (h1:n.val.num.length≤1000000) (h2:n.val.den.length≤1000000) (h3:n.args.length≤1000000) (hi:InT T n.args):TermOk (addN T n):=by
 refine⟨⟨by simp [addN,h.sm.nn],by have:=h.sm.cn;simp [addN];omega,by simp [addN];omega,h.sm.fr,h.sm.s,fun k i hk=>?_⟩,fun x hx=>?_,fun k x hx=>?_⟩
 ·unfold addN at hk
  dsimp only at hk
  have e:((addN T n).nodes.length:Int)=T.nodes.length+1:=by simp [addN]
  rw [e]
  split at hk
  ·injection hk with hk;omega
  ·have:=h.sm.ids k i hk;omega
 ·rcases List.mem_append.1 hx with hx | hx
  ·exact h.sn x hx
  ·obtain rfl:=List.mem_singleton.1 hx;omega
 ·by_cases hk:k<T.nodes.length
  ·exact h.ord k x (by rw [show(addN T n).nodes=T.nodes ++ [n] from rfl,List.getElem?_append_left hk] at hx;exact hx)
  ·have hl2:=(List.getElem?_eq_some_iff.1 hx).1
   rw [show(addN T n).nodes=T.nodes ++ [n] from rfl,List.length_append,List.length_singleton] at hl2
   obtain rfl:k=T.nodes.length:=by omega
   rw [show(addN T n).nodes=T.nodes ++ [n] from rfl,List.getElem?_append_right (Nat.le_refl _),Nat.sub_self] at hx
   cases hx
   exact hi
theorem TermOk.put {T : TermD} (h : TermOk T) {n : NodeD} (h1 : n.val.num.length ≤ 1000000) (h2 : n.val.den.length ≤ 1000000) (h3 : n.args.length ≤ 1000000) (hi : InT T n.args) : TermOk (putD T n).2 := by
  cases hk : T.ids (keyB n) with
  | some i => rw [put_some hk]; exact h
  | none =>
    by_cases hl : 16384 ≤ T.nodes.length
    · rw [put_full hk hl]; exact h
    · rw [put_addN hk (by omega)]; exact h.add (by omega) h1 h2 h3 hi
theorem TermOk.make {T:TermD} (h:TermOk T) {op:Int} {nm:ByteArray} {val:RatD} {args:List Int} (h1:val.num.length≤1000000) (h2:val.den.length≤1000000):TermOk (makeD T op nm val args).2:=by
 unfold makeD
 split
 ·exact h
 ·rename_i hh
  split
  ·exact h
  ·split
   ·exact h
   ·rename_i ha
    split
    ·refine h.put h1 h2 ?_ (inT_of (by simpa using ha))
     unfold badHead at hh
     simp at hh
     show args.length≤_
     omega
    ·exact h
structure St (w0:World) (p:Nat) (T:TermD) (w:World):Prop where
 t:TermX w0.heap.size p T w
 b:Below w0.heap.size w0 w
section
variable {w0 w w' : World} {p : Nat} {T T' : TermD}
theorem St.all (h:St w0 p T w) (hb:Below w.heap.size w w'):St w0 p T w':=⟨h.t.all hb,h.b.trans (hb.mono h.b.size)⟩
theorem St.lit (h:St w0 p T w) (o:Obj):St w0 p T (w.alloc o):=h.all ((Below.refl _ _).alloc (Nat.le_refl _) _)
theorem St.step (h:St w0 p T w) (ht:TermX w0.heap.size p T' w') (hs:TStep p w w'):St w0 p T' w':=⟨ht,h.b.trans (h.t.stepBelow hs)⟩
theorem St.env (h:St w0 p T w) (hE:EnvT w0):EnvT w:=hE.all h.b
theorem lit_dat (w:World) (xs:List Int) (hx:∀x∈xs,okI x):SlR Rep.int (DatB (w.alloc (.cells (xs.map (Value.int .i64)).toArray 3))) (w.alloc (.cells (xs.map (Value.int .i64)).toArray 3)) (some ⟨w.heap.size,0,none⟩) xs.length xs:=
 SlR.ofI (RdI.lit xs 3 w hx) fun x _ e=>by
  injection e with e
  subst e
  exact⟨_,_,.inl (heap_alloc_new w _)⟩
theorem lit_args (w:World) (op:Int) (xs:List Int) (ho:okI op) (hx:∀x∈xs,okI x) (hl:xs.length≤maxLen) (h11:op≠11):MArgs (w.alloc (.cells (xs.map (Value.int .i64)).toArray 3)) ⟨#[]⟩ noRat xs op none none (some ⟨w.heap.size,0,none⟩) 0 0 xs.length:=
 ⟨SlR.nil _ _ _ _,SlR.nil _ _ _ _,lit_dat w xs hx,⟨Nat.le_refl _,Nat.zero_le _⟩,⟨Nat.le_refl _,Nat.zero_le _⟩,⟨Nat.le_refl _,hl⟩,by decide,by decide,ho,fun e=>absurd e h11⟩
end
theorem ok_A0:TermOk A0:=TermOk.empty 10
section
variable (T : TermD) (X : Nat → Prop)
theorem sameSorts_X:∀(l m:List Int),sameSorts { T with X:=X } l m=sameSorts T l m
 | [],_=>rfl
 | _ :: _,[]=>rfl
 | a :: l,s :: m=>by unfold sameSorts;rw [sameSorts_X l m];rfl
theorem callD_X (nm:ByteArray) (args:List Int):callD { T with X:=X } nm args=callD T nm args:=by unfold callD;rw [sameSorts_X]
theorem sortedD_X (op:Int) (nm:ByteArray) (args:List Int):sortedD { T with X:=X } op nm args=sortedD T op nm args:=by unfold sortedD;rw [callD_X];rfl
theorem putD_X (n : NodeD) : putD { T with X := X } n = ((putD T n).1, { (putD T n).2 with X := X }) := by
  unfold putD
  dsimp only
  cases T.ids (keyB n) with
  | some i => rfl
  | none =>
    dsimp only
    by_cases h : 16384 ≤ T.nodes.length
    · rw [if_pos h, if_pos h]
    · rw [if_neg h, if_neg h]; rfl
theorem makeD_X (op:Int) (nm:ByteArray) (val:RatD) (args:List Int):makeD { T with X:=X } op nm val args=((makeD T op nm val args).1,{ (makeD T op nm val args).2 with X:=X }):=by
 unfold makeD
 rw [sortedD_X]
 have e:args.any (fun i=>!hasT { T with X:=X } i)=args.any (fun i=>!hasT T i):=rfl
 rw [e]
 split
 ·rfl
 ·split
  ·rfl
  ·split
   ·rfl
   ·split
    ·exact putD_X T X _
    ·rfl
end
theorem SmT.X {T:TermD} (h:SmT T) (X:Nat→Prop):SmT { T with X:=X }:=⟨h.nn,h.cn,h.le,h.fr,h.s,h.ids⟩
section
variable {τ : Type}
structure NodeG (x:NodeD):Prop where
 num:x.val.num.length≤1000000
 name:x.name.size≤1000000
 args:x.args.length≤64
 lit:x.op=11→x.args = []
 ite:x.op=10→x.args.length=3
 den:x.val.den.length≤1000000
structure TermG (T:TermD):Prop where
 ok:TermOk T
 ng:∀x∈T.nodes,NodeG x
theorem TermG.at {T:TermD} (h:TermG T) {k:Nat} (hk:k<T.nodes.length):NodeG (nodeAt T k):=h.ng _ (List.mem_of_getElem? (nodeAt_nat hk))
theorem nodes_put (T : TermD) (n : NodeD) : (putD T n).2.nodes = T.nodes ∨ (putD T n).2.nodes = T.nodes ++ [n] := by
  cases hk : T.ids (keyB n) with
  | some i => rw [put_some hk]; exact .inl rfl
  | none =>
    by_cases hl : 16384 ≤ T.nodes.length
    · rw [put_full hk hl]; exact .inl rfl
    · rw [put_addN hk (by omega)]; exact .inr rfl
theorem fresh_put (T : TermD) (n : NodeD) : (putD T n).2.fresh = T.fresh := by
  cases hk : T.ids (keyB n) with
  | some i => rw [put_some hk]
  | none =>
    by_cases hl : 16384 ≤ T.nodes.length
    · rw [put_full hk hl]
    · rw [put_addN hk (by omega)]; rfl
structure GrowT (T T':TermD) (c:Nat):Prop where
 g:TermG T'
 len:T.nodes.length≤T'.nodes.length
 fr:T'.fresh≤T.fresh+c
theorem GrowT.refl {T:TermD} (h:TermG T):GrowT T T 0:=⟨h,Nat.le_refl _,by omega⟩
theorem TermG.make {T:TermD} (h:TermG T) (op:Int) {nm:ByteArray} {val:RatD} (args:List Int) (h1:val.num.length≤1000000) (h2:val.den.length≤1000000) (h3:nm.size≤1000000):GrowT T (makeD T op nm val args).2 0:=by
 have hok:=h.ok.make (op:=op) (nm:=nm) (args:=args) h1 h2
 unfold makeD at hok ⊢
 split
 ·exact .refl h
 ·rename_i hb
  rw [if_neg hb] at hok
  split
  ·exact .refl h
  ·rename_i hv
   rw [if_neg hv] at hok
   split
   ·exact .refl h
   ·rename_i ha
    rw [if_neg ha] at hok
    split
    ·rename_i hs
     rw [if_pos hs] at hok
     have hl:args.length≤64:=by unfold badHead at hb;simp at hb;omega
     have hg:NodeG ⟨op,nm,val,args,(sortedD T op nm args).1⟩:=by
      refine⟨h1,h3,hl,fun e=>?_,fun e=>?_,h2⟩
      ·change op=11 at e
       subst e
       unfold sortedD at hs
       simp at hs
       exact hs
      ·change op=10 at e
       subst e
       unfold sortedD iteD at hs
       simp at hs
       split at hs
       ·rename_i h4;exact h4.1
       ·cases hs
     rcases nodes_put T ⟨op,nm,val,args,(sortedD T op nm args).1⟩ with e | e
     ·exact⟨⟨hok,fun x hx=>by rw [e] at hx;exact h.ng x hx⟩,by rw [e];exact Nat.le_refl _,by rw [fresh_put];omega⟩
     ·refine⟨⟨hok,fun x hx=>?_⟩,by rw [e,List.length_append];omega,by rw [fresh_put];omega⟩
      rw [e] at hx
      rcases List.mem_append.1 hx with hx | hx
      ·exact h.ng x hx
      ·obtain rfl:=List.mem_singleton.1 hx;exact hg
    ·exact .refl h
end
def argV (F:Int→Option ValD) (args:List Int):List ValD:=args.map fun a=>(F a).getD noVal
def updV (F:Int→Option ValD) (x:Int) (v:ValD):Int→Option ValD:=fun y=>if y=x then some v else F y
def evalL (m:ModD) (T:TermD):List Int→(Int→Option ValD)→(Int→Option ValD) × Int
 | [],F=>(F,0)
 | x :: l,F=>if (evalNode m (nodeAt T x) (argV F (nodeAt T x).args)).2=0 then evalL m T l (updV F x (evalNode m (nodeAt T x) (argV F (nodeAt T x).args)).1) else(F,(evalNode m (nodeAt T x) (argV F (nodeAt T x).args)).2)
def evalOut (r:(Int→Option ValD) × Int) (i:Int):ValD × Int:=if r.2=0 then((r.1 i).getD noVal,0) else(noVal,r.2)
def evalT (m:ModD) (T:TermD) (i:Int):ValD × Int:=if hasT T i then evalOut (evalL m T (walkT T [i]).2 fun _=>none) i else(noVal,1)
theorem evalL_cons {m:ModD} {T:TermD} {x:Int} {l:List Int} {F:Int→Option ValD} {r:ValD × Int} (h:evalNode m (nodeAt T x) (argV F (nodeAt T x).args)=r):evalL m T (x :: l) F=if r.2=0 then evalL m T l (updV F x r.1) else(F,r.2):=by
 subst h;rfl
def ArT (T:TermD):Prop:=∀x∈T.nodes,arOk x.op x.args.length
theorem smallV_no:smallV noVal:=⟨by decide,by decide⟩
theorem smallV_at {l:List ValD} (h:∀v∈l,smallV v) (k:Nat):smallV (valAtL l k):=by
 unfold valAtL
 rw [List.getD_eq_getElem?_getD]
 cases hk:l[k]? with
 | none=>exact smallV_no
 | some v=>exact h v (List.mem_of_getElem? hk)
theorem smallV_apply {t:TbD} (h:smallT t) (l:List ValD):smallV (applyT t l):=by
 unfold applyT
 split
 ·rename_i r hr
  exact(h.1 r (List.mem_of_find?_eq_some hr)).2.1
 ·exact h.2.1
theorem smallR_neg {r:RatD} (h:smallR r):smallR (negR r):=by
 unfold negR
 split
 ·first | exact smallR_mul _ _ | exact smallR_0 | exact h | exact⟨h.1,h.2⟩
 ·first | exact smallR_mul _ _ | exact smallR_0 | exact h | exact⟨h.1,h.2⟩
theorem smallR_cntS (op:Int) {a b:RatD} (h:smallR a):smallR (cntS op a b).1:=by
 unfold cntS
 split
 ·exact smallR_add _ _
 ·split
  ·exact smallR_sub _ _
  ·split
   ·exact smallR_mul _ _
   ·split
    ·exact smallR_quo _ _
    ·exact h
theorem smallR_countL (op : Int) : ∀ (l : List ValD) {a : RatD}, smallR a → smallR (countL op a l).1
  | [], _, h => h
  | v :: l, a, h => by
    unfold countL
    split
    · exact smallR_countL op l (smallR_cntS op h)
    · exact smallR_cntS op h
theorem smallV_node {m:ModD} (hm:smallM m) {x:NodeD} (hx:NodeG x) {l:List ValD} (hl:∀v∈l,smallV v):smallV (evalNode m x l).1:=by
 have ht:∀b,smallV (truthV b):=fun b=>⟨Nat.zero_le _,Nat.zero_le _⟩
 unfold evalNode
 split
 ·exact ht _
 ·split
  ·exact ht _
  ·split
   ·exact ht _
   ·split
    ·exact ht _
    ·split
     ·split
      ·exact smallV_at hl 1
      ·exact smallV_at hl 2
     ·split
      ·exact⟨hx.num,hx.den⟩
      ·split
       ·split
        ·exact smallV_no
        ·rename_i t ht
         exact smallV_apply (hm.1 t (List.mem_of_find?_eq_some ht)) l
       ·show smallR (countV x.op l).1
        unfold countV
        split
        ·exact smallR_neg (smallV_at hl 0)
        ·exact smallR_countL _ _ (smallV_at hl 0)
def Ev (S:Nat→Prop) (w:World) (dm q:Nat):Prop:=(q<w.heap.size∧S q)∨(w.heap.size≤q∧q≠dm)
def CellsV (S:Nat→Prop) (W:World) (G:Int→Option Value) (F:Int→Option ValD):Prop:=
 ∀x,(F x=none∧G x=none)∨∃v a c b d,F x=some v∧G x=some (valV v a c b d)∧ValS S W v a c b d∧smallV v
structure EvS (S:Nat→Prop) (w:World) (dm:Nat) (F:Int→Option ValD) (k:Nat) (W:World):Prop where
 b:Below w.heap.size w W
 dl:w.heap.size≤dm
 mp:∃c G,c≤k∧MapV Tryz.prog 3 dm c G W∧CellsV (Ev S w dm) W G F
section
variable {S : Nat → Prop} {w W W' : World} {dm k : Nat} {F : Int → Option ValD}
theorem EvS.dlt (h:EvS S w dm F k W):dm<W.heap.size:=by obtain ⟨c,G,_,h,_⟩:=h.mp;exact h.lt
theorem CellsV.keep {S:Nat→Prop} {G:Int→Option Value} (h:CellsV S W G F) (hk:∀q,q<W.heap.size→S q→W'.heap[q]? = W.heap[q]?) (hs:W.heap.size≤W'.heap.size):CellsV S W' G F:=fun x=>by
 rcases h x with h | ⟨v,a,c,b,d,h1,h2,h3,h4⟩
 ·exact .inl h
 ·exact .inr ⟨v,a,c,b,d,h1,h2,h3.keep hk hs,h4⟩
theorem EvS.below (h:EvS S w dm F k W) (hb:Below W.heap.size W W'):EvS S w dm F k W':=by
 obtain ⟨c,G,h1,h2,h3⟩:=h.mp
 exact⟨h.b.trans (hb.mono h.b.size),h.dl,c,G,h1,h2.same (hb.block _ h2.lt),h3.keep (fun q hq _=>hb.block q hq) hb.size⟩
theorem EvS.start (hb:Below w.heap.size w W) (hd:w.heap.size≤dm) (hm:MapV Tryz.prog 3 dm 0 (fun _=>none) W):EvS S w dm (fun _=>none) 0 W:=
 ⟨hb,hd,0,_,Nat.le_refl _,hm,fun _=>.inl ⟨rfl,rfl⟩⟩
theorem zero_val (w:World):(zeroValue 64).run Tryz.prog w = .ok (.agg #[.int .i64 0,.bool false,.bool false,.slice none 0 0,.slice none 0 0,.int .i64 0]) w:=by kernel_rfl
theorem EvS.look (h:EvS S w dm F k W) {x:Int} (hx:okI x):∃a c b d,(Instr.lookup 149 (.map (some dm)) (.int .i64 x) false).run Tryz.prog W = .ok (valV ((F x).getD noVal) a c b d) W∧ValS (Ev S w dm) W ((F x).getD noVal) a c b d∧smallV ((F x).getD noVal):=by
 obtain ⟨c,G,h1,h2,h3⟩:=h.mp
 have hl:=h2.look Tryz.underlying3 Tryz.underlying149 (zero_val W) hx
 rcases h3 x with ⟨e1,e2⟩ | ⟨v,a,c,b,d,e1,e2,e3,e4⟩
 ·rw [e2] at hl
  rw [e1]
  exact⟨none,0,none,0,hl,⟨⟨by decide,by decide⟩,⟨by decide,by decide⟩,.nil _ _ _ _,⟨Nat.le_refl _,Nat.zero_le _⟩,.nil _ _ _ _,⟨Nat.le_refl _,Nat.zero_le _⟩⟩,smallV_no⟩
 ·rw [e2] at hl
  rw [e1]
  exact⟨a,c,b,d,hl,e3,e4⟩
theorem EvS.store (h:EvS S w dm F k W) (hk:k<maxLen) {x:Int} (hx:okI x) {v:ValD} {a b:Option Addr} {c d:Nat} (V:ValS (Ev S w dm) W v a c b d) (hv:smallV v) :
  ∃W',(Instr.mapUpdate 149 (.map (some dm)) (.int .i64 x) (valV v a c b d)).run Tryz.prog W = .ok () W'∧EvS S w dm (updV F x v) (k+1) W'∧W.mapTurned W' dm:=by
 obtain ⟨n,G,h1,h2,h3⟩:=h.mp
 obtain ⟨W',hr,hm,ht⟩:=h2.store Tryz.underlying3 Tryz.underlying149 (by omega) hx (valV v a c b d)
 have hg:=ht.grown
 have hne:∀q,q<W.heap.size→q≠dm→W'.heap[q]? = W.heap[q]?:=fun q hq e=>hg.block q hq fun z=>e (by injection z)
 have hk2:∀q,q<W.heap.size→Ev S w dm q→W'.heap[q]? = W.heap[q]?:=fun q hq hE=>hne q hq (hE.elim (fun z=>by have:=h.dl;omega) fun z=>z.2)
 refine⟨W',hr,⟨⟨hg.os.trans h.b.os,hg.tape.trans h.b.tape,hg.output.trans h.b.output,Nat.le_trans h.b.size hg.size,fun q hq=>(hne q (Nat.lt_of_lt_of_le hq h.b.size) (by have:=h.dl;omega)).trans (h.b.block q hq)⟩,h.dl,_,_,?_,hm,fun y=>?_⟩,ht⟩
 ·split <;> omega
 ·by_cases hy:y=x
  ·subst hy
   rw [upd_same]
   exact .inr ⟨v,a,c,b,d,by unfold updV;rw [if_pos rfl],rfl,V.keep hk2 hg.size,hv⟩
  ·rw [upd_other G _ hy]
   have e:updV F x v y=F y:=by unfold updV;rw [if_neg hy]
   rw [e]
   exact h3.keep hk2 hg.size y
end
def EvP (r:ValD × Int) (w:World) (e:Ending) (w':World):Prop:=∃a c b d,e = .returned (.tuple #[valV r.1 a c b d,.int .i64 r.2])∧ValS (DatF w.heap.size w') w' r.1 a c b d∧Below w.heap.size w w'
def ofQ (q:Rat):RatD:=⟨decide (q.num<0),limbs q.num.natAbs,limbs q.den⟩
def sgn (neg:Bool) (n:Nat):Int:=if neg then -(n:Int) else n
theorem sgn_abs (neg:Bool) (n:Nat):(sgn neg n).natAbs=n:=by unfold sgn;split <;> simp
theorem ratN_ofQ {neg : Bool} {n d : Nat} (hd : 0 < d) : ratN neg n d = ofQ (mkRat (sgn neg n) d) := by
  have e : mkRat (sgn neg n) d = Rat.normalize (sgn neg n) d (by omega) := by
    unfold mkRat
    rw [dif_neg (by omega)]
  rw [e, Rat.normalize_eq]
  unfold ratN ofQ
  simp only [sgn_abs]
  have hg : 0 < Nat.gcd n d := Nat.gcd_pos_of_pos_right _ hd
  have h1 : (sgn neg n / ((Nat.gcd n d : Nat) : Int)).natAbs = n / Nat.gcd n d := by
    unfold sgn
    split
    · rw [Int.neg_ediv_of_dvd (Int.ofNat_dvd.2 (Nat.gcd_dvd_left n d))]
      rw [← Int.natCast_ediv, Int.natAbs_neg]
      exact Int.natAbs_natCast _
    · rw [← Int.natCast_ediv]; exact Int.natAbs_natCast _
  have h2 : decide (sgn neg n / ((Nat.gcd n d : Nat) : Int) < 0) = (neg && decide (0 < n / Nat.gcd n d)) := by
    unfold sgn
    cases neg with
    | false =>
      rw [if_neg (by decide), ← Int.natCast_ediv, Bool.false_and]
      exact decide_eq_false (by omega)
    | true =>
      rw [if_pos rfl, Int.neg_ediv_of_dvd (Int.ofNat_dvd.2 (Nat.gcd_dvd_left n d)), ← Int.natCast_ediv, Bool.true_and]
      exact decide_eq_decide.2 (by omega)
  rw [h1, h2]
def capQ (q:Rat):RatD × Int:=if bigR (ofQ q) then(rat0,4) else(ofQ q,0)
theorem lowestR_ofQ {neg:Bool} {n d:Nat} (hd:0<d):lowestR neg n d=capQ (mkRat (sgn neg n) d):=by
 unfold lowestR capQ;rw [ratN_ofQ hd]
def smQ (q:Rat):Prop:=bigR (ofQ q)=false
theorem ofQ_is {q:Rat} (h:smQ q):IsR (ofQ q) q.num.natAbs q.den:=by
 unfold smQ bigR at h
 simp only [Bool.or_eq_false_iff,decide_eq_false_iff_not] at h
 exact⟨rfl,rfl,by omega,by omega,q.den_pos,q.reduced,fun h=>by unfold ofQ at h;simp at h;omega⟩
theorem ofQ_valid {q:Rat} (h:smQ q):validR (ofQ q)=true:=(ofQ_is h).valid
theorem sgn_num (q:Rat):sgn (decide (q.num<0)) q.num.natAbs=q.num:=by
 unfold sgn
 by_cases h:q.num<0
 ·rw [decide_eq_true h,if_pos rfl];omega
 ·rw [decide_eq_false h,if_neg (by decide)];omega
def zI (z:ZD):Int:=sgn z.neg z.n
theorem zI_wide (neg : Bool) (n : Nat) : zI (wideZ neg n) = sgn neg n := by
  unfold zI wideZ sgn
  cases neg with
  | false => rfl
  | true =>
    rcases Nat.eq_zero_or_pos n with rfl | h
    · rfl
    · simp [h]
theorem zI_plus (a b:ZD):zI (plusZ a b)=zI a+zI b:=by
 obtain ⟨s,m⟩:=a
 obtain ⟨t,n⟩:=b
 unfold plusZ
 dsimp only
 cases s <;> cases t
 ·rw [if_pos rfl,zI_wide];simp [zI,sgn]
 ·rw [if_neg (by decide)];split <;> rw [zI_wide] <;> simp [zI,sgn] <;> omega
 ·rw [if_neg (by decide)];split <;> rw [zI_wide] <;> simp [zI,sgn] <;> omega
 ·rw [if_pos rfl,zI_wide];simp [zI,sgn];omega
theorem sgn_mul (s t:Bool) (m n:Nat):sgn (s != t) (m * n)=sgn s m * sgn t n:=by
 cases s <;> cases t <;> simp [sgn,Int.natCast_mul,Int.neg_mul,Int.mul_neg]
theorem zI_times (a b:ZD):zI (timesZ a b)=zI a * zI b:=by
 unfold timesZ
 rw [zI_wide,sgn_mul];rfl
theorem num_ofQ {q:Rat}:numZ (ofQ q)=⟨decide (q.num<0),q.num.natAbs⟩:=by unfold numZ ofQ;rw [valL_limbs]
theorem den_ofQ {q:Rat}:denZ (ofQ q)=⟨false,q.den⟩:=by unfold denZ ofQ;rw [valL_limbs]
theorem zI_num (q:Rat):zI (numZ (ofQ q))=q.num:=by rw [num_ofQ];exact sgn_num q
theorem zI_den (q:Rat):zI (denZ (ofQ q))=q.den:=by rw [den_ofQ];rfl
theorem mk_self (q:Rat):mkRat q.num q.den=q:=Rat.mkRat_self q
theorem addR_ofQ {a b:Rat} (ha:smQ a) (hb:smQ b):addR (ofQ a) (ofQ b)=capQ (a+b):=by
 unfold addR
 rw [ofQ_valid ha,ofQ_valid hb]
 simp only [Bool.and_self,if_true]
 have h1:=(ofQ_is ha).val.2
 have h2:=(ofQ_is hb).val.2
 rw [h1,h2,lowestR_ofQ (Nat.mul_pos a.den_pos b.den_pos)]
 have e:sgn (sumZ (ofQ a) (ofQ b)).neg (sumZ (ofQ a) (ofQ b)).n=a.num * b.den+b.num * a.den:=by
  show zI (sumZ (ofQ a) (ofQ b))=_
  unfold sumZ
  rw [zI_plus,zI_times,zI_times,zI_num,zI_num,zI_den,zI_den]
 rw [e,←Rat.mkRat_add_mkRat _ _ (Nat.ne_of_gt a.den_pos) (Nat.ne_of_gt b.den_pos),mk_self,mk_self]
theorem ofQ_inj {a b:Rat} (h:ofQ a=ofQ b):a=b:=by
 unfold ofQ at h
 injection h with h1 h2 h3
 have e1:=limbs_inj h2
 have e2:=limbs_inj h3
 have h1':=decide_eq_decide.1 h1
 refine Rat.ext ?_ e2
 omega
theorem smQ_of {q:Rat} (h1:q.num.natAbs<W64) (h2:q.den<W64):smQ q:=by
 unfold smQ bigR ofQ
 have a:=limbs_length_le (n:=q.num.natAbs) (k:=1) (by rw [Nat.pow_one];exact h1)
 have b:=limbs_length_le (n:=q.den) (k:=1) (by rw [Nat.pow_one];exact h2)
 simp only [Bool.or_eq_false_iff,decide_eq_false_iff_not]
 exact⟨by omega,by omega⟩
theorem mk_le (n:Int) {d:Nat} (hd:0<d):(mkRat n d).num.natAbs≤n.natAbs∧(mkRat n d).den≤d:=by
 have e:mkRat n d=Rat.normalize n d (by omega):=by
  unfold mkRat
  rw [dif_neg (by omega)]
 rw [e,Rat.normalize_eq]
 dsimp only
 refine⟨?_,Nat.div_le_self _ _⟩
 have hdv:((Nat.gcd n.natAbs d:Nat):Int) ∣ n:=Int.ofNat_dvd_left.2 (Nat.gcd_dvd_left _ _)
 rw [Int.natAbs_ediv_of_dvd hdv]
 exact Nat.div_le_self _ _
theorem smQ_mk {n:Int} {d:Nat} (hd:0<d) (h1:n.natAbs<W64) (h2:d<W64):smQ (mkRat n d):=by
 obtain ⟨a,b⟩:=mk_le n hd
 exact smQ_of (by omega) (by omega)
theorem capQ_small {q:Rat} (h:smQ q):capQ q=(ofQ q,0):=by unfold capQ;rw [show bigR (ofQ q)=false from h];rfl
abbrev frat (n:Int) (d:Nat):Rat:=mkRat n d
theorem frat_eq {m n:Int} {d:Nat} (hd:0<d):frat m d=frat n d↔m=n:=by
 rw [Rat.mkRat_eq_iff (by omega) (by omega)]
 constructor
 ·intro h;exact Int.eq_of_mul_eq_mul_right (by omega) h
 ·rintro rfl;rfl
theorem ofR_fr {n d:Int} (hd:0<d):ofR n d=ofQ (frat n d.natAbs):=by
 unfold ofR
 rw [ratN_ofQ (by omega)]
 congr 1
 show mkRat _ _=mkRat _ _
 congr 1
 unfold sgn
 by_cases h:n<0
 ·rw [decide_eq_true h,if_pos rfl];omega
 ·rw [decide_eq_false h,if_neg (by decide)];omega
theorem sm_fr {n d:Int} (hd:0<d) (h1:-1000000≤n∧n≤1000000) (h2:d≤1000000):smQ (frat n d.natAbs):=smQ_mk (by omega) (by rw [show W64=18446744073709551616 from rfl];omega) (by rw [show W64=18446744073709551616 from rfl];omega)
theorem sameV_refl (v:ValD):sameV v v=true:=by
 unfold sameV
 rw [alikeR_iff.2 rfl]
 simp
theorem smallR_ofQ {q:Rat} (h:smQ q):smallR (ofQ q):=by
 have h2:=(ofQ_is h).nl
 have h3:=(ofQ_is h).dl
 exact⟨by omega,by omega⟩
theorem small_numV {n d:Int} (hd:0<d) (h1:-1000000≤n∧n≤1000000) (h2:d≤1000000):smallV (numV n d):=by
 have:=smallR_ofQ (sm_fr hd h1 h2)
 rw [←ofR_fr hd] at this
 exact this
def r11:RatD:=⟨false,[1],[1]⟩
def nOne:NodeD:=⟨11,⟨#[]⟩,r11,[],1⟩
def nAdd:NodeD:=⟨13,⟨#[]⟩,noRat,[0,1],1⟩
def nApp:NodeD:=⟨12,sf,noRat,[2],1⟩
def B2:TermD:=addN A1 nOne
def B3:TermD:=addN B2 nAdd
def B4:TermD:=addN B3 nApp
theorem mk_one:makeD A1 11 ⟨#[]⟩ r11 []=((1,0),B2):=(make_put (s:=1) (by decide +kernel) (by decide +kernel) rfl rfl).trans (put_addN (by decide +kernel) (by decide +kernel))
theorem mk_add:makeD B2 13 ⟨#[]⟩ noRat [0,1]=((2,0),B3):=(make_put (s:=1) (by decide +kernel) (by decide +kernel) (by decide +kernel) (by decide +kernel)).trans (put_addN (by decide +kernel) (by decide +kernel))
theorem sort_f:sortedD B3 12 sf [2]=(1,true):=by
 show callD B3 sf [2]=_
 rw [callD_data]
 decide +kernel
theorem mk_f:makeD B3 12 sf noRat [2]=((3,0),B4):=(make_put (by decide +kernel) (by decide +kernel) (by decide +kernel) sort_f).trans (put_addN (by decide +kernel) (by decide +kernel))
theorem ofR_11:ofR 1 1=r11:=by
 show(⟨_,limbs (1 / Nat.gcd 1 1),limbs (1 / Nat.gcd 1 1)⟩:RatD)=_
 rw [show 1 / Nat.gcd 1 1=1 from by decide,limbs_one]
 rfl
def tX10:TbD:=⟨sx,[],numV 2 1⟩
def tF10:TbD:=⟨sf,[⟨[numV 3 1],numV 7 1⟩],numV 0 1⟩
def m10:ModD:=[tX10,tF10]
theorem e_self (s:ByteArray):eqS s s=true:=by unfold eqS;simp
theorem e_xx:eqS sx sx=true:=e_self _
theorem e_xf:eqS sx sf=false:=by rw [eqS_data];decide +kernel
theorem e_ff:eqS sf sf=true:=e_self _
theorem find_x:findT m10 sx=some tX10:=by
 unfold findT m10
 rw [List.find?_cons_of_pos (by exact e_xx)]
theorem find_f:findT m10 sf=some tF10:=by
 unfold findT m10
 rw [List.find?_cons_of_neg (by show ¬eqS sx sf=true;rw [e_xf];decide),List.find?_cons_of_pos (by exact e_ff)]
theorem walk_B4:(walkT B4 [3]).2 = [0,1,2,3]:=by decide +kernel
theorem add_21:addR (numV 2 1).num r11=(ofR 3 1,0):=by
 rw [←ofR_11]
 show addR (ofR 2 1) (ofR 1 1)=_
 rw [ofR_fr (by decide),ofR_fr (by decide),ofR_fr (by decide),addR_ofQ (sm_fr (by decide) (by decide) (by decide)) (sm_fr (by decide) (by decide) (by decide))]
 rw [show frat 2 (Int.natAbs 1)+frat 1 (Int.natAbs 1)=frat 3 (Int.natAbs 1) from by decide +kernel]
 exact capQ_small (sm_fr (d:=1) (by decide) (by decide) (by decide))
theorem apply_3:applyT tF10 [numV 3 1]=numV 7 1:=by
 unfold applyT tF10
 dsimp only
 rw [List.find?_cons_of_pos (by show sameL [numV 3 1] [numV 3 1]=true;unfold sameL;rw [sameV_refl];rfl)]
theorem apply_1 : applyT tF10 [numV 1 1] = numV 0 1 := by
  unfold applyT tF10
  dsimp only
  have h : sameV (numV 3 1) (numV 1 1) = false := by
    have : alikeR (ofR 3 1) (ofR 1 1) = false := by
      cases h : alikeR (ofR 3 1) (ofR 1 1) with
      | false => rfl
      | true =>
        have := alikeR_iff.1 h
        rw [ofR_fr (by decide), ofR_fr (by decide)] at this
        have := ofQ_inj this
        exact absurd this (by decide +kernel)
    show (decide ((1 : Int) = 1) && (if (1 : Int) = 0 then _ else if (1 : Int) = 1 then alikeR (ofR 3 1) (ofR 1 1) else _)) = false
    rw [this]; rfl
  rw [List.find?_cons_of_neg (by show ¬ sameL [numV 3 1] [numV 1 1] = true; unfold sameL; rw [h]; decide)]
  rfl
theorem eval_1:evalT m10 B4 3=(numV 7 1,0):=by
 have e0:∀F,evalNode m10 (nodeAt B4 0) (argV F (nodeAt B4 0).args)=(numV 2 1,0):=fun F=>by
  show evalNode m10 nX (argV F [])=_
  rw [evalApp (x:=nX) rfl]
  show(if (findT m10 sx).isSome=true then(applyT ((findT m10 sx).getD noTb) _,(0:Int)) else _)=_
  rw [find_x];rfl
 have e1:∀F,evalNode m10 (nodeAt B4 1) (argV F (nodeAt B4 1).args)=(⟨1,false,r11,0⟩,0):=fun F=>rfl
 have e2:∀F,F 0=some (numV 2 1)→F 1=some ⟨1,false,r11,0⟩→evalNode m10 (nodeAt B4 2) (argV F (nodeAt B4 2).args)=(numV 3 1,0):=fun F h0 h1=>by
  show evalNode m10 nAdd (argV F [0,1])=_
  unfold argV
  rw [List.map_cons,List.map_cons,h0,h1]
  show((⟨1,false,(countL 13 (numV 2 1).num [⟨1,false,r11,0⟩]).1,0⟩:ValD),(countL 13 (numV 2 1).num [⟨1,false,r11,0⟩]).2)=_
  have:countL 13 (numV 2 1).num [⟨1,false,r11,0⟩]=(ofR 3 1,0):=by
   show(if (addR (numV 2 1).num r11).2=0 then((addR (numV 2 1).num r11).1,(0:Int)) else addR (numV 2 1).num r11)=_
   rw [add_21];rfl
  rw [this];rfl
 have e3:∀F,F 2=some (numV 3 1)→evalNode m10 (nodeAt B4 3) (argV F (nodeAt B4 3).args)=(numV 7 1,0):=fun F h=>by
  show evalNode m10 nApp (argV F [2])=_
  unfold argV
  rw [List.map_cons,h,List.map_nil,evalApp (x:=nApp) rfl]
  show(if (findT m10 sf).isSome=true then(applyT ((findT m10 sf).getD noTb) [numV 3 1],(0:Int)) else _)=_
  rw [find_f]
  show(applyT tF10 [numV 3 1],(0:Int))=_
  rw [apply_3]
 unfold evalT
 rw [if_pos (by decide),walk_B4,evalL_cons (e0 _),if_pos rfl,evalL_cons (e1 _),if_pos rfl,evalL_cons (e2 _ rfl rfl),if_pos rfl,evalL_cons (e3 _ rfl),if_pos rfl]
 rfl
theorem eval_2:evalT [] B4 0=(noVal,5):=by
 have e0:∀F,evalNode [] (nodeAt B4 0) (argV F (nodeAt B4 0).args)=(noVal,5):=fun F=>by
  show evalNode [] nX (argV F [])=_
  rw [evalApp (x:=nX) rfl]
  rfl
 unfold evalT
 rw [if_pos (by decide),show(walkT B4 [0]).2 = [0] from by decide +kernel,evalL_cons (e0 _),if_neg (by decide)]
 rfl
theorem eval_3:evalT m10 B4 99=(noVal,1):=by
 unfold evalT
 rw [if_neg (by decide)]
theorem zero_1:zeroV 1=numV 0 1:=by
 have:ofR 0 1=zeroRat:=by
  show(⟨_,limbs (0 / Nat.gcd 0 1),limbs (1 / Nat.gcd 0 1)⟩:RatD)=_
  rw [show 0 / Nat.gcd 0 1=0 from by decide,show 1 / Nat.gcd 0 1=1 from by decide,limbs_one,limbs_zero]
  rfl
 unfold numV
 rw [this];rfl
theorem same_12:sameV (numV 1 2) ⟨3,false,noRat,0⟩=false:=rfl
theorem m10_small:smallM m10:=by
 refine⟨fun t ht=>?_,by decide⟩
 have h0:=small_numV (n:=0) (d:=1) (by decide) (by decide) (by decide)
 have h2:=small_numV (n:=2) (d:=1) (by decide) (by decide) (by decide)
 have h3:=small_numV (n:=3) (d:=1) (by decide) (by decide) (by decide)
 have h7:=small_numV (n:=7) (d:=1) (by decide) (by decide) (by decide)
 rcases List.mem_cons.1 ht with rfl | ht
 ·exact⟨fun r hr=>(by cases hr),h2,by decide⟩
 ·obtain rfl:=List.mem_singleton.1 ht
  refine⟨fun r hr=>?_,h0,by decide⟩
  obtain rfl:=List.mem_singleton.1 hr
  exact⟨fun v hv=>by obtain rfl:=List.mem_singleton.1 hv;exact h3,h7,by decide⟩
end Go.Proofs.YtgoojkiccdjplaaGreatDoor
