/-
  Parts of this claim's texts, one behind the other: UO UP UQ UR US VA VE. No condition.
-/
import Derived.Test.YtgoojkiccdjplaaGreatDoorM30b
import Derived.Test.YtgoojkiccdjplaaGreatDoorM36
import Derived.Test.YtgoojkiccdjplaaGreatDoorM37
import Derived.Test.YtgoojkiccdjplaaGreatDoorM27
set_option linter.unusedVariables false
set_option linter.unusedSimpArgs false
set_option maxRecDepth 100000
set_option maxHeartbeats 16000000
namespace Go.Proofs.YtgoojkiccdjplaaGreatDoor
open Go.RowKit Go.Sort Go.Lib
abbrev NoX:Nat→Prop:=fun _=>False
theorem app_call {w0 w:World} {p:Nat} {T:TermD} {X:Nat→Prop} (hE:EnvT w0) (h:St w0 p { T with X:=X } w) (hG:TermG T) (nm:ByteArray) (hn:nm.size≤1000000) :
  Calls Tryz.prog 33 #[.pointer (some ⟨p,0,none⟩),.int .i64 12,.string nm,.agg #[.bool false,.slice none 0 0,.slice none 0 0],.slice none 0 0] w fun e w'=>
   e = .returned (.tuple #[.int .i64 (makeD T 12 nm noRat []).1.1,.int .i64 (makeD T 12 nm noRat []).1.2])∧St w0 p { (makeD T 12 nm noRat []).2 with X:=X } w'∧TStep p w w':=by
 have hm:=make_any w0.heap.size p { T with X:=X } 12 nm noRat [] none none none 0 0 0 w h.t (hG.ok.sm.X X) (h.env hE) (app_args w nm hn)
 unfold MakePost at hm
 rw [makeD_X] at hm
 refine hm.mono ?_
 rintro e w' ⟨rfl,t,s⟩
 exact⟨rfl,h.step t s,s⟩
theorem g_A0:TermG A0:=⟨ok_A0,fun x hx=>(by cases hx)⟩
theorem okI_n {x:Int} (h:0≤x∧x≤100):okI x:=⟨by omega,by omega⟩
theorem lit_free {w0 w:World} {p:Nat} {T:TermD} (h:St w0 p T w) (o:Obj):0<1→∀x,some (⟨w.heap.size,0,none⟩:Addr)=some x→x.block<(w.alloc o).heap.size∧¬ownT p (w.alloc o) x.block:=fun _ x e=>by
 injection e with e
 subst e
 exact⟨by simp,h.free o⟩
structure MadeD where
 var:Int
 fn:ByteArray
 args:List Int
structure FlS where
 named:Int→Option Int
 cnt:Nat
 made:List MadeD
 more:List Int
def flS0:FlS:=⟨fun _=>none,0,[],[]⟩
def zeroN:NodeD:=⟨0,ByteArray.empty,noRat,[],0⟩
def nodeX (T:TermD) (i:Int):NodeD:=if hasT T i then nodeAt T i else zeroN
def appliedN (n:NodeD):Bool:=decide (n.op=12) && decide (0<n.args.length)
def choiceN (n:NodeD):Bool:=decide (n.op=10) && !decide (n.sort=0)
def anyT (T:TermD) (so:NodeD→Bool) (id:Int):Bool:=(walkT T [id]).2.any fun x=>so (nodeX T x)
def plainT (T:TermD) (id:Int):Bool:=hasT T id && !anyT T appliedN id
def nameD (T : TermD) (s : FlS) (id : Int) : (Int × Int) × TermD × FlS :=
  if (nodeX T id).op = 12 ∧ (nodeX T id).args.length = 0 then ((id, 0), T, s)
  else match s.named id with
  | some k => ((k, 0), T, s)
  | none =>
    if (freshD T (nodeX T id).sort).1.2 = 0 then
      if (mk2 (freshD T (nodeX T id).sort).2 8 (freshD T (nodeX T id).sort).1.1 id).1.2 = 0 then
        (((freshD T (nodeX T id).sort).1.1, 0), (mk2 (freshD T (nodeX T id).sort).2 8 (freshD T (nodeX T id).sort).1.1 id).2,
          ⟨setTo s.named id (freshD T (nodeX T id).sort).1.1, s.cnt + 1, s.made, s.more ++ [(mk2 (freshD T (nodeX T id).sort).2 8 (freshD T (nodeX T id).sort).1.1 id).1.1]⟩)
      else ((0, (mk2 (freshD T (nodeX T id).sort).2 8 (freshD T (nodeX T id).sort).1.1 id).1.2), (mk2 (freshD T (nodeX T id).sort).2 8 (freshD T (nodeX T id).sort).1.1 id).2, s)
    else ((0, (freshD T (nodeX T id).sort).1.2), (freshD T (nodeX T id).sort).2, s)
def argsD:List Int→List Int→TermD→FlS→(List Int × Int) × TermD × FlS
 | [],out,T,s=>((out,0),T,s)
 | a :: l,out,T,s=>if (nameD T s a).1.2=0 then argsD l (out ++ [(nameD T s a).1.1]) (nameD T s a).2.1 (nameD T s a).2.2 else((out,(nameD T s a).1.2),(nameD T s a).2.1,(nameD T s a).2.2)
def alikeM (nm:ByteArray) (args:List Int) (o:MadeD):Bool:=decide (o.fn=nm) && decide (o.args=args)
def pushM (s:FlS) (m:MadeD):FlS:=⟨s.named,s.cnt,s.made ++ [m],s.more⟩
def flatR (nm : ByteArray) (so : Int) (A : (List Int × Int) × TermD × FlS) : (Int × Bool × Int) × TermD × FlS :=
  if A.1.2 = 0 then
    match A.2.2.made.find? (alikeM nm A.1.1) with
    | some o => ((o.var, true, 0), A.2.1, A.2.2)
    | none =>
      if (freshD A.2.1 so).1.2 = 0 then (((freshD A.2.1 so).1.1, true, 0), (freshD A.2.1 so).2, pushM A.2.2 ⟨(freshD A.2.1 so).1.1, nm, A.1.1⟩)
      else ((0, false, (freshD A.2.1 so).1.2), (freshD A.2.1 so).2, A.2.2)
  else ((0, false, A.1.2), A.2.1, A.2.2)
def flatF:OtherF FlS:=fun T s _ n=>if appliedN n then flatR n.name n.sort (argsD n.args [] T s) else((0,false,0),T,s)
def allFlat (T:TermD) (ids:List Int):(List Int × List MadeD × List Int × Int) × TermD:=
 if boolsT T ids && !ids.any (anyT T choiceN) then
  if (turnD flatF T flS0 ids).1.2=0 then(((turnD flatF T flS0 ids).1.1,(turnD flatF T flS0 ids).2.2.made,(turnD flatF T flS0 ids).2.2.more,0),(turnD flatF T flS0 ids).2.1)
  else(([],[],[],(turnD flatF T flS0 ids).1.2),(turnD flatF T flS0 ids).2.1)
 else(([],[],[],1),T)
def repMd:Rep MadeD:=Rep.map (fun m=>(m.var,m.fn,m.args)) (.prod .int (.prod .str (.slice .int)))
theorem repMd_k:repMd.k=3:=rfl
section
variable {S : Nat → Prop} {w w' : World} {x : MadeD} {cs : List Value}
theorem repMd_rd:repMd.rd S w x cs↔∃a c,cs = [.int .i64 x.var,.string x.fn,.slice a x.args.length c]∧okI x.var∧x.args.length≤c∧c≤maxLen∧SlR Rep.int S w a x.args.length x.args:=by
 constructor
 ·rintro ⟨p,q,rfl,⟨h1,h1'⟩,p',q',rfl,h2,a,n,c,h3,h4,h5,h6⟩
  have h1':p = [.int .i64 x.var]:=h1
  have h2':p' = [.string x.fn]:=h2
  subst h1' h2' h3
  obtain rfl:n=x.args.length:=h6.1.symm
  exact⟨a,c,rfl,by assumption,h4,h5,h6⟩
 ·rintro ⟨a,c,rfl,h1,h2,h3,h4⟩
  exact⟨[.int .i64 x.var],_,rfl,⟨rfl,h1⟩,[.string x.fn],_,rfl,rfl,a,_,c,rfl,h2,h3,h4⟩
end
def ArgB (w:World) (g n k:Nat):Prop:=∃j u,j<n∧w.cell? ⟨g,j * 3+2,none⟩=some u∧u.ownBlock=some k
theorem ArgB.same {w w':World} {g:Nat} (h:w'.heap[g]? = w.heap[g]?) (n k:Nat):ArgB w' g n k↔ArgB w g n k:=by
 have e:∀j,w'.cell? ⟨g,j * 3+2,none⟩=w.cell? ⟨g,j * 3+2,none⟩:=fun j=>World.cell?_of_block (w:=w) (a:=⟨g,j * 3+2,none⟩) h
 unfold ArgB
 constructor
 ·rintro ⟨j,u,h1,h2,h3⟩;exact⟨j,u,h1,by rw [←e];exact h2,h3⟩
 ·rintro ⟨j,u,h1,h2,h3⟩;exact⟨j,u,h1,by rw [e];exact h2,h3⟩
def RowB (w:World) (v:Value) (n k:Nat):Prop:=∃g,v.ownBlock=some g∧ArgB w g n k
theorem RowB.same {w w':World} {v:Value} (h:∀g,v.ownBlock=some g→w'.heap[g]? = w.heap[g]?) (n k:Nat):RowB w' v n k↔RowB w v n k:=by
 unfold RowB
 constructor
 ·rintro ⟨g,h1,h2⟩;exact⟨g,h1,(ArgB.same (h g h1) n k).1 h2⟩
 ·rintro ⟨g,h1,h2⟩;exact⟨g,h1,(ArgB.same (h g h1) n k).2 h2⟩
structure FlatAt (w0:World) (p nb:Nat) (s:FlS) (w:World) (bm:Nat) (vm vr:Value):Prop where
 lt:w0.heap.size≤nb∧w0.heap.size≤bm
 blk:w.heap[nb]? = some (.cells #[.pointer (some ⟨p,0,none⟩),.map (some bm),vm,vr] 145 (0,0))
 mp:∃c,c≤s.cnt∧MapV Tryz.prog 3 bm c (mapI s.named) w
 ok:∀i x,s.named i=some x→okI x
 md:OwnR repMd (RowB w vm s.made.length) w w0.heap.size 57 vm s.made
 mr:OwnC w w0.heap.size 3 1 vr s.more.length (s.more.map (Value.int .i64))
 ml:s.more.length≤s.cnt
 mo:∀x∈s.more,okI x
 ab:∀k,RowB w vm s.made.length k→w0.heap.size≤k∧(∃cs f,w.heap[k]? = some (.cells cs 3 f))∧vr.ownBlock≠some k
def FlatJ (w0:World) (p nb:Nat) (s:FlS) (w:World):Prop:=∃bm vm vr,FlatAt w0 p nb s w bm vm vr
def FlatD (p nb:Nat) (s:FlS) (w:World) (k:Nat):Prop:=∃bm vm vr,w.heap[nb]? = some (.cells #[.pointer (some ⟨p,0,none⟩),.map (some bm),vm,vr] 145 (0,0)) ∧
 (k=nb∨k=bm∨vm.ownBlock=some k∨vr.ownBlock=some k∨RowB w vm s.made.length k)
section
variable {w0 w w' : World} {p nb bm : Nat} {s : FlS} {vm vr : Value}
theorem FlatD.iff (h:w.heap[nb]? = some (.cells #[.pointer (some ⟨p,0,none⟩),.map (some bm),vm,vr] 145 (0,0))) (k:Nat):FlatD p nb s w k↔k=nb∨k=bm∨vm.ownBlock=some k∨vr.ownBlock=some k∨RowB w vm s.made.length k:=by
 constructor
 ·rintro ⟨b,u,v,hb,hk⟩
  rw [h] at hb
  injection hb with hb
  injection hb with hb
  have hl:=congrArg Array.toList hb
  simp at hl
  obtain ⟨rfl,rfl,rfl⟩:=hl
  exact hk
 ·exact fun hk=>⟨bm,vm,vr,h,hk⟩
theorem FlatAt.ltD (h:FlatAt w0 p nb s w bm vm vr) (k:Nat) (hk:FlatD p nb s w k):w0.heap.size≤k∧k<w.heap.size:=by
 obtain ⟨c,_,hm⟩:=h.mp
 rcases (FlatD.iff h.blk k).1 hk with rfl | rfl | hk | hk | hk
 ·exact⟨h.lt.1,(Array.getElem?_eq_some_iff.1 h.blk).1⟩
 ·exact⟨h.lt.2,hm.lt⟩
 ·exact h.md.lt k hk
 ·exact h.mr.lt k hk
 ·obtain ⟨h1,⟨cs,f,h2⟩,_⟩:=h.ab k hk
  exact⟨h1,(Array.getElem?_eq_some_iff.1 h2).1⟩
theorem FlatAt.keep (h:FlatAt w0 p nb s w bm vm vr) (hk:∀k,FlatD p nb s w k→w'.heap[k]? = w.heap[k]?) (hs:w.heap.size≤w'.heap.size):FlatAt w0 p nb s w' bm vm vr∧∀k,FlatD p nb s w' k↔FlatD p nb s w k:=by
 have hi:=FlatD.iff (s:=s) h.blk
 have hb:=(hk nb ((hi nb).2 (.inl rfl))).trans h.blk
 have hg:∀g,vm.ownBlock=some g→w'.heap[g]? = w.heap[g]?:=fun g e=>hk g ((hi g).2 (.inr (.inr (.inl e))))
 have hR:=RowB.same hg s.made.length
 have ha:∀k,RowB w vm s.made.length k→w'.heap[k]? = w.heap[k]?:=fun k e=>hk k ((hi k).2 (.inr (.inr (.inr (.inr e)))))
 refine⟨⟨h.lt,hb,?_,h.ok,?_,h.mr.same fun k e=>hk k ((hi k).2 (.inr (.inr (.inr (.inl e))))),h.ml,h.mo,fun k e=>?_⟩,fun k=>?_⟩
 ·obtain ⟨c,h1,h2⟩:=h.mp
  exact⟨c,h1,h2.same (hk bm ((hi bm).2 (.inr (.inl rfl))))⟩
 ·exact(h.md.keep (fun b _ e=>ha b e) hg hs).mono fun b _ e=>(hR b).2 e
 ·have e':=(hR k).1 e
  obtain ⟨h1,⟨cs,f,h2⟩,h3⟩:=h.ab k e'
  exact⟨h1,⟨cs,f,(ha k e').trans h2⟩,h3⟩
 ·rw [FlatD.iff hb,FlatD.iff h.blk,hR]
theorem FlatJ.ltD (h:FlatJ w0 p nb s w) (k:Nat) (hk:FlatD p nb s w k):w0.heap.size≤k∧k<w.heap.size:=by obtain ⟨bm,vm,vr,h⟩:=h;exact h.ltD k hk
theorem FlatJ.keep (h:FlatJ w0 p nb s w) (hk:∀k,FlatD p nb s w k→w'.heap[k]? = w.heap[k]?) (hs:w.heap.size≤w'.heap.size):FlatJ w0 p nb s w'∧∀k,FlatD p nb s w' k↔FlatD p nb s w k:=by
 obtain ⟨bm,vm,vr,h⟩:=h
 obtain ⟨h1,h2⟩:=h.keep hk hs
 exact⟨⟨bm,vm,vr,h1⟩,h2⟩
end
section
variable {τ : Type} {J : τ → World → Prop} {D : τ → World → Nat → Prop} {w0 w w' w3 w6 : World} {p : Nat} {T T' : TermD} {s s' : τ} {Y Y' D0 : Nat → Prop}
def KeepJ {τ:Type} (J:τ→World→Prop) (D:τ→World→Nat→Prop):Prop:=∀s w w',J s w→(∀k,D s w k→w'.heap[k]? = w.heap[k]?)→w.heap.size≤w'.heap.size→J s w'∧∀k,D s w' k↔D s w k
theorem Cx.st (h:Cx w0 p J D Y T s w):St w0 p { T with X:=fun k=>D s w k∨Y k } w:=⟨h.t,h.b⟩
theorem Cx.allK (K:KeepJ J D) (h:Cx w0 p J D Y T s w) (hb:Below w.heap.size w w'):Cx w0 p J D Y T s w'∧∀k,D s w' k↔D s w k:=by
 obtain ⟨hj,hd⟩:=K s w w' h.j (fun k hk=>hb.block k (h.x (.inl hk)).1) hb.size
 refine⟨⟨?_,h.b.trans (hb.mono h.b.size),hj⟩,hd⟩
 have e:(fun k=>D s w' k∨Y k)=(fun k=>D s w k∨Y k):=funext fun k=>propext (or_congr (hd k) Iff.rfl)
 rw [e]
 exact h.t.all hb
theorem Cx.sameK (K:KeepJ J D) (h:Cx w0 p J D Y T s w) (I:St w0 p { T' with X:=fun k=>D s w k∨Y' k } w3) (hD:∀k,D s w k→w3.heap[k]? = w.heap[k]?) (hs:w.heap.size≤w3.heap.size):Cx w0 p J D Y' T' s w3∧∀k,D s w3 k↔D s w k:=by
 obtain ⟨hj,hd⟩:=K s w w3 h.j hD hs
 refine⟨⟨?_,I.b,hj⟩,hd⟩
 have e:(fun k=>D s w3 k∨Y' k)=(fun k=>D s w k∨Y' k):=funext fun k=>propext (or_congr (hd k) Iff.rfl)
 rw [e]
 exact I.t
theorem cx_turn (I:St w0 p { T' with X:=fun k=>D0 k∨Y k } w3) (hb:Below w0.heap.size w3 w6) (hk:∀k,k<w3.heap.size→¬D0 k→w6.heap[k]? = w3.heap[k]?) (hj:J s' w6) (hd:∀k,D s' w6 k→(D0 k∨w3.heap.size≤k)∧k<w6.heap.size):Cx w0 p J D Y T' s' w6:=by
 refine⟨(I.excl (X':=fun k=>D s' w6 k∨Y k) hb (fun k h1 h2=>hk k h1 fun e=>h2 (.inl e)) (fun k h=>?_)).t,I.b.trans hb,hj⟩
 rcases h with h | h
 ·exact⟨(hd k h).1.imp .inl id,(hd k h).2⟩
 ·obtain ⟨q,v1,v2,m,ha⟩:=I.t
  exact⟨.inl (.inr h),Nat.lt_of_lt_of_le (ha.xlt k (.inr h)).1 hb.size⟩
theorem os_turn (S:OStep p D0 D0 w w3) (hx:p<w3.heap.size∧∀k,D0 k→¬ownT p w3 k) (hb:Below w0.heap.size w3 w6) (hk:∀k,k<w3.heap.size→¬D0 k→w6.heap[k]? = w3.heap[k]?) (hd:∀k,D s' w6 k→D0 k∨w3.heap.size≤k):OStep p D0 (D s' w6) w w6:=by
 have hp:=hk p hx.1 fun e=>hx.2 p e (.inl (.inl rfl))
 refine⟨hb.os.trans S.os,hb.tape.trans S.tape,hb.output.trans S.output,Nat.le_trans S.size hb.size,fun k h1 h2 h3=>?_⟩
 obtain ⟨e1,e2,_⟩:=S.block k h1 h2 h3
 refine⟨(hk k (Nat.lt_of_lt_of_le h1 S.size) h3).trans e1,fun e=>e2 ((ownT.same hp).1 e),fun e=>?_⟩
 rcases hd k e with e | e
 ·exact h3 e
 ·have:=S.size;omega
end
theorem flat_keep (w0:World) (p nb:Nat):KeepJ (FlatJ w0 p nb) (FlatD p nb):=fun _ _ _ h hk hs=>h.keep hk hs
theorem FlatAt.name {w0 w w':World} {p nb bm:Nat} {s:FlS} {vm vr vr':Value} {id k is:Int} (h:FlatAt w0 p nb s w bm vm vr) (hk:okI k) (his:okI is)
  (hb:∀j,j<w.heap.size→j≠nb→j≠bm→vr.ownBlock≠some j→w'.heap[j]? = w.heap[j]?) (hs:w.heap.size≤w'.heap.size)
  (hn:w'.heap[nb]? = some (.cells #[.pointer (some ⟨p,0,none⟩),.map (some bm),vm,vr'] 145 (0,0))) (hm:∃c,c≤s.cnt+1∧MapV Tryz.prog 3 bm c (mapI (setTo s.named id k)) w')
  (ho:OwnC w' w0.heap.size 3 1 vr' (s.more.length+1) ((s.more ++ [is]).map (Value.int .i64))) (hv:vr'.ownBlock=vr.ownBlock∨∀j,vr'.ownBlock=some j→w.heap.size≤j) :
  FlatAt w0 p nb ⟨setTo s.named id k,s.cnt+1,s.made,s.more ++ [is]⟩ w' bm vm vr'∧∀j,FlatD p nb ⟨setTo s.named id k,s.cnt+1,s.made,s.more ++ [is]⟩ w' j→(FlatD p nb s w j∨w.heap.size≤j)∧j<w'.heap.size:=by
 obtain ⟨c0,_,hm0⟩:=h.mp
 have hvm:∀g,vm.ownBlock=some g→w'.heap[g]? = w.heap[g]?:=fun g e=>by
  obtain ⟨cs,f,ht⟩:=h.md.ty g e
  refine hb g (h.md.lt g e).2 (fun e2=>?_) (fun e2=>?_) (fun e2=>?_)
  ·exact ty_ne (by decide) ⟨_,_,ht⟩ ⟨_,_,e2 ▸ h.blk⟩
  ·exact hm0.noCells (e2 ▸ ht)
  ·exact ty_ne (by decide) ⟨_,_,ht⟩ (h.mr.ty g e2)
 have hR:=RowB.same hvm s.made.length
 have ha:∀j,RowB w vm s.made.length j→w'.heap[j]? = w.heap[j]?:=fun j e=>by
  obtain ⟨_,⟨cs,f,ht⟩,h3⟩:=h.ab j e
  refine hb j (Array.getElem?_eq_some_iff.1 ht).1 (fun e2=>?_) (fun e2=>?_) h3
  ·exact ty_ne (by decide) ⟨_,_,ht⟩ ⟨_,_,e2 ▸ h.blk⟩
  ·exact hm0.noCells (e2 ▸ ht)
 have hA:FlatAt w0 p nb ⟨setTo s.named id k,s.cnt+1,s.made,s.more ++ [is]⟩ w' bm vm vr':=by
  refine⟨h.lt,hn,hm,fun i x hi=>?_,(h.md.keep (fun b _ e=>ha b e) hvm hs).mono fun b _ e=>(hR b).2 e,?_,by have:=h.ml;simp;omega,fun x hx=>?_,fun j e=>?_⟩
  ·change (if i=id then some k else s.named i)=some x at hi
   split at hi
   ·injection hi with hi;exact hi ▸ hk
   ·exact h.ok i x hi
  ·have:(s.more ++ [is]).length=s.more.length+1:=by simp
   show OwnC w' _ _ _ vr' (s.more ++ [is]).length _
   rw [this]
   exact ho
  ·rcases List.mem_append.1 hx with hx | hx
   ·exact h.mo x hx
   ·obtain rfl:=List.mem_singleton.1 hx;exact his
  ·have e':=(hR j).1 e
   obtain ⟨h1,⟨cs,f,ht⟩,h3⟩:=h.ab j e'
   refine⟨h1,⟨cs,f,(ha j e').trans ht⟩,?_⟩
   rcases hv with hv | hv
   ·rw [hv];exact h3
   ·intro e2
    have:=hv j e2
    have:=(Array.getElem?_eq_some_iff.1 ht).1
    omega
 refine⟨hA,fun j hj=>⟨?_,((FlatJ.ltD ⟨_,_,_,hA⟩) j hj).2⟩⟩
 have hi:=FlatD.iff (s:=s) h.blk j
 rcases (FlatD.iff hn j).1 hj with e | e | e | e | e
 ·exact .inl (hi.2 (.inl e))
 ·exact .inl (hi.2 (.inr (.inl e)))
 ·exact .inl (hi.2 (.inr (.inr (.inl e))))
 ·rcases hv with hv | hv
  ·exact .inl (hi.2 (.inr (.inr (.inr (.inl (by rw [←hv];exact e))))))
  ·exact .inr (hv j e)
 ·exact .inl (hi.2 (.inr (.inr (.inr (.inr ((hR j).1 e))))))
theorem FlatAt.push {w0 w w':World} {p nb bm:Nat} {s:FlS} {vm vr vm':Value} {m:MadeD} {am:Option Addr} {cm base:Nat} {css:List (List Value)} (h:FlatAt w0 p nb s w bm vm vr) (hk:okI m.var)
  (o1:OwnC w w0.heap.size 57 3 vm s.made.length css.flatten) (o2:css.length=s.made.length) (o3:∀(j:Nat) (x:MadeD),s.made[j]? = some x→∃cs,css[j]? = some cs∧repMd.rd (RowB w vm s.made.length) w x cs)
  (hr:OwnC w base 3 1 (.slice am m.args.length cm) m.args.length (m.args.map (Value.int .i64))) (hbase:w0.heap.size≤base) (hro:∀x∈m.args,okI x) (hz:∀j,(Value.slice am m.args.length cm).ownBlock=some j→¬FlatD p nb s w j)
  (hb:∀j,j<w.heap.size→j≠nb→vm.ownBlock≠some j→w'.heap[j]? = w.heap[j]?) (hs:w.heap.size≤w'.heap.size)
  (hn:w'.heap[nb]? = some (.cells #[.pointer (some ⟨p,0,none⟩),.map (some bm),vm',vr] 145 (0,0)))
  (ho:OwnC w' w0.heap.size 57 3 vm' (s.made.length+1) (css.flatten ++ [.int .i64 m.var,.string m.fn,.slice am m.args.length cm])) (hv:vm'.ownBlock=vm.ownBlock∨∀j,vm'.ownBlock=some j→w.heap.size≤j) :
  FlatAt w0 p nb (pushM s m) w' bm vm' vr∧∀j,FlatD p nb (pushM s m) w' j→(FlatD p nb s w j∨(Value.slice am m.args.length cm).ownBlock=some j∨w.heap.size≤j)∧j<w'.heap.size:=by
 obtain ⟨c0,hc0,hm0⟩:=h.mp
 have hi:=FlatD.iff (s:=s) h.blk
 have hvt:∀ {j:Nat} {cs:Array Value} {t:TypeId} {f:Nat × Nat},w.heap[j]? = some (.cells cs t f)→t≠57→vm.ownBlock≠some j:=fun ht hne e=>ty_ne hne ⟨_,_,ht⟩ (h.md.ty _ e)
 have hbnb:bm≠nb:=fun e=>hm0.noCells (by rw [e];exact h.blk)
 have hbvm:vm.ownBlock≠some bm:=fun e=>by obtain ⟨cs,f,ht⟩:=h.md.ty bm e;exact hm0.noCells ht
 have hvr:∀j,vr.ownBlock=some j→w'.heap[j]? = w.heap[j]?:=fun j e=>by
  obtain ⟨cs,f,ht⟩:=h.mr.ty j e
  exact hb j (h.mr.lt j e).2 (fun e2=>ty_ne (by decide) ⟨_,_,ht⟩ ⟨_,_,e2 ▸ h.blk⟩) (hvt ht (by decide))
 have ha:∀j,RowB w vm s.made.length j→w'.heap[j]? = w.heap[j]?:=fun j e=>by
  obtain ⟨_,⟨cs,f,ht⟩,h3⟩:=h.ab j e
  exact hb j (Array.getElem?_eq_some_iff.1 ht).1 (fun e2=>ty_ne (by decide) ⟨_,_,ht⟩ ⟨_,_,e2 ▸ h.blk⟩) (hvt ht (by decide))
 have hz':∀j,(Value.slice am m.args.length cm).ownBlock=some j→w'.heap[j]? = w.heap[j]?:=fun j e=>by
  obtain ⟨cs,f,ht⟩:=hr.ty j e
  exact hb j (hr.lt j e).2 (fun e2=>ty_ne (by decide) ⟨_,_,ht⟩ ⟨_,_,e2 ▸ h.blk⟩) (hvt ht (by decide))
 obtain ⟨g',cap',hv',hg1,hg2⟩:=ho.form (Nat.succ_pos _)
 have hl:∀cs∈css,cs.length=3:=OwnR.lens (R:=repMd) o2 o3
 have hfl:css.flatten.length=s.made.length * 3:=o1.1
 have hold:∀(j:Nat) (cs:List Value),css[j]? = some cs→∀(i:Nat) (u:Value),cs[i]? = some u→w'.cell? ⟨g',j * 3+i,none⟩=some u:=fun j cs hj i u hu=>by
  have hx:=flat_at hl hj hu
  refine ho.cells (by rw [hv'];rfl) _ u ?_
  rw [List.getElem?_append_left (List.getElem?_eq_some_iff.1 hx).1]
  exact hx
 have hnew:w'.cell? ⟨g',s.made.length * 3+2,none⟩=some (.slice am m.args.length cm):=by
  refine ho.cells (by rw [hv'];rfl) _ _ ?_
  rw [List.getElem?_append_right (by omega),hfl]
  rw [show s.made.length * 3+2 - s.made.length * 3=2 by omega]
  rfl
 have hR:∀k,RowB w' vm' (s.made.length+1) k↔RowB w vm s.made.length k∨(Value.slice am m.args.length cm).ownBlock=some k:=fun k=>by
  constructor
  ·rintro ⟨g,e1,j,u,hj,hu,hk'⟩
   rw [hv'] at e1
   injection e1 with e1
   subst e1
   by_cases hlt:j<s.made.length
   ·obtain ⟨x,hx⟩:∃x,s.made[j]? = some x:=⟨_,List.getElem?_eq_getElem hlt⟩
    obtain ⟨cs,h4,h5⟩:=o3 j x hx
    obtain ⟨a,c,rfl,_⟩:=repMd_rd.1 h5
    have:=hold j _ h4 2 _ rfl
    rw [hu] at this
    injection this with this
    obtain ⟨g0,cap0,e0,_,_⟩:=o1.form (by omega)
    refine .inl ⟨g0,by rw [e0];rfl,j,u,hlt,?_,hk'⟩
    rw [this]
    exact o1.cells (by rw [e0];rfl) _ _ (flat_at hl h4 rfl)
   ·obtain rfl:j=s.made.length:=by omega
    rw [hnew] at hu
    injection hu with hu
    exact .inr (hu ▸ hk')
  ·rintro (⟨g,e1,j,u,hj,hu,hk'⟩ | e)
   ·obtain ⟨x,hx⟩:∃x,s.made[j]? = some x:=⟨_,List.getElem?_eq_getElem hj⟩
    obtain ⟨cs,h4,h5⟩:=o3 j x hx
    obtain ⟨a,c,rfl,_⟩:=repMd_rd.1 h5
    have h6:=o1.cells e1 _ _ (flat_at hl h4 (i:=2) rfl)
    rw [hu] at h6
    injection h6 with h6
    refine⟨g',by rw [hv'];rfl,j,u,by omega,?_,hk'⟩
    rw [h6]
    exact hold j _ h4 2 _ rfl
   ·exact⟨g',by rw [hv'];rfl,s.made.length,_,Nat.lt_succ_self _,hnew,e⟩
 have hlen:(s.made ++ [m]).length=s.made.length+1:=by simp
 have hA:FlatAt w0 p nb (pushM s m) w' bm vm' vr:=by
  refine⟨h.lt,hn,⟨c0,hc0,hm0.same (hb bm hm0.lt hbnb hbvm)⟩,h.ok,?_,h.mr.same hvr,h.ml,h.mo,fun k e=>?_⟩
  ·show OwnR repMd (RowB w' vm' (s.made ++ [m]).length) w' _ _ vm' (s.made ++ [m])
   rw [hlen]
   refine⟨css ++ [[.int .i64 m.var,.string m.fn,.slice am m.args.length cm]],by rw [hlen,repMd_k];simpa using ho,by simp [o2],fun j y hy=>?_⟩
   by_cases hj:j<s.made.length
   ·rw [List.getElem?_append_left hj] at hy
    obtain ⟨ds,h4,h5⟩:=o3 j y hy
    exact⟨ds,by rw [List.getElem?_append_left (by omega)];exact h4,repMd.mono (repMd.keep h5 (fun b _ e=>ha b e) hs) fun b _ e=>(hR b).2 (.inl e)⟩
   ·have hl2:=(List.getElem?_eq_some_iff.1 hy).1
    rw [hlen] at hl2
    obtain rfl:j=s.made.length:=by omega
    rw [List.getElem?_append_right (Nat.le_refl _)] at hy
    simp at hy
    subst hy
    refine⟨_,by rw [←o2];simp,repMd_rd.2 ⟨am,cm,rfl,hk,?_,?_,?_⟩⟩
    ·obtain ⟨a',c',e,q1,q2⟩:=hr.slice;injection e with _ _ e;omega
    ·obtain ⟨a',c',e,q1,q2⟩:=hr.slice;injection e with _ _ e;omega
    ·refine SlR.ofI (OwnC.rdX (hr.same hz') hro) fun x _ e=>(hR _).2 (.inr ?_)
     rw [e]
     rfl
  ·change RowB w' vm' (s.made ++ [m]).length k at e
   rw [hlen] at e
   rcases (hR k).1 e with e | e
   ·obtain ⟨h1,⟨cs,f,ht⟩,h3⟩:=h.ab k e
    exact⟨h1,⟨cs,f,(ha k e).trans ht⟩,h3⟩
   ·obtain ⟨cs,f,ht⟩:=hr.ty k e
    exact⟨Nat.le_trans hbase (hr.lt k e).1,⟨cs,f,(hz' k e).trans ht⟩,fun e2=>hz k e ((hi k).2 (.inr (.inr (.inr (.inl e2)))))⟩
 refine⟨hA,fun j hj=>⟨?_,((FlatJ.ltD ⟨_,_,_,hA⟩) j hj).2⟩⟩
 rcases (FlatD.iff hn j).1 hj with e | e | e | e | e
 ·exact .inl ((hi j).2 (.inl e))
 ·exact .inl ((hi j).2 (.inr (.inl e)))
 ·rcases hv with hv | hv
  ·exact .inl ((hi j).2 (.inr (.inr (.inl (by rw [←hv];exact e)))))
  ·exact .inr (.inr (hv j e))
 ·exact .inl ((hi j).2 (.inr (.inr (.inr (.inl e)))))
 ·change RowB w' vm' (s.made ++ [m]).length j at e
  rw [hlen] at e
  rcases (hR j).1 e with e | e
  ·exact .inl ((hi j).2 (.inr (.inr (.inr (.inr e)))))
  ·exact .inr (.inl e)
def NamedOk (s:FlS):Prop:=∀i x,s.named i=some x→okI x
theorem name_grow {T:TermD} (h:TermG T) (hf:T.fresh<1099511627776) (s:FlS) (hs:NamedOk s) (id:Int) :
  GrowT T (nameD T s id).2.1 1∧(okI id→okI (nameD T s id).1.1)∧(nameD T s id).2.2.cnt≤s.cnt+1∧(nameD T s id).2.2.made=s.made∧NamedOk (nameD T s id).2.2:=by
 have g1:=h.fresh (nodeX T id).sort hf
 unfold nameD
 split
 ·exact⟨(GrowT.refl h).mono (by decide),fun hid=>hid,Nat.le_succ _,rfl,hs⟩
 ·split
  ·rename_i k hk
   exact⟨(GrowT.refl h).mono (by decide),fun _=>hs _ _ hk,Nat.le_succ _,rfl,hs⟩
  ·split
   ·split
    ·refine⟨g1.trans (g1.g.make 8 (nm:=⟨#[]⟩) (val:=noRat) _ (by decide) (by decide) (by decide)),fun _=>put_bdF h _,Nat.le_refl _,rfl,fun i x hi=>?_⟩
     change (if i=id then some _ else s.named i)=some x at hi
     split at hi
     ·injection hi with hi;exact hi ▸ put_bdF h _
     ·exact hs i x hi
    ·exact⟨g1.trans (g1.g.make 8 (nm:=⟨#[]⟩) (val:=noRat) _ (by decide) (by decide) (by decide)),fun _=>okI_0,Nat.le_succ _,rfl,hs⟩
   ·exact⟨g1,fun _=>okI_0,Nat.le_succ _,rfl,hs⟩
theorem args_grow : ∀ (l : List Int) (out : List Int) (T : TermD) (s : FlS), TermG T → T.fresh + l.length < 1099511627776 → NamedOk s →
    GrowT T (argsD l out T s).2.1 l.length ∧ (argsD l out T s).2.2.cnt ≤ s.cnt + l.length ∧ (argsD l out T s).2.2.made = s.made ∧ NamedOk (argsD l out T s).2.2
  | [], out, T, s, h, _, hs => ⟨GrowT.refl h, Nat.le_refl _, rfl, hs⟩
  | a :: l, out, T, s, h, hf, hs => by
    rw [List.length_cons] at hf
    obtain ⟨r1, _, r2, r3, r4⟩ := name_grow h (by omega) s hs a
    unfold argsD
    split
    · obtain ⟨q1, q2, q3, q4⟩ := args_grow l (out ++ [(nameD T s a).1.1]) _ (nameD T s a).2.2 r1.g (by have := r1.fr; omega) r4
      exact ⟨(r1.trans q1).mono (by rw [List.length_cons]; omega), by rw [List.length_cons]; omega, q3.trans r3, q4⟩
    · exact ⟨r1.mono (by rw [List.length_cons]; omega), by rw [List.length_cons]; dsimp only; omega, r3, r4⟩
def szF (s:FlS):Nat:=s.cnt+s.made.length
theorem flatF_grow (T:TermD) (s:FlS) (id:Int) (n:NodeD) (h:TermG T) (hf:T.fresh≤1000000000000) (hn:NodeG n) (hs:NamedOk s) (hm:∀o∈s.made,okI o.var) :
  GrowT T (flatF T s id n).2.1 100∧okI (flatF T s id n).1.1∧szF (flatF T s id n).2.2≤szF s+100:=by
 have hl:=hn.args
 obtain ⟨r1,r2,r3,r4⟩:=args_grow n.args [] T s h (by omega) hs
 unfold flatF
 split
 ·unfold flatR
  generalize argsD n.args [] T s=A at *
  obtain ⟨⟨l,e⟩,T1,s1⟩:=A
  dsimp only at *
  have g1:=r1.g.fresh n.sort (by have:=r1.fr;omega)
  split
  ·split
   ·rename_i o ho
    exact⟨r1.mono (by omega),hm o (by rw [←r3];exact List.mem_of_find?_eq_some ho),by show szF s1≤szF s+100;unfold szF;rw [r3];omega⟩
   ·split
    ·exact⟨(r1.trans g1).mono (by omega),put_bdF r1.g _,by unfold szF pushM;dsimp only;rw [List.length_append,r3,List.length_singleton];omega⟩
    ·exact⟨(r1.trans g1).mono (by omega),okI_0,by show szF s1≤szF s+100;unfold szF;rw [r3];omega⟩
  ·exact⟨r1.mono (by omega),okI_0,by show szF s1≤szF s+100;unfold szF;rw [r3];omega⟩
 ·exact⟨(GrowT.refl h).mono (by decide),okI_0,Nat.le_add_right _ _⟩
theorem call_f {T:TermD} {a:Int} (hS:T.S=T7 10) (hs:(nodeAt T a).sort=1):callD T sf [a]=(1,true):=by
 have e1:(((T7 10).funs.find? fun f=>f.name.data.toList == sf.data.toList).isSome∧(((T7 10).funs.find? fun f=>f.name.data.toList == sf.data.toList).getD noFun).args = [1]∧(((T7 10).funs.find? fun f=>f.name.data.toList == sf.data.toList).getD noFun).res=1):=by decide +kernel
 rw [callD_data,hS,e1.2.1,e1.2.2,if_pos ⟨e1.1,rfl⟩]
 unfold sameSorts sameSorts
 rw [hs]
 rfl
theorem mk_f {T:TermD} {a:Int} (hS:T.S=T7 10) (hs:(nodeAt T a).sort=1) (ha:hasT T a=true):makeD T 12 sf noRat [a]=putD T ⟨12,sf,noRat,[a],1⟩:=
 make_put rfl (by decide +kernel) (by simp [ha]) (call_f hS hs)
def fnR (T:TermD) (a:Int):(Int × Int) × TermD:=putD T ⟨12,sf,noRat,[a],1⟩
def fnN:Nat→Int × TermD
 | 0=>(0,A1)
 | k+1=>((fnR (fnN k).2 (fnN k).1).1.1,(fnR (fnN k).2 (fnN k).1).2)
def okN (k:Nat):Bool:=decide ((fnR (fnN k).2 (fnN k).1).1.2=0) && decide ((nodeAt (fnN k).2 (fnN k).1).sort=1) && hasT (fnN k).2 (fnN k).1
theorem fn_ok:∀k:Fin 30,okN k.val=true:=by decide +kernel
theorem fn_S : ∀ k, (fnN k).2.S = T7 10
  | 0 => rfl
  | k + 1 => by
    show (putD _ _).2.S = _
    have : ∀ (T : TermD) (n : NodeD), (putD T n).2.S = T.S := fun T n => by
      unfold putD
      split
      · rfl
      · split <;> rfl
    rw [this, fn_S k]
theorem fn_e {k:Nat} (hk:k<30):makeD (fnN k).2 12 sf noRat [(fnN k).1]=(((fnN (k+1)).1,0),(fnN (k+1)).2):=by
 have h:=fn_ok ⟨k,hk⟩
 unfold okN at h
 simp only [Bool.and_eq_true,decide_eq_true_eq] at h
 rw [mk_f (fn_S k) h.1.2 h.2]
 exact Prod.ext (Prod.ext rfl h.1.1) rfl
theorem g_A1:TermG A1:=by have:=(g_A0.make 12 (nm:=sx) (val:=noRat) [] (by decide) (by decide) (by decide)).g;rw [mk_x] at this;exact this
theorem fn_g : ∀ {k}, k ≤ 30 → TermG (fnN k).2 ∧ okI (fnN k).1
  | 0, _ => ⟨g_A1, okI_n (by decide)⟩
  | k + 1, hk => by
    have h := fn_g (k := k) (by omega)
    have e := fn_e (k := k) (by omega)
    have hg := (h.1.make 12 (nm := sf) (val := noRat) [(fnN k).1] (by decide) (by decide) (by decide)).g
    have hb := make_bdU h.1.ok.sm 12 sf noRat [(fnN k).1]
    rw [e] at hg hb
    exact ⟨hg, by unfold okI; dsimp only at hb; omega⟩
end Go.Proofs.YtgoojkiccdjplaaGreatDoor
