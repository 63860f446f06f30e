/-
  Parts of this claim's texts, one behind the other: YS YT M YU YV YW YX ZA CA ZB. No condition.
-/
import Derived.Test.YtgoojkiccdjplaaGreatDoorN12
import Derived.Test.YtgoojkiccdjplaaGreatDoorN1
import Derived.Maps.OwnSet
import Derived.LoopN
import Derived.Shelf.Spec.BitsCarry
set_option linter.unusedVariables false
set_option linter.unusedSimpArgs false
set_option maxRecDepth 100000
set_option maxHeartbeats 16000000
namespace Go.Proofs.YtgoojkiccdjplaaGreatDoor
open Go.RowKit Go.Sort Go.Lib
def mG (T:aR) (i:Int):Int × Bool:=if iD T i then((nodeAt T i).sort,true) else(0,false)
theorem aEc (B p:Nat) (T:aR) (i:Int) (w:World) (h:cU B p T w):Calls Tryz.prog 77 #[.pointer (some ⟨p,0,none⟩),.int .i64 i] w fun e w'=>e = .returned (.tuple #[.int .i64 (mG T i).1,.bool (mG T i).2])/\w=w':=by
 have hh:=hid (tD B p T i w h);have hd:=@hid (mG T i=if iD T i then((nodeAt T i).sort,true) else(0,false)) rfl;obtain ⟨q,a1,c1,a2,c2,m,ha⟩:=h.look;have k1:w.cell? ⟨p,1,none⟩=some (.slice a1 T.nodes.length c1):=aC ha.blk 1;cases hi:iD T i
 case false=>
  have hv:=@hid (mG T i=(0,false)) (by rw [hd.out,hi];rfl);rw [hi] at hh;clear h ha hi hd;go_enter Tryz.func77,Tryz.ntmps77
  go_wp2_with fail
  refine hh.out.mono ?_;rintro e w' ⟨rfl,rfl⟩;go_wp2;go_ret2;exact⟨by rw [hv.out];rfl,rfl⟩
 case true=>
  obtain ⟨g0,g1⟩:=lK.1 hi;obtain ⟨k,rfl⟩:=Int.eq_ofNat_of_zero_le g0;obtain ⟨b,o,rfl,k2,_⟩:=ha.sortCell (k:=k) (by omega);have hv:=@hid (mG T (k:Int)=((nodeAt T k).sort,true)) (by rw [hd.out,hi];rfl);rw [hi] at hh;clear h ha hi hd g0;generalize (nodeAt T k).sort=z at *;go_enter Tryz.func77,Tryz.ntmps77
  go_wp2_with fail
  refine hh.out.mono ?_;rintro e w' ⟨rfl,rfl⟩;go_wp2;go_ret2;exact⟨by rw [hv.out];rfl,rfl⟩
def aGb (x:bY) (ok:Bool) (w:World) (e:Ending) (w':World):Prop:=
 ∃a c b d g h,e = .returned (.tuple #[iU x a c b d g h,.bool ok])/\dR (dM w.heap.size w') w' x a c b d g h/\Below w.heap.size w w'
def SmN (T:aR):Prop:=∀x∈T.nodes,x.val.num.length<17592186044416/\x.val.den.length<17592186044416/\x.args.length<17592186044416
theorem aGc (B p:Nat) (T:aR) (k:Nat) (w:World) (h:cU B p T w) (hk:k<T.nodes.length) (hs:SmN T):Calls Tryz.prog 20 #[.pointer (some ⟨p,0,none⟩),.int .i64 k] w fun e w'=>aGb (nodeAt T k) true w e w':=by
 have hB0:Below w.heap.size w (w.alloc (.cells #[.int .i64 0,.string ByteArray.empty,.bool false,.slice none 0 0,.slice none 0 0,.slice none 0 0,.int .i64 0] 38)):=bD;have hB0':=hid hB0;have hhas:iD T (k:Int)=true:=lK.2 ⟨by omega,by omega⟩;have hh:=hid (tD B p T k _ (h.all hB0));rw [hhas] at hh;obtain ⟨q,a1,c1,a2,c2,m,ha⟩:=(h.all hB0).look;have k1:(w.alloc (.cells #[.int .i64 0,.string ByteArray.empty,.bool false,.slice none 0 0,.slice none 0 0,.slice none 0 0,.int .i64 0] 38)).cell? ⟨p,1,none⟩=some (.slice a1 T.nodes.length c1):=aC ha.blk 1;obtain ⟨b,o,a',c',b',d,g,e,rfl,hn,hc⟩:=(ha.nodes.read (S':=fun _=>True) (fun _ _ _=>trivial) (fun _ _=>trivial)).nodeAt (fC hk);have hsz:=hs (nodeAt T k) (List.mem_of_getElem? (fC hk));have hown:=hid (aC0 (nodeAt T k) a' b' g c' d e _ hn hsz.1 hsz.2.1 hsz.2.2);have hX:=hid (heap_alloc_new w (.cells #[.int .i64 0,.string ByteArray.empty,.bool false,.slice none 0 0,.slice none 0 0,.slice none 0 0,.int .i64 0] 38));have q0:=hc 0 _ rfl;rw [Nat.add_zero] at q0;have q1:=hc 1 _ rfl;have q2:=hc 2 _ rfl;have q3:=hc 3 _ rfl;have q4:=hc 4 _ rfl;have q5:=hc 5 _ rfl;have q6:=hc 6 _ rfl;have hki:(k:Int)<T.nodes.length:=by omega
 clear ha hn hc hsz hhas h hs hB0;generalize nodeAt T k=x at *;obtain ⟨op,nm,⟨ng,nu,de⟩,args,so⟩:=x;dsimp only at *;go_enter Tryz.func20,Tryz.ntmps20
 go_wp2_with fail
 refine hh.out.mono ?_;rintro e1 w' ⟨rfl,rfl⟩
 go_wp2_with fail
 refine hown.out.mono ?_;rintro e1 w1 ⟨a3,c3,b3,d3,g3,e3,rfl,hn3,hb3⟩;have X1:=(hb3.block w.heap.size (by simp)).trans hX.out;obtain ⟨r0,r1,r2,r3,r4,r5,r6⟩:=aBf X1;obtain ⟨f0,f1,f2,f3,f4,f5,f6⟩:=aKl X1;have N3:=hid (show dR (dM w.heap.size w1) w1 ⟨op,nm,⟨ng,nu,de⟩,args,so⟩ a3 c3 b3 d3 g3 e3 from hn3.mono fun _ _ hk=>⟨hk.1,by have:=hk.2;simp at this;omega⟩);have B3:=hid (hB0'.out.trans (hb3.mono hB0'.out.size));have X1':=hid X1;clear hn3 hb3 X1;go_wp2;refine bodyPost_ret (v:=.tuple #[iU ⟨op,nm,⟨ng,nu,de⟩,args,so⟩ a3 c3 b3 d3 g3 e3,.bool true]) (by simp [results,Tryz.results20,go_sem, *]) rfl ?_;have hR:∀(l:List (Nat × Value)) (W:World) (cs:Array Value),Below w.heap.size w W->W.heap[w.heap.size]? = some (.cells cs 38 (0,0))->dR (dM w.heap.size W) W ⟨op,nm,⟨ng,nu,de⟩,args,so⟩ a3 c3 b3 d3 g3 e3 ->
   Below w.heap.size w (l.foldl (fun W iv=>W.setCell ⟨w.heap.size,iv.1,none⟩ iv.2) W)/\dR (dM w.heap.size (l.foldl (fun W iv=>W.setCell ⟨w.heap.size,iv.1,none⟩ iv.2) W)) (l.foldl (fun W iv=>W.setCell ⟨w.heap.size,iv.1,none⟩ iv.2) W) ⟨op,nm,⟨ng,nu,de⟩,args,so⟩ a3 c3 b3 d3 g3 e3:=by
  intro l
  induction l with
  | nil=>exact fun W cs h1 h2 h3=>⟨h1,h3⟩
  |
   cons iv l ih=>
   intro W cs h1 h2 h3;refine ih _ (cs.setIfInBounds iv.1 iv.2) (h1.setCell aB _) ?_ (h3.move (fun k hk=>Below.heap_setCell _ _ _ _ (fun e=>?_)) (Nat.le_of_eq fD.symm))
   ·unfold World.setCell;rw [Array.getElem?_modify,if_pos rfl,h2];rfl
   ·subst e;exact dO.ne hk (by decide) (by decide) ⟨_,_,h2⟩
 obtain ⟨Z1,Z2⟩:=hR [(0,.int .i64 op),(1,.string nm),(2,.bool ng),(3,.slice a3 nu.length c3),(4,.slice b3 de.length d3),(5,.slice g3 args.length e3),(6,.int .i64 so)] _ _ B3.out X1'.out N3.out;exact⟨a3,c3,b3,d3,g3,e3,rfl,Z2,Z1⟩
def pT (S:fA):aR:=⟨[],[],fun _=>none,0,0,S,fun _=>False⟩
theorem aI8 (Bs q:Nat) (S:fA) (w:World) (h:TabIs Bs q S w):Calls Tryz.prog 66 #[.pointer (some ⟨q,0,none⟩)] w fun e w'=>e = .returned (.pointer (some ⟨w.heap.size+1,0,none⟩))/\cU w.heap.size (w.heap.size+1) (pT S) w'/\Below w.heap.size w w':=by
 have hmm:=@run_makeMap Tryz.prog;have h':=hid h;clear h;go_enter Tryz.func66,Tryz.ntmps66
 go_wp2;go_ret;have hb:Below w.heap.size w ((w.alloc (.map #[] 0)).alloc (.cells #[.pointer (some ⟨q,0,none⟩),.slice none 0 0,.slice none 0 0,.map (some w.heap.size),.int .i64 0,.int .i64 16384] 130)):=bX w _ _;refine⟨rfl,⟨q,.slice none 0 0,.slice none 0 0,w.heap.size,Nat.le_succ _,cY w _ _,bK.nil _ _ _ _ _,bK.nil _ _ _ _ _,?_,aB,⟨Bs,h'.out.all hb⟩,fun _ h=>h.elim⟩,hb⟩;have:=(kW.made (P:=Tryz.prog) (k:=9) w).same (w':=(w.alloc (.map #[] 0)).alloc (.cells #[.pointer (some ⟨q,0,none⟩),.slice none 0 0,.slice none 0 0,.map (some w.heap.size),.int .i64 0,.int .i64 16384] 130)) (Below.heap_alloc _ _ _ (by simp));exact this
end Go.Proofs.YtgoojkiccdjplaaGreatDoor
namespace Go.Proofs.YtgoojkiccdjplaaGreatDoor
open Go.RowKit Go.Maps
def yA (v:Value):Option (DataW Value × List MemPlace):=some (.held v,[])
def vE (x:Int):Lit:=.int .i64 x
def okJ (x:Int):Prop:=-9223372036854775808<=x/\x<=9223372036854775807
theorem aGd {x:Int} (h:okJ x):(Lit.int .i64 x).wf=true:=WalkArith.wf_i64 (by unfold okJ at h;omega)
theorem aAe (x:Int):WideAt.IsKeyLit (vE x):=by simp [vE,WideAt.IsKeyLit]
theorem aDb {x y:Int} (h:x≠y):vE x≠vE y:=by intro e;cases e;exact h rfl
def lH (P:Program) (k:TypeId) (b n:Nat) (F:Int->Option Value) (w:World):Prop:=
 ∃D:DataW Value,w.ownsMap P k yA b n D/\Maps.size D=n/\∀x,Maps.has D (vE x)=(F x).isSome/\∀z,D.atKey (vE x) (.held z) = .held ((F x).getD z)
def upd (F:Int->Option Value) (x:Int) (v:Option Value):Int->Option Value:=fun y=>if y=x then v else F y
theorem upd_same (F:Int->Option Value) (x:Int) (v:Option Value):upd F x v x=v:=by simp [upd]
theorem wH (F:Int->Option Value) {x y:Int} (v:Option Value) (h:y≠x):upd F x v y=F y:=by simp [upd,h]
variable {P : Program} {k t e : TypeId} {b n : Nat} {F : Int -> Option Value} {w w' : World}
theorem lH.lt (h:lH P k b n F w):b<w.heap.size:=by obtain ⟨D,h,_⟩:=h;exact h.lt
theorem lH.made (w:World):lH P k w.heap.size 0 (fun _=>none) (w.alloc (.map #[] 0)):=
 ⟨.map [],World.ownsMap_made w P k yA,rfl,fun _=>⟨rfl,fun _=>rfl⟩⟩
theorem lH.same (h:lH P k b n F w) (hb:w'.heap[b]? = w.heap[b]?):lH P k b n F w':=by
 obtain ⟨D,⟨es,clock,hb',r⟩,h2⟩:=h;exact⟨D,⟨es,clock,hb.trans hb',r⟩,h2⟩
theorem lH.look (h:lH P k b n F w) (hk:P.underlying k=some (.int .i64)) (ht:P.underlying t=some (.map k e)) {z:Value} (hz:(zeroValue e).run P w = .ok z w) {x:Int} (hx:okJ x) :
  (Instr.lookup t (.map (some b)) (.int .i64 x) false).run P w = .ok ((F x).getD z) w:=by
 obtain ⟨D,h1,h2,h3⟩:=h;obtain ⟨v,ps,hrun,hv⟩:=h1.lookup (int_keyed hk) ht hz (zd:=.held z) (zp:=[]) rfl (keyOf_int_mk hk (aGd hx));have e1:=(h3 x).2 z;unfold vE at e1;rw [e1] at hv;simp only [yA,Option.some.injEq,Prod.mk.injEq,DataW.held.injEq] at hv;rw [hrun,hv.1]
theorem lH.store (h:lH P k b n F w) (hk:P.underlying k=some (.int .i64)) (ht:P.underlying t=some (.map k e)) (hn:n<maxLen) {x:Int} (hx:okJ x) (v:Value) :
  ∃w',(Instr.mapUpdate t (.map (some b)) (.int .i64 x) v).run P w = .ok () w'/\lH P k b (if (F x).isSome then n else n+1) (upd F x (some v)) w'/\w.mapTurned w' b:=by
 obtain ⟨D,h1,h2,h3⟩:=h;obtain ⟨w',hrun,ho,hg⟩:=h1.store (int_keyed hk) ht hn (keyOf_int_mk hk (aGd hx)) (d:=.held v) (ps:=[]) (val:=v) rfl;have hs:=size_put (h1.tidy (int_keyed hk)) (k:=vE x) (.held v);rw [(h3 x).1,h2] at hs;refine⟨w',hrun,⟨D.put (vE x) (.held v),?_,hs,fun y=>?_⟩,hg⟩
 ·obtain ⟨es,clock,a1,a2,a3,a4⟩:=ho;refine⟨es,clock,a1,a2,?_,a4⟩;have e1:Maps.size (D.put (vE x) (.held v))=es.size:=by
   show Maps.size (D.put (.int .i64 x) (.held v))=es.size;rw [a4];simp [Maps.size,length_sorted]
  rw [<-e1,hs];exact aB
 ·by_cases hy:y=x
  ·subst hy;rw [upd_same];exact⟨has_put_same h1.isMap (aAe y) _,fun z=>by rw [atKey_put_same h1.isMap (aAe y)];rfl⟩
  ·rw [wH F _ hy];exact⟨by rw [has_put_other (aDb hy)];exact(h3 y).1,fun z=>by rw [atKey_put_other (aDb hy)];exact(h3 y).2 z⟩
def dX (T:aR):Nat->List Int × List Int->Int->List Int × List Int
 | 0,st,_=>st
 |
  f+1,st,i=>if st.1.contains i then st else
  (((nodeAt T i).args.foldl (dX T f) (i :: st.1,st.2)).1,((nodeAt T i).args.foldl (dX T f) (i :: st.1,st.2)).2 ++ [i])
def aEd (T:aR):Prop:=∀(k:Nat) (x:bY),T.nodes[k]? = some x->∀i∈x.args,0<=i/\i<(k:Int)
structure nF (T:aR) (st:List Int × List Int):Prop where
 le:st.2.length<=st.1.length
 nd:st.1.Nodup
 lt:∀x∈st.1,0<=x/\x<(T.nodes.length:Int)
theorem aB6:∀(n:Nat) (l:List Int),l.Nodup->(∀x∈l,0<=x/\x<(n:Int))->l.length<=n
 |
  0,l,_,h=>by
  cases l with
  | nil=>simp
  | cons x l=>have:=h x (by simp);omega
 |
  n+1,l,hn,h=>by
  by_cases hm:(n:Int)∈l
  ·have h1:=aB6 n (l.erase n) (hn.erase _) (fun x hx=>by
    have h2:=(hn.mem_erase_iff).1 hx;have h3:=h x h2.2;have h4:=h2.1;omega)
   rw [List.length_erase_of_mem hm] at h1;omega
  ·have h1:=aB6 n l hn (fun x hx=>by
    have h3:=h x hx;have:x≠n:=fun e=>hm (by rw [<-e];exact hx)
    omega)
   omega
theorem nF.small {T:aR} {st:List Int × List Int} (h:nF T st):st.1.length<=T.nodes.length/\st.2.length<=T.nodes.length:=by
 have:=aB6 _ _ h.nd h.lt;exact⟨this,aK h.le this⟩
def Grow (st st':List Int × List Int):Prop:=st'.2.length+st.1.length<=st'.1.length+st.2.length
theorem uB {T:aR} (ho:aEd T):∀(f:Nat) (k:Nat) (st:List Int × List Int),k<T.nodes.length->st.1.Nodup->(∀x∈st.1,0<=x/\x<(T.nodes.length:Int)) ->
  (dX T f st k).1.Nodup/\(∀x∈(dX T f st k).1,0<=x/\x<(T.nodes.length:Int))/\Grow st (dX T f st k)
 | 0,k,st,_,h1,h2=>⟨h1,h2,by unfold Grow dX;omega⟩
 |
  f+1,k,st,hk,h1,h2=>by
  unfold dX;by_cases hc:st.1.contains (k:Int)=true
  ·rw [if_pos hc];exact⟨h1,h2,by unfold Grow;omega⟩
  ·rw [if_neg hc];have hargs:=ho k _ (fC hk);have hfold:∀(l:List Int),(∀i∈l,0<=i/\i<(k:Int))->∀st:List Int × List Int,st.1.Nodup->(∀x∈st.1,0<=x/\x<(T.nodes.length:Int)) ->
     (l.foldl (dX T f) st).1.Nodup/\(∀x∈(l.foldl (dX T f) st).1,0<=x/\x<(T.nodes.length:Int))/\Grow st (l.foldl (dX T f) st):=by
    intro l
    induction l with
    | nil=>exact fun _ st h1 h2=>⟨h1,h2,by unfold Grow;simp only [List.foldl_nil];omega⟩
    |
     cons i l ih=>
     intro hl st h1 h2;obtain ⟨j,rfl⟩:=Int.eq_ofNat_of_zero_le (hl i (by simp)).1;have hj:=(hl (j:Int) (by simp)).2;obtain ⟨g1,g2,g3⟩:=uB ho f j st (by omega) h1 h2;obtain ⟨q1,q2,q3⟩:=ih (fun x hx=>hl x (by simp [hx])) _ g1 g2;rw [List.foldl_cons];exact⟨q1,q2,by unfold Grow at *;omega⟩
   have hnk:¬(k:Int)∈st.1:=by simpa using hc
   obtain ⟨g1,g2,g3⟩:=hfold (nodeAt T k).args hargs ((k:Int) :: st.1,st.2) (List.nodup_cons.2 ⟨hnk,h1⟩) (fun x hx=>by
    rcases List.mem_cons.1 hx with rfl | hx
    ·omega
    ·exact h2 x hx)
   refine⟨g1,g2,?_⟩;generalize (nodeAt T k).args.foldl (dX T f) ((k:Int) :: st.1,st.2)=R at *;have g4:R.2.length+(st.1.length+1)<=R.1.length+st.2.length:=g3;show(R.2 ++ [(k:Int)]).length+st.1.length<=R.1.length+st.2.length;rw [List.length_append,List.length_singleton];omega
def vF (met:List Int):Int->Option Value:=fun x=>if met.contains x then some (.bool true) else none
theorem aGe (met:List Int) (k:Int):upd (vF met) k (some (.bool true))=vF (k :: met):=by
 funext x
 unfold upd vF;by_cases h:x=k
 ·subst h;simp
 ·rw [if_neg h,List.contains_cons,show(x == k)=false by simpa using h,Bool.false_or]
abbrev nG (b:Nat):Value:=.func (.func 138) #[] #[.pointer (some ⟨b+3,0,none⟩),.pointer (some ⟨b,0,none⟩),.pointer (some ⟨b+4,0,none⟩),.pointer (some ⟨b+1,0,none⟩)]
structure WkS (p:Nat) (w wr:World) (met out:List Int):Prop where
 b:Below w.heap.size w wr
 t:wr.heap[w.heap.size]? = some (.cells #[.pointer (some ⟨p,0,none⟩)] 26 (0,0))
 o:∃v,wr.heap[w.heap.size+1]? = some (.cells #[v] 23 (0,0))/\wr.ownsRow w.heap.size 3 1 v out.length (out.map (Value.int .i64))
 m:wr.heap[w.heap.size+3]? = some (.cells #[.map (some (w.heap.size+2))] 192 (0,0))
 f:wr.heap[w.heap.size+4]? = some (.cells #[nG w.heap.size] 193 (0,0))
 s:∃n,lH Tryz.prog 3 (w.heap.size+2) n (vF met) wr/\n<=met.length
theorem aEf (w:World):(zeroValue 4).run Tryz.prog w = .ok (.bool false) w:=by kernel_rfl
theorem lH.noCells {P:Program} {k:TypeId} {b n:Nat} {F:Int->Option Value} {w:World} (h:lH P k b n F w) {cs:Array Value} {t:TypeId} {f:Nat × Nat}:w.heap[b]? ≠ some (.cells cs t f):=by
 obtain ⟨D,⟨es,clock,hb,_⟩,_⟩:=h;rw [hb];intro e;cases e
section
variable {p : Nat} {w wr w' : World} {met out : List Int}
theorem WkS.lt (h:WkS p w wr met out):w.heap.size+4<wr.heap.size:=(bQ h.f).1
theorem mH {base n:Nat} {e:TypeId} {v:Value} {xs:List Value} (h:wr.ownsRow base e 1 v n xs) (hb:∀k,v.ownBlock=some k->w'.heap[k]? = wr.heap[k]?):w'.ownsRow base e 1 v n xs:=by
 refine⟨h.1,?_⟩;rcases h.2 with hn | ⟨g,cap,cur,rfl,h1,h2,h3⟩
 ·exact .inl hn
 ·exact .inr ⟨g,cap,cur,rfl,h1,by rw [hb g rfl];exact h2,h3⟩
theorem WkS.meet (h:WkS p w wr met out) {k:Int} {n:Nat} (hg0:wr.mapTurned w' (w.heap.size+2)) (hm:lH Tryz.prog 3 (w.heap.size+2) n (vF (k :: met)) w') (hn:n<=met.length+1):WkS p w w' (k :: met) out:=by
 have hg:=hg0.grown;obtain ⟨v,o1,o2⟩:=h.o;obtain ⟨n0,m1,m2⟩:=h.s;have hlt:=h.lt;have hb:∀k,k<wr.heap.size->k≠w.heap.size+2->w'.heap[k]? = wr.heap[k]?:=fun k hk hne=>hg.block k hk (by simpa using hne)
 exact⟨⟨hg.os.trans h.b.os,hg.tape.trans h.b.tape,hg.output.trans h.b.output,aK h.b.size hg.size,fun k hk=>(hb k (by omega) (by omega)).trans (h.b.block k hk)⟩,(hb _ (by omega) (by omega)).trans h.t,⟨v,(hb _ (by omega) (by omega)).trans o1,mH o2 fun k hk=>hb k (o2.lt k hk).2 (fun e=>by
  subst e;rcases o2.2 with ⟨rfl,_⟩ | ⟨g,cap,cur,rfl,_,hh,_⟩
  ·simp [Value.ownBlock] at hk
  ·simp [Value.ownBlock] at hk;subst hk;exact m1.noCells hh)⟩,(hb _ (by omega) (by omega)).trans h.m,(hb _ (by omega) (by omega)).trans h.f,n,hm,by simpa using hn⟩
end
theorem WkS.push {p:Nat} {w wr w1:World} {met out:List Int} (h:WkS p w wr met out) {v v':Value} {o:Obj} {k:Int} (o1:wr.heap[w.heap.size+1]? = some (.cells #[v] 23 (0,0))) (o2:wr.ownsRow w.heap.size 3 1 v out.length (out.map (Value.int .i64)))
  (ho:w1.ownsRow w.heap.size 3 1 v' (out.length+1) (out.map (Value.int .i64) ++ [.int .i64 k])) (hg:(wr.alloc o).grownBy w1 v.ownBlock):WkS p w (w1.setCell ⟨w.heap.size+1,0,none⟩ v') met (out ++ [k]):=by
 have hlt:=h.lt;have hG:=bU hg;obtain ⟨n0,m1,m2⟩:=h.s;have hne:∀k cs t f,wr.heap[k]? = some (Obj.cells cs t f)->t≠3->k≠w.heap.size+1->(w1.setCell ⟨w.heap.size+1,0,none⟩ v').heap[k]? = wr.heap[k]?:=fun k cs t f hc ht hk=>
  (Below.heap_setCell _ _ _ _ (fun e=>hk e)).trans (hG.block k (bQ hc).1 (fun e=>Lib.ownBlock_ne o2 hc ht e.symm))
 have hvo:∀k,v.ownBlock=some k->k≠w.heap.size+1:=fun k hk e=>by subst e;exact Lib.ownBlock_ne o2 o1 (by decide) hk
 have hb1:w1.heap[w.heap.size+1]? = some (.cells #[v] 23 (0,0)):=(hG.block _ (by omega) (fun e=>hvo _ e.symm rfl)).trans o1;have hvo':∀k,v'.ownBlock=some k->k≠w.heap.size+1:=fun k hk e=>by subst e;exact Lib.ownBlock_ne ho hb1 (by decide) hk
 refine⟨((h.b.alloc h.b.size o).grown hg (by have:=h.b.size;simp;omega) (fun k hk=>(o2.lt k hk).1)).setCell (by simp) _,(hne _ _ _ _ h.t (by decide) (by omega)).trans h.t,⟨v',?_,?_⟩,(hne _ _ _ _ h.m (by decide) (by omega)).trans h.m,(hne _ _ _ _ h.f (by decide) (by omega)).trans h.f,n0,?_,m2⟩
 ·unfold World.setCell;rw [Array.getElem?_modify,if_pos rfl,hb1];rfl
 ·have:=mH (w':=w1.setCell ⟨w.heap.size+1,0,none⟩ v') ho fun k hk=>Below.heap_setCell _ _ _ _ (fun e=>hvo' k hk e)
  simpa using this
 ·refine m1.same ((Below.heap_setCell _ _ _ _ (by simp)).trans (hG.block _ (by omega) (fun e=>?_)));obtain ⟨cs,f,hc⟩:∃cs f,wr.heap[w.heap.size+2]? = some (.cells cs 3 f):=by
   rcases o2.2 with ⟨rfl,_⟩ | ⟨g,cap,cur,rfl,_,hh,_⟩
   ·simp [Value.ownBlock] at e
   ·simp [Value.ownBlock] at e;rw [<-e] at hh;exact⟨_,_,hh⟩
  exact m1.noCells hc
theorem aEg (B p:Nat) (T:aR) (w:World) (hT:cU B p T w) (ho:aEd T) (hsn:SmN T) (hl:T.nodes.length<=16384):∀(f k:Nat),k<f->k<T.nodes.length->∀(wr:World) (st:List Int × List Int),WkS p w wr st.1 st.2->nF T st ->
  Calls Tryz.prog 138 #[.int .i64 k,.pointer (some ⟨w.heap.size+3,0,none⟩),.pointer (some ⟨w.heap.size,0,none⟩),.pointer (some ⟨w.heap.size+4,0,none⟩),.pointer (some ⟨w.heap.size+1,0,none⟩)] wr fun e w'=>e = .returned (.tuple #[])/\WkS p w w' (dX T f st k).1 (dX T f st k).2:=by
 intro f
 induction f with
 | zero=>intro k hk;omega
 |
  succ f ih=>
  intro k hkf hk wr st hS hok;have ih':=hid ih;have hT':=hid hT;have ho':=hid ho;have hS':=hid hS;have hok':=hid hok;have hd:=@hid (dX T (f+1) st k=if st.1.contains (k:Int) then st else(((nodeAt T k).args.foldl (dX T f) ((k:Int) :: st.1,st.2)).1,((nodeAt T k).args.foldl (dX T f) ((k:Int) :: st.1,st.2)).2 ++ [(k:Int)])) rfl;have c3:wr.cell? ⟨w.heap.size+3,0,none⟩=some (.map (some (w.heap.size+2))):=aC hS.m 0;obtain ⟨n,hm,hnl⟩:=hS.s;have hkI:fG (k:Int):=by unfold fG;omega
  have hlk:=hm.look Tryz.underlying3 Tryz.underlying192 (aEf wr) (x:=(k:Int)) hkI;have hm':=hid hm;have hsm:=hok.small;clear ih hT ho hS hok hm;cases hc:st.1.contains (k:Int)
  case true=>
   have e1:vF st.1 (k:Int)=some (.bool true):=by unfold vF;rw [if_pos hc]
   have hv:=@hid (dX T (f+1) st k=st) (by rw [hd.out,if_pos hc]);rw [e1] at hlk;simp only [Option.getD_some] at hlk;clear e1 hc hd;go_enter Tryz.func138,Tryz.ntmps138
   go_wp2;(try simp only [Exit.inBlock,Exit.then]);refine bodyPost_ret (results_none rfl _ _ _) rfl ?_;exact⟨rfl,by rw [hv.out];exact hS'.out⟩
  case false=>
   have e1:vF st.1 (k:Int)=none:=by unfold vF;rw [if_neg (by rw [hc];decide)]
   have hnk:¬(k:Int)∈st.1:=fun hm=>by rw [List.contains_iff_mem.2 hm] at hc;cases hc
   have hd2:=@hid (dX T (f+1) st k=(((nodeAt T k).args.foldl (dX T f) ((k:Int) :: st.1,st.2)).1,((nodeAt T k).args.foldl (dX T f) ((k:Int) :: st.1,st.2)).2 ++ [(k:Int)])) (by rw [hd.out,if_neg (by rw [hc];decide)]);obtain ⟨w2,hst,hm2,ht2⟩:=hm'.out.store Tryz.underlying3 Tryz.underlying192 (by unfold maxLen;omega) (x:=(k:Int)) hkI (.bool true);rw [e1] at hlk hm2;simp only [Option.getD_none,Option.isSome_none,Bool.false_eq_true,if_false] at hlk hm2;rw [aGe] at hm2;have S2:=hid (hS'.out.meet ht2 hm2 (by omega));have hok2:=@hid (nF T ((k:Int) :: st.1,st.2)) ⟨by have:=hok'.out.le;simp only [List.length_cons];omega,List.nodup_cons.2 ⟨hnk,hok'.out.nd⟩,fun x hx=>by
    rcases List.mem_cons.1 hx with rfl | hx
    ·omega
    ·exact hok'.out.lt x hx⟩
   have c2:w2.cell? ⟨w.heap.size,0,none⟩=some (.pointer (some ⟨p,0,none⟩)):=aC S2.out.t 0;obtain ⟨q,a1,c1,a2,d2,m,ha⟩:=hT'.out.look;have k1:w2.cell? ⟨p,1,none⟩=some (.slice a1 T.nodes.length c1):=aD S2.out.b (aC ha.blk 1);obtain ⟨b,o,a',c',b',d,g,e,rfl,hn,hcs⟩:=(ha.nodes.read (S':=fun _=>True) (fun _ _ _=>trivial) (fun _ _=>trivial)).nodeAt (fC hk);have k5:w2.cell? ⟨b,o+k * 7+5,none⟩=some (.slice g (nodeAt T k).args.length e):=aD S2.out.b (hcs 5 _ rfl);have hgo:=hid (ho'.out k _ (fC hk));have hra:=hid hn.args.toI;have hki:(k:Int)<T.nodes.length:=by omega
   have hal:=(hsn (nodeAt T k) (List.mem_of_getElem? (fC hk))).2.2;clear ha hn hcs e1 hc hd hm2 ht2 hnk hm';generalize (nodeAt T k).args=args at *;go_enter Tryz.func138,Tryz.ntmps138
   go_wp2
   go_loopw [7,22] (fun _ i wr=>∃j:Nat,j<=args.length/\i = .int .i64 j/\Hid (WkS p w wr ((args.take j).foldl (dX T f) ((k:Int) :: st.1,st.2)).1 ((args.take j).foldl (dX T f) ((k:Int) :: st.1,st.2)).2)/\Hid (nF T ((args.take j).foldl (dX T f) ((k:Int) :: st.1,st.2)))) (fun _ i _=>args.length - (intOf i).toNat)
   case atStart=>exact⟨0,aV,rfl,S2.out,hok2.out⟩
   case round=>
    obtain ⟨j,hj,rfl,hSj,hokj⟩:=hrel;by_cases hlt:j<args.length
    ·obtain ⟨b1,o1,rfl,k0⟩:=(hra.out.below hSj.out.b aB).at j hlt;obtain ⟨g0,g1⟩:=hgo.out (nth args j) (fF hlt);have hsucc:=@hid ((args.take (j+1)).foldl (dX T f) ((k:Int) :: st.1,st.2)=dX T f ((args.take j).foldl (dX T f) ((k:Int) :: st.1,st.2)) (nth args j)) (by rw [List.take_succ_eq_append_getElem hlt,List.foldl_append,cK hlt];rfl);obtain ⟨i,hi⟩:=Int.eq_ofNat_of_zero_le g0;rw [hi] at k0 g1 hsucc;generalize (args.take j).foldl (dX T f) ((k:Int) :: st.1,st.2)=sj at *;have hcall:=hid (ih'.out i (by omega) (by omega) wr sj hSj.out hokj.out);have hnew:=hid (uB ho'.out f i sj (by omega) hokj.out.nd hokj.out.lt);have hokn:=@hid (nF T (dX T f sj i)) ⟨by have h1:=hokj.out.le;have h2:=hnew.out.2.2;unfold Grow at h2;omega,hnew.out.1,hnew.out.2.1⟩;have cf:wr.cell? ⟨w.heap.size+4,0,none⟩=some (nG w.heap.size):=aC hSj.out.f 0;have hji:(j:Int)<args.length:=by omega
     clear g0 hi hnew
     go_wp2_with fail
     refine hcall.out.mono ?_;rintro e1 w3 ⟨rfl,S3⟩;have S3':=hid S3;clear S3;go_wp2
     go_roundw
     case rel=>exact⟨j+1,by omega,by go_num,by rw [hsucc.out];exact S3'.out,by rw [hsucc.out];exact hokn.out⟩
     case measure=>simp [intOf];omega
    ·have hjt:args.take j=args:=List.take_of_length_le (by omega);rw [hjt] at hSj hokj;clear hjt;generalize args.foldl (dX T f) ((k:Int) :: st.1,st.2)=sj at *;obtain ⟨v,o1,o2⟩:=hSj.out.o;have co:wr.cell? ⟨w.heap.size+1,0,none⟩=some v:=aC o1 0;have hol:=hokj.out.small.2;have O1:=hid o1;have O2:=hid o2;obtain ⟨i0,hi,hz0,hz1,hz2⟩:=info_parts tF;clear o1 o2
     go_wp2_with (at_builtin;refine wpList_append_own _ rfl _ _ 23 rfl w.heap.size 3 i0 (.int .i64 0) 1 8 Tryz.underlying23 hi hz0 hz1 hz2 rfl (by decide) _ _ _ rfl (O2.out.alloc _) ⟨wr.heap.size,0,none⟩ 1 1 [.int .i64 (k:Int)] rfl rfl ?c1 ?c2 ?c3 ?c4 ?c5 ?_)
     case c1=>intro y u hu;match y,hu with | 0,hu=>simp at hu;subst hu;simp [Addr.add]
     case c2=>intro u hu;simp at hu;subst hu;rfl
     case c3=>unfold maxLen;omega
     case c4=>omega
     case c5=>have:=hSj.out.b.size;simp;omega
     intro v' w4 ho4 hg4 _;have S4:=hid (hSj.out.push O1.out O2.out ho4 hg4);have G4:=hid (bU hg4);have hv1:v.ownBlock≠some (w.heap.size+1):=fun e=>Lib.ownBlock_ne O2.out O1.out (by decide) e
     have X4:=(G4.out.block (w.heap.size+1) (by have:=hSj.out.lt;omega) (fun e=>hv1 e.symm)).trans O1.out;have c4:w4.cell? ⟨w.heap.size+1,0,none⟩=some v:=aC X4 0;have f4:w4.frozen? ⟨w.heap.size+1,0,none⟩=false:=aY X4 0;obtain ⟨ao,co',rfl⟩:∃ao c',v' = .slice ao (sj.2.length+1) c':=by
      rcases ho4.2 with ⟨_,h0⟩ | ⟨gg,cap,cur,hv,_⟩
      ·omega
      ·exact⟨_,_,hv⟩
     clear ho4 hg4 X4 hv1;go_wp2;go_end0;exact⟨rfl,by rw [hd2.out];exact S4.out⟩
def fO (T:aR) (st:List Int × List Int) (i:Int):List Int × List Int:=if iD T i then dX T (T.nodes.length+1) st i else st
def jB (T:aR) (ids:List Int):List Int × List Int:=ids.foldl (fO T) ([],[])
structure iJ (T:aR):Prop where
 sm:SmT T
 sn:SmN T
 ord:aEd T
theorem nF.nil (T:aR):nF T ([],[]):=⟨aB,List.nodup_nil,by simp⟩
theorem nF.at {T:aR} (ho:aEd T) {st:List Int × List Int} (h:nF T st) (i:Int):nF T (fO T st i):=by
 unfold fO
 split
 ·rename_i hi
  obtain ⟨g0,g1⟩:=lK.1 hi;obtain ⟨k,rfl⟩:=Int.eq_ofNat_of_zero_le g0;obtain ⟨h1,h2,h3⟩:=uB ho (T.nodes.length+1) k st (by omega) h.nd h.lt;exact⟨by have:=h.le;unfold Grow at h3;omega,h1,h2⟩
 ·exact h
theorem aGf (p:Nat) (w W:World) (hW:(((((w.alloc (.cells #[.pointer (some ⟨p,0,none⟩)] 26)).alloc (.cells #[.slice none 0 0] 23)).alloc (.map #[] 0)).alloc (.cells #[.map (some (w.heap.size+1+1))] 192)).alloc (.cells #[.nilFunc] 193))=W):W.heap[w.heap.size+4]? = some (.cells #[.nilFunc] 193 (0,0))/\WkS p w (W.setCell ⟨w.heap.size+4,0,none⟩ (nG w.heap.size)) [] []:=by
 rw [show w.heap.size+1+1=w.heap.size+2 from rfl] at hW;generalize h1:w.alloc (.cells #[.pointer (some ⟨p,0,none⟩)] 26)=w1 at hW;have s1:w1.heap.size=w.heap.size+1:=by rw [<-h1];simp
 have e1:w1.heap[w.heap.size]? = some (.cells #[.pointer (some ⟨p,0,none⟩)] 26 (0,0)):=by rw [<-h1];exact heap_alloc_new w _
 have b1:Below w.heap.size w w1:=by rw [<-h1];exact bD
 generalize h2:w1.alloc (.cells #[.slice none 0 0] 23)=w2 at hW;have s2:w2.heap.size=w.heap.size+2:=by rw [<-h2];simp [s1]
 have e2:w2.heap[w.heap.size+1]? = some (.cells #[.slice none 0 0] 23 (0,0)):=by rw [<-h2,<-s1];exact heap_alloc_new w1 _
 have k2:∀k,k<w1.heap.size->w2.heap[k]? = w1.heap[k]?:=fun k hk=>by rw [<-h2];exact Below.heap_alloc _ _ _ hk
 have b2:Below w.heap.size w w2:=by rw [<-h2];exact b1.alloc (by omega) _
 generalize h3:w2.alloc (.map #[] 0)=w3 at hW;have s3:w3.heap.size=w.heap.size+3:=by rw [<-h3];simp [s2]
 have k3:∀k,k<w2.heap.size->w3.heap[k]? = w2.heap[k]?:=fun k hk=>by rw [<-h3];exact Below.heap_alloc _ _ _ hk
 have b3:Below w.heap.size w w3:=by rw [<-h3];exact b2.alloc (by omega) _
 have m3:lH Tryz.prog 3 (w.heap.size+2) 0 (vF []) w3:=by rw [<-h3,<-s2];exact lH.made w2
 generalize h4:w3.alloc (.cells #[.map (some (w.heap.size+2))] 192)=w4 at hW;have s4:w4.heap.size=w.heap.size+4:=by rw [<-h4];simp [s3]
 have e4:w4.heap[w.heap.size+3]? = some (.cells #[.map (some (w.heap.size+2))] 192 (0,0)):=by rw [<-h4,<-s3];exact heap_alloc_new w3 _
 have k4:∀k,k<w3.heap.size->w4.heap[k]? = w3.heap[k]?:=fun k hk=>by rw [<-h4];exact Below.heap_alloc _ _ _ hk
 have b4:Below w.heap.size w w4:=by rw [<-h4];exact b3.alloc (by omega) _
 have k5:∀k,k<w4.heap.size->W.heap[k]? = w4.heap[k]?:=fun k hk=>by rw [<-hW];exact Below.heap_alloc _ _ _ hk
 have e5:W.heap[w.heap.size+4]? = some (.cells #[.nilFunc] 193 (0,0)):=by rw [<-hW,<-s4];exact heap_alloc_new w4 _
 have b5:Below w.heap.size w W:=by rw [<-hW];exact b4.alloc (by omega) _
 have k6:∀k,k<w4.heap.size->(W.setCell ⟨w.heap.size+4,0,none⟩ (nG w.heap.size)).heap[k]? = w4.heap[k]?:=fun k hk=>(Below.heap_setCell _ _ _ _ (by simp;omega)).trans (k5 k hk)
 refine⟨e5,b5.setCell (by simp) _,(k6 _ (by omega)).trans ((k4 _ (by omega)).trans ((k3 _ (by omega)).trans ((k2 _ (by omega)).trans e1))),⟨.slice none 0 0,(k6 _ (by omega)).trans ((k4 _ (by omega)).trans ((k3 _ (by omega)).trans e2)),World.ownsRow_nil _ _ _ _⟩,(k6 _ (by omega)).trans e4,?_,0,m3.same ((k6 _ (by omega)).trans (k4 _ (by omega))),aB⟩;unfold World.setCell;rw [Array.getElem?_modify,if_pos rfl,e5];rfl
def aK0 (xs:List Int) (w:World) (e:Ending) (w':World):Prop:=∃a c,e = .returned (.slice a xs.length c)/\w'.ownsRow w.heap.size 3 1 (.slice a xs.length c) xs.length (xs.map (Value.int .i64))/\Below w.heap.size w w'
theorem aGg (B p:Nat) (T:aR) (a:Option Addr) (n c:Nat) (xs:List Int) (w:World) (hT:cU B p T w) (ht:iJ T) (hx:jP w a n xs) (hn:n<1099511627776) :
  Calls Tryz.prog 89 #[.pointer (some ⟨p,0,none⟩),.slice a n c] w fun e w'=>aK0 (jB T xs).2 w e w':=by
 have hmm:=@run_makeMap Tryz.prog;have hx':=hid hx;have lx:=hid hx.len;have hT':=hid hT;have ht':=hid ht;have hcl:=hid (aEg B p T w hT ht.ord ht.sn ht.sm.le);have hhas:=hid (fun(i:Int) (W:World) (hW:Below w.heap.size w W)=>tD B p T i W (hT.all hW));clear hx hT ht;go_enter Tryz.func89,Tryz.ntmps89
 go_wp2;generalize hW:(((((w.alloc (.cells #[.pointer (some ⟨p,0,none⟩)] 26)).alloc (.cells #[.slice none 0 0] 23)).alloc (.map #[] 0)).alloc (.cells #[.map (some (w.heap.size+1+1))] 192)).alloc (.cells #[.nilFunc] 193))=W;obtain ⟨e5,hk0⟩:=aGf p w W hW;have c5:W.cell? ⟨w.heap.size+4,0,none⟩=some .nilFunc:=aC e5 0;have f5:W.frozen? ⟨w.heap.size+4,0,none⟩=false:=aY e5 0;have h0:=hid hk0;clear hW e5 hk0;have hst:(store ⟨w.heap.size+4,0,none⟩ (nG w.heap.size)).run Tryz.prog W = .ok () (W.setCell ⟨w.heap.size+4,0,none⟩ (nG w.heap.size)):=by
  rw [run_store _ _ _ _ _ rfl];simp [c5,f5]
 simp only [Nat.add_assoc,Nat.reduceAdd];rw [hst];simp only [Result.andThen];rw [Oper.upon_skip];clear hst c5 f5;generalize W.setCell ⟨w.heap.size+4,0,none⟩ (nG w.heap.size)=W2 at *;go_wp2
 go_loopw [8,13] (fun _ i wr=>∃j:Nat,j<=n/\i = .int .i64 j/\Hid (WkS p w wr ((xs.take j).foldl (fO T) ([],[])).1 ((xs.take j).foldl (fO T) ([],[])).2)/\Hid (nF T ((xs.take j).foldl (fO T) ([],[])))) (fun _ i _=>n - (intOf i).toNat)
 case atStart=>exact⟨0,aV,rfl,h0.out,nF.nil T⟩
 case round=>
  obtain ⟨j,hj,rfl,hSj,hokj⟩:=hrel;by_cases hlt:j<n
  ·have hjx:j<xs.length:=by rw [lx.out];exact hlt
   obtain ⟨b1,o1,rfl,k0⟩:=(hx'.out.below hSj.out.b aB).at j hlt;have hsucc:=@hid ((xs.take (j+1)).foldl (fO T) ([],[])=fO T ((xs.take j).foldl (fO T) ([],[])) (nth xs j)) (by rw [List.take_succ_eq_append_getElem hjx,List.foldl_append,cK hjx];rfl);generalize hy:nth xs j=y at *;generalize (xs.take j).foldl (fO T) ([],[])=sj at *;have hokn:=hid (hokj.out.at ht'.out.ord y);have hha:=hid (hhas.out y wr hSj.out.b);have ct:wr.cell? ⟨w.heap.size,0,none⟩=some (.pointer (some ⟨p,0,none⟩)):=aC hSj.out.t 0;have cf:wr.cell? ⟨w.heap.size+4,0,none⟩=some (nG w.heap.size):=aC hSj.out.f 0;have hji:(j:Int)<n:=by omega
   clear hy;cases hi:iD T y
   case false=>
    have hv:=@hid (fO T sj y=sj) (by unfold fO;rw [hi];rfl);rw [hi] at hha;clear hi
    go_wp2_with fail
    refine hha.out.mono ?_;rintro e1 w' ⟨rfl,rfl⟩;go_wp2
    go_roundw
    case rel=>exact⟨j+1,by omega,by go_num,by rw [hsucc.out,hv.out];exact hSj.out,by rw [hsucc.out];exact hokn.out⟩
    case measure=>simp [intOf];omega
   case true=>
    have hv:=@hid (fO T sj y=dX T (T.nodes.length+1) sj y) (by unfold fO;rw [hi];rfl);rw [hi] at hha;obtain ⟨g0,g1⟩:=lK.1 hi;obtain ⟨k,rfl⟩:=Int.eq_ofNat_of_zero_le g0;have hcall:=hid (hcl.out (T.nodes.length+1) k (by omega) (by omega) wr sj hSj.out hokj.out);clear hi g0
    go_wp2_with fail
    refine hha.out.mono ?_;rintro e1 w' ⟨rfl,rfl⟩
    go_wp2_with fail
    refine hcall.out.mono ?_;rintro e1 w3 ⟨rfl,S3⟩;have S3':=hid S3;clear S3;go_wp2
    go_roundw
    case rel=>exact⟨j+1,by omega,by go_num,by rw [hsucc.out,hv.out];exact S3'.out,by rw [hsucc.out];exact hokn.out⟩
    case measure=>simp [intOf];omega
  ·have hjt:xs.take j=xs:=List.take_of_length_le (by rw [lx.out];omega);rw [hjt] at hSj hokj;obtain ⟨v,o1,o2⟩:=hSj.out.o;have hwt:=@hid (xs.foldl (fO T) ([],[])=jB T xs) rfl;rw [hwt.out] at o2 hSj hokj;clear hjt hwt;have co:wr.cell? ⟨w.heap.size+1,0,none⟩=some v:=aC o1 0;have f0:wr.frozen? ⟨w.heap.size+1,0,none⟩=false:=aY o1 0;obtain ⟨ao,co',rfl⟩:∃ao c',v = .slice ao (jB T xs).2.length c':=by
    obtain ⟨ao,c',hv,_⟩:=(bW.of o2).slice;exact⟨ao,c',hv⟩
   have O1:=hid o1;have O2:=hid o2;clear o1 o2;go_wp2;refine bodyPost_ret (v:=.slice ao (jB T xs).2.length co') (by simp [results,Tryz.results89,go_sem, *]) rfl ?_;refine⟨ao,co',rfl,mH O2.out fun k hk=>Below.heap_setCell _ _ _ _ (fun e=>?_),hSj.out.b.setCell (by simp) _⟩;subst e;exact Lib.ownBlock_ne O2.out O1.out (by decide) hk
theorem wI {T:aR} (ho:aEd T):∀(f:Nat) (k:Nat) (st:List Int × List Int),k<T.nodes.length->(∀x∈st.2,0<=x/\x<(T.nodes.length:Int))->∀x∈(dX T f st k).2,0<=x/\x<(T.nodes.length:Int)
 | 0,_,_,_,h=>h
 |
  f+1,k,st,hk,h=>by
  unfold dX;by_cases hc:st.1.contains (k:Int)=true
  ·rw [if_pos hc];exact h
  ·rw [if_neg hc];have hfold:∀(l:List Int),(∀i∈l,0<=i/\i<(k:Int))->∀st:List Int × List Int,(∀x∈st.2,0<=x/\x<(T.nodes.length:Int))->∀x∈(l.foldl (dX T f) st).2,0<=x/\x<(T.nodes.length:Int):=by
    intro l
    induction l with
    | nil=>exact fun _ st h=>h
    |
     cons i l ih=>
     intro hl st h;obtain ⟨j,rfl⟩:=Int.eq_ofNat_of_zero_le (hl i (by simp)).1;have hj:=(hl (j:Int) (by simp)).2;exact ih (fun x hx=>hl x (by simp [hx])) _ (wI ho f j st (by omega) h)
   intro x hx;rcases List.mem_append.1 hx with hx | hx
   ·exact hfold _ (ho k _ (fC hk)) ((k:Int) :: st.1,st.2) h x hx
   ·obtain rfl:=List.mem_singleton.1 hx;omega
def aL8 (xs:List Int) (w:World) (e:Ending) (w':World):Prop:=∃a c,e = .returned (.slice a xs.length c)/\bJ bV.u64 (dM w.heap.size w') w' a xs.length xs/\xs.length<=c/\c<=maxLen/\Below w.heap.size w w'
theorem bJ.take64 {S:Nat->Prop} {w:World} {a:Option Addr} {n:Nat} {xs:List Int} (h:bJ bV.u64 S w a n xs) {k:Nat} (hk:k<=n):bJ bV.u64 S w a k (xs.take k):=by
 refine⟨by rw [List.length_take,h.1];omega,fun h0=>?_⟩;obtain ⟨b,o,ha,hl,hS,hc⟩:=h.2 (by omega);refine⟨b,o,ha,hl,hS,fun j x hx=>hc j x ?_⟩;have hj:=(List.getElem?_eq_some_iff.1 hx).1;rw [List.length_take] at hj;rw [List.getElem?_take_of_lt (by omega)] at hx;exact hx
theorem aGh (w:World):(sizeOf 177).run Tryz.prog w = .ok 1 w:=by kernel_rfl
theorem aGi {S:Nat->Prop} (a:Option Addr) (n c:Nat) (xs:List Int) (k:Nat) (w:World) (hx:bJ bV.u64 S w a n xs) (hn:n<17592186044416) (hnc:n<=c) (hk:k<=n) (hz:∀j,k<=j->j<n->nth xs j=0) (h0:k=0\/nth xs (k - 1)≠0) :
  Calls Tryz.prog 149 #[.slice a n c] w fun e w'=>aL8 (xs.take k) w e w':=by
 have hx':=hid hx;have lx:=hid hx.1;have hz':=hid hz;have h0':=hid h0;have hlk:=hid (show(xs.take k).length=k by rw [List.length_take,hx.1];omega);have hsl:=fun W=>rI (P:=Tryz.prog) (a:=a) (n:=n) (c:=c) (k:=k) Tryz.underlying34 aGh hk hnc W
 obtain ⟨i0,hi,hz0,hz1,hz2⟩:=info_parts lL;clear hx hz h0;go_enter Tryz.func149,Tryz.ntmps149
 go_wp2
 go_loopw [3] (fun i wr=>∃j:Nat,k<=j/\j<=n/\i = .int .i64 j/\wr=w) (fun i _=>(intOf i).toNat)
 case atStart=>exact⟨n,hk,aB,rfl,rfl⟩
 case round=>
  obtain ⟨j,hkj,hjn,rfl,rfl⟩:=hrel;by_cases hj:j=k
  ·subst hj;have hstop:(0<j->∃b o,a=some ⟨b,o,none⟩/\∃y:Int,y≠0/\wr.cell? ⟨b,o+(j - 1),none⟩=some (.int .u64 y)):=fun hp=>by
    obtain ⟨b,o,ha,hc,_⟩:=hx'.out.at64 (k:=j - 1) (by rw [lx.out];omega);rcases h0'.out with e | e
    ·omega
    ·exact⟨b,o,ha,_,e,hc⟩
   have fin:∀(ww:World),ww=wr->True:=fun _ _=>trivial
   rcases Nat.eq_zero_or_pos j with hj0 | hj0
   ·subst hj0;clear hstop;cases a with
    |
     none=>
     go_wp2;go_ret;exact⟨_,0,rfl,bJ.nil _ _ _ _,aB,aV,bD⟩
    |
     some a=>
     go_wp2;go_ret;exact⟨_,0,rfl,bJ.nil _ _ _ _,aB,aV,bD⟩
   ·obtain ⟨b,o,rfl,y,hy,hc⟩:=hstop hj0;have hjm:((j:Int) - 1)=((j - 1:Nat):Int):=by omega
    have hjl:((j - 1:Nat):Int)<n:=by omega
    have hjl2:j - 1<n:=by omega
    have hyd:(y == 0)=false:=by simpa using hy
    have hjp:(0:Int)<j:=by omega
    have hsrc:=hid (((hx'.out.take64 hk).src64).2 (by omega))
    go_wp2_with (at_builtin;refine wpList_append_own _ rfl _ _ 34 rfl wr.heap.size 177 i0 (.int .u64 0) 1 8 Tryz.underlying34 hi hz0 hz1 hz2 rfl (by decide) _ _ _ rfl (World.ownsRow_made wr #[] 0 aB aV rfl) ⟨b,o,none⟩ j c ((xs.take j).map (Value.int .u64)) rfl ?m1 ?m2 ?m3 ?m4 ?m5 ?m6 ?_)
    case m1=>rw [List.length_map,hlk.out,Nat.mul_one]
    case m2=>
     intro z u hu;obtain ⟨ad,had,hcs⟩:=hsrc.out;cases had;exact aD ((Below.refl wr.heap.size wr).alloc aB _) (hcs z u hu)
    case m3=>intro u hu;obtain ⟨x,_,rfl⟩:=List.mem_map.1 hu;rfl
    case m4=>unfold maxLen;omega
    case m5=>omega
    case m6=>simp
    intro v' w1 ho hg hl;have ho':=hid (bW.toU (w:=w1) (base:=wr.heap.size) (v:=v') (xs:=xs.take j) (by rw [hlk.out];simpa using bW.of ho) (hx'.out.take64 hk).us);obtain ⟨a',c',rfl,hcc⟩:=(bW.of ho).slice;have hb:=hid (((Below.refl wr.heap.size wr).alloc aB (.cells #[] 177)).grown hg (by simp) (by intro q hq;simp [Value.ownBlock] at hq;omega));clear ho hg hl;go_wp2;go_ret;exact⟨a',c',by rw [hlk.out];simp,by rw [hlk.out];have h9:=ho'.out.datF (n:=wr.heap.size) aB;simpa using h9,by rw [hlk.out];simpa using hcc.1,hcc.2,hb.out⟩
  ·obtain ⟨b,o,rfl,hc,_⟩:=hx'.out.at64 (k:=j - 1) (by rw [lx.out];omega);have hyz:=hz'.out (j - 1) (by omega) (by omega);rw [hyz] at hc;obtain ⟨i,rfl⟩:∃i,j=i+1:=⟨j - 1,by omega⟩;rw [Nat.add_sub_cancel] at hc;have hil:(i:Int)<n:=by omega
   have hil2:i<n:=by omega
   clear hyz;go_wp2
   go_roundw
   case rel=>exact⟨i,by omega,by omega,by go_num,trivial⟩
   case measure=>first | (simp [intOf];done) | (simp [intOf];omega)
theorem or_bit {x t:Nat} (h:x % 2 ^ (t+1)=0):x ||| 2 ^ t=x+2 ^ t:=by
 have h1:=Nat.div_add_mod x (2 ^ (t+1));rw [h,Nat.add_zero] at h1;rw [<-h1];exact(Nat.two_pow_add_eq_or_of_lt (Nat.pow_lt_pow_right (by decide) (Nat.lt_succ_self t)) (x / 2 ^ (t+1))).symm
theorem aGj {x t:Nat} (ht:t<64) (hx:x<2 ^ 64) (h:x % 2 ^ (t+1)=0):x+2 ^ t<2 ^ 64:=by
 have h1:=Nat.div_add_mod x (2 ^ (t+1));rw [h,Nat.add_zero] at h1;have e:(2:Nat) ^ 64=2 ^ (t+1) * 2 ^ (63 - t):=by rw [<-Nat.pow_add];congr 1;omega
 have h2:x / 2 ^ (t+1)<2 ^ (63 - t):=by
  apply Nat.lt_of_mul_lt_mul_left (a:=2 ^ (t+1));rw [h1,<-e];exact hx
 have h3:2 ^ (t+1) * (x / 2 ^ (t+1)+1)<=2 ^ (t+1) * 2 ^ (63 - t):=Nat.mul_le_mul_left _ h2;rw [Nat.mul_add,h1,<-e,Nat.mul_one,Nat.pow_succ] at h3;have:=Nat.two_pow_pos t;omega
theorem aI9 {a b V r k:Nat} (h:a=V * b+r) (hr:r<b * 2 ^ (k+1)) (hv:V % 2 ^ (k+1)=0) :
  V % 2 ^ k=0/\(V+2 ^ k) % 2 ^ k=0/\(b * 2 ^ k<=r->a=(V+2 ^ k) * b+(r - b * 2 ^ k)/\r - b * 2 ^ k<b * 2 ^ k):=by
 have h1:V % 2 ^ k=0:=by
  have:=Nat.mod_mod_of_dvd V (Nat.pow_dvd_pow 2 (Nat.le_succ k));rw [hv] at this;rw [<-this];rw [Nat.zero_mod]
 refine⟨h1,by rw [Nat.add_mod_right];exact h1,fun hle=>?_⟩;rw [Nat.pow_succ,<-Nat.mul_assoc] at hr;rw [Nat.add_mul,Nat.mul_comm (2 ^ k) b];omega
theorem aGk {a b p q:Nat} (ha:a<2 ^ p) (hb:2 ^ q<=b):a<b * 2 ^ (p - q):=by
 have:2 ^ p<=b * 2 ^ (p - q):=by
  rcases Nat.le_total q p with h | h
  ·have h2:=Nat.mul_le_mul_right (2 ^ (p - q)) hb;rw [<-Nat.pow_add,show q+(p - q)=p by omega] at h2;exact h2
  ·rw [Nat.sub_eq_zero_of_le h,Nat.pow_zero,Nat.mul_one];exact aK (Nat.pow_le_pow_right (by decide) h) hb
 omega
theorem aK1 {a b V r:Nat} (h:a=V * b+r) (hr:r<b):V=a / b/\r=a % b:=by
 have hb:0<b:=by omega
 rw [h,Nat.mul_comm,Nat.mul_add_div hb,Nat.div_eq_of_lt hr,Nat.mul_add_mod,Nat.mod_eq_of_lt hr];exact⟨rfl,rfl⟩
theorem aGl {t:Nat} {v W x n bl:Nat} (hW:W=2 ^ (64 * n)) (hv:v<W) (hx:x=v+W * t) (h1:1<=bl) (h2:2 ^ (bl - 1)<=t) (h3:t<2 ^ bl):2 ^ (64 * n+bl - 1)<=x/\x<2 ^ (64 * n+bl):=by
 constructor
 ·rw [hx,show 64 * n+bl - 1=64 * n+(bl - 1) by omega,Nat.pow_add,<-hW];exact aK (Nat.mul_le_mul_left _ h2) (Nat.le_add_left _ _)
 ·rw [hx,Nat.pow_add,<-hW];have:W * (t+1)<=W * 2 ^ bl:=Nat.mul_le_mul_left _ h3;rw [Nat.mul_add,Nat.mul_one] at this;omega
theorem aAf {V W t j x rest v:Nat} (hV:V % (W * 2 ^ (t+1))=0) (hW:0<W) (hx:V=v+W * (x+2 ^ 64 * rest)) (hv:v<W) (ht:t<64) (_:j=j):x % 2 ^ (t+1)=0:=by
 have h1:=Nat.div_add_mod V (W * 2 ^ (t+1));rw [hV,Nat.add_zero,Nat.mul_assoc] at h1;have h2:v=0:=by
  have:V % W=v:=by rw [hx,Nat.add_mul_mod_self_left,Nat.mod_eq_of_lt hv]
  rw [<-this,<-h1,Nat.mul_mod_right]
 have h3:x+2 ^ 64 * rest=2 ^ (t+1) * (V / (W * 2 ^ (t+1))):=by
  apply Nat.eq_of_mul_eq_mul_left hW;rw [h1,hx,h2,Nat.zero_add]
 have h4:(x+2 ^ 64 * rest) % 2 ^ (t+1)=0:=by rw [h3,Nat.mul_mod_right]
 rw [show(2:Nat) ^ 64=2 ^ (t+1) * 2 ^ (63 - t) by rw [<-Nat.pow_add];congr 1;omega,Nat.mul_assoc,Nat.add_mul_mod_self_left] at h4;exact h4
theorem aGm {l:List Int} {i:Nat} (y:Int) (h:i<l.length):aM (l.set i y)+aO ^ i * (nth l i).toNat=aM l+aO ^ i * y.toNat:=by
 have h1:=nV h;have h2:=nV (xs:=l.set i y) (i:=i) (by rw [List.length_set];exact h);rw [List.take_set_of_le aB,List.drop_set_of_lt (Nat.lt_succ_self i),cK (xs:=l.set i y) (by rw [List.length_set];exact h),List.getElem_set_self] at h2;rw [Nat.mul_add] at h1 h2;have e:l.drop i.succ=l.drop (i+1):=rfl;rw [e] at h2;omega
theorem aEh {l:List Int} {i t:Nat} (ho:bO l) (hi:i<l.length) (ht:t<64) (hv:aM l % 2 ^ (64 * i+t+1)=0) :
  ∃x z:Nat,nth l i=(x:Int)/\x<aO/\z<aO/\x ||| 2 ^ t=z/\aM (l.set i (z:Int))=aM l+2 ^ (64 * i+t):=by
 have hx:=ho.nth hi;have e:=dS;have hat:=nV hi;have htl:=eR (ho.take i);rw [List.length_take,Nat.min_eq_left (by omega)] at htl;have hp:(2:Nat) ^ (64 * i+t+1)=aO ^ i * 2 ^ (t+1):=by rw [Nat.add_assoc,pL]
 rw [hp] at hv;have hmod:=aAf (j:=0) (t:=t) (W:=aO ^ i) hv (Nat.pow_pos eL) (by rw [e];exact hat) htl ht rfl;have hxl:=hx.lt;have hroom:=aGj ht (by rw [e];exact hxl) hmod;refine⟨(nth l i).toNat,(nth l i).toNat+2 ^ t,hx.cast.symm,hxl,by rw [<-e];exact hroom,or_bit hmod,?_⟩;have hs:=aGm (l:=l) (((nth l i).toNat+2 ^ t:Nat):Int) hi;rw [Int.toNat_natCast,Nat.mul_add] at hs;rw [pL];omega
def kG (x:Nat):Nat:=if x=0 then 0 else 64 * ((aF x).length - 1)+Go.Lib.bitLen (nth (aF x) ((aF x).length - 1)).toNat
theorem qR {x:Nat} (h:0<x):2 ^ (kG x - 1)<=x/\x<2 ^ kG x/\1<=kG x/\kG x<=64 * (aF x).length:=by
 have hl:=aZ.2 h;have hsp:=nV (xs:=aF x) (i:=(aF x).length - 1) (by omega);have ho:=(dL x).nth (i:=(aF x).length - 1) (by omega);have htl:=eR ((dL x).take ((aF x).length - 1));rw [List.length_take,Nat.min_eq_left (by omega)] at htl;rw [aU,List.drop_eq_nil_of_le (by omega),eV,Nat.mul_zero,Nat.add_zero] at hsp;have hne:(nth (aF x) ((aF x).length - 1)).toNat≠0:=by
  have:=lF x (nth (aF x) ((aF x).length - 1)) (by rw [cK (by omega),List.getLast?_eq_getElem?,List.getElem?_eq_getElem (by omega)]);have:=ho.1;omega
 unfold kG;rw [if_neg (by omega)];have hlt:=ho.lt;have hbd:=aBx (y:=(nth (aF x) ((aF x).length - 1)).toNat) (by omega) hlt;have hn1:(aF x).length - 1+1=(aF x).length:=by omega
 generalize (nth (aF x) ((aF x).length - 1)).toNat=t at *;generalize (aF x).length - 1=n at *;obtain ⟨s,hs,hb,h1,h2⟩:=hbd;rw [hb];have hW:aO ^ n=2 ^ (64 * n):=by rw [Nat.pow_mul,dS]
 have p63:(9223372036854775808:Nat)=2 ^ (64 - s - 1) * 2 ^ s:=by rw [<-Nat.pow_add,show 64 - s - 1+s=63 by omega]
 have p64:(18446744073709551616:Nat)=2 ^ (64 - s) * 2 ^ s:=by rw [<-Nat.pow_add,show 64 - s+s=64 by omega]
 have g1:2 ^ (64 - s - 1)<=t:=Nat.le_of_mul_le_mul_right (by rw [<-p63];exact h1) (Nat.two_pow_pos s);have g2:t<2 ^ (64 - s):=Nat.lt_of_mul_lt_mul_right (a:=2 ^ s) (by rw [<-p64];exact h2);obtain ⟨q1,q2⟩:=aGl (bl:=64 - s) hW htl hsp (by omega) g1 g2;refine⟨q1,q2,by omega,?_⟩;omega
theorem aB7:kG 0=0:=by unfold kG;rw [if_pos rfl]
section
variable {S S' : Nat -> Prop}
theorem aGn (a b:Option Addr) (n m c d x y:Nat) (w:World) (hx:bJ bV.u64 S w a n (aF x)) (hy:bJ bV.u64 S' w b m (aF y)) (hn:n<17592186044416) (hm:m<17592186044416) :
  Calls Tryz.prog 161 #[.slice a n c,.slice b m d] w fun e w'=>e = .returned (.int .i64 (dU x y))/\∃q,w'=w.drewN q:=by
 have lx:=hx.1;have ly:=hy.1;by_cases hnm:n=m
 case neg=>
  have hne:¬((n:Int)=m):=by omega
  have hneb:((n:Int) != m)=true:=by simpa using hne
  by_cases hlt:n<m
  ·have hv:=hid (show dU x y = -1 from mD (kJ (by omega)));have hli:(n:Int)<m:=by omega
   clear hx hy lx ly hnm;go_enter Tryz.func161,Tryz.ntmps161
   go_wp2;go_ret;exact⟨by rw [hv.out];rfl,0,rfl⟩
  ·have hv:=hid (show dU x y=1 from nW (kJ (by omega)));have hli:¬(n:Int)<m:=by omega
   have hld:decide ((n:Int)<m)=false:=by simpa using hli
   clear hx hy lx ly hnm;go_enter Tryz.func161,Tryz.ntmps161
   go_wp2;go_ret;exact⟨by rw [hv.out];rfl,0,rfl⟩
 subst hnm;have hx':=hid hx;have hy':=hid hy;have hox:=hid (dL x);have hoy:=hid (dL y);have hvx:=hid (aU x);have hvy:=hid (aU y);have lx':=hid lx;have ly':=hid ly;generalize aF x=xs at *;generalize aF y=ys at *;clear hx hy lx ly;go_enter Tryz.func161,Tryz.ntmps161
 go_wp2
 go_loopw [4,5] (fun v4 v5 wr=>∃j:Nat,j<=n/\v4 = .int .i64 0/\v5 = .int .i64 ((j:Int) - 1)/\Hid (∀k,j<=k->k<n->nth xs k=nth ys k)/\∃q,wr=w.drewN q) (fun _ v5 _=>(intOf v5+1).toNat)
 case atStart=>exact⟨n,aB,rfl,rfl,fun k h1 h2=>absurd h1 (by omega),0,rfl⟩
 case round=>
  obtain ⟨j,hj,rfl,rfl,heq,q,rfl⟩:=hrel;by_cases hj0:j=0
  ·subst hj0;go_wp2;go_ret;have e:xs=ys:=wV (by rw [lx'.out,ly'.out]) fun k hk=>heq.out k aV (by have:=lx'.out;omega)
   exact⟨by rw [<-hvx.out,<-hvy.out,e,oB];rfl,q,rfl⟩
  ·obtain ⟨i,rfl⟩:∃i,j=i+1:=⟨j - 1,by omega⟩;obtain ⟨b1,o1,rfl,k1,u1⟩:=hx'.out.at64 (k:=i) (by rw [lx'.out];omega);obtain ⟨b2,o2,rfl,k2,u2⟩:=hy'.out.at64 (k:=i) (by rw [ly'.out];omega);have hji:(((i+1:Nat):Int) - 1)=i:=by omega
   rw [hji];have hil:(i:Int)<n:=by omega
   have hi2:i<n:=by omega
   by_cases he:nth xs i=nth ys i
   ·have heq2:=@hid (∀k,i<=k->k<n->nth xs k=nth ys k) (fun k h1 h2=>by
     by_cases hk:k=i
     ·rw [hk];exact he
     ·exact heq.out k (by omega) h2)
    rw [<-he] at k2;clear he hji u1 u2;generalize nth xs i=z at *;go_wp2
    go_quiet (fail)
    go_wp2
    go_quiet (fail)
    go_wp2
    go_roundw
    case rel=>exact⟨i,by omega,rfl,rfl,heq2.out,_,by first | rfl | (rw [World.drewN_drewN,World.drewN_drewN]) | (rw [World.drewN_drewN])⟩
    case measure=>first | (simp [intOf];done) | (simp [intOf];omega)
   ·have hje:∀k,i<k->k<xs.length->nth xs k=nth ys k:=fun k h1 h2=>heq.out k (by omega) (by have:=lx'.out;omega)
    by_cases hlt:nth xs i<nth ys i
    ·have hcv:=hid (show dU x y = -1 from by
      apply mD;have:=aC2 hox.out (by rw [lx'.out,ly'.out]) (by rw [lx'.out];exact hi2) hje hlt
      rwa [hvx.out,hvy.out] at this)
     have hltd:decide (nth xs i<nth ys i)=true:=by simpa using hlt
     clear he hji hje u1 u2;generalize nth xs i=z at *;generalize nth ys i=z' at *;go_wp2
     go_quiet (fail)
     go_wp2;go_ret;exact⟨by rw [hcv.out];rfl,_,by first | rfl | (rw [World.drewN_drewN])⟩
    ·have hgt:nth ys i<nth xs i:=by omega
     have hcv:=hid (show dU x y=1 from by
      apply nW;have:=aC2 hoy.out (by rw [lx'.out,ly'.out]) (by rw [ly'.out];exact hi2) (fun k h1 h2=>(hje k h1 (by rw [lx'.out];rw [ly'.out] at h2;exact h2)).symm) hgt
      rwa [hvx.out,hvy.out] at this)
     have hltd:decide (nth xs i<nth ys i)=false:=by simpa using hlt
     have hgtd:decide (nth ys i<nth xs i)=true:=by simpa using hgt
     clear he hji hje u1 u2;generalize nth xs i=z at *;generalize nth ys i=z' at *;go_wp2
     go_quiet (fail)
     go_wp2
     go_quiet (fail)
     go_wp2;go_ret;exact⟨by rw [hcv.out];rfl,_,by first | rfl | (rw [World.drewN_drewN,World.drewN_drewN]) | (rw [World.drewN_drewN])⟩
theorem wJ (a:Option Addr) (n c x:Nat) (w:World) (hx:bJ bV.u64 S w a n (aF x)) (hn:n<=1099511627776):Calls Tryz.prog 217 #[.slice a n c] w fun e w'=>e = .returned (.int .i64 (kG x))/\w=w':=by
 rcases Nat.eq_zero_or_pos x with rfl | h0
 ·have hl:=hx.1;rw [cB] at hl;have hl0:n=0:=hl.symm;subst hl0;rw [aB7];clear hx hl;go_enter Tryz.func217,Tryz.ntmps217
  go_wp2;go_ret;exact⟨rfl,rfl⟩
 ·have lx:=hx.1;have hlp:=aZ.2 h0;obtain ⟨k,rfl⟩:∃k,n=k+1:=⟨n - 1,by omega⟩;obtain ⟨b1,o1,rfl,k1,u1⟩:=hx.at64 (k:=k) (by omega);have hbn:kG x=64 * k+Go.Lib.bitLen (nth (aF x) k).toNat:=by unfold kG;rw [if_neg (by omega),lx,Nat.add_sub_cancel]
  have hl:=hid (Tryz.bits_Len64 (nth (aF x) k) w u1.1 u1.2);have hbl:=hid (show Lib.bitLen (nth (aF x) k).toNat<=64 from Lib.bitLen_le _ 64 aB (by have:=u1.lt;unfold aO at this;exact this));have hbn':=hid hbn;generalize Lib.bitLen (nth (aF x) k).toNat=bl at *;generalize nth (aF x) k=z at *;have hbl2:=hbl.out;clear hx lx hlp hbn u1;go_enter Tryz.func217,Tryz.ntmps217
  go_wp2_with fail
  refine hl.out.mono ?_;rintro e w' ⟨rfl,rfl⟩;go_wp2;go_ret;exact⟨jL (by rw [hbn'.out];omega),rfl⟩
end
theorem aJ7 {w:World} {base:Nat} {v:Value} {xs:List Int} {n:Nat} {us:List Value} (h:w.ownsRow base 177 1 v n us) (ok:aKu xs) (hn:n=xs.length:=by rfl) (hu:us=xs.map (Value.int .u64):=by rfl):bK bV.u64 (fun _=>False) w base 177 v xs:=by
 subst hn hu;exact bW.toU (bW.of h) ok
end Go.Proofs.YtgoojkiccdjplaaGreatDoor
