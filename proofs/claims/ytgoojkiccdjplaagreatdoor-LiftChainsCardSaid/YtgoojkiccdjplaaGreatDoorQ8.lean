/-
  Parts of this claim's texts, one behind the other: CO JC GC FP FR UE UF UG UH UI UJ UK UL UM UO UP FW. No condition.
-/
import Derived.Test.YtgoojkiccdjplaaGreatDoorQ7
import Derived.Test.YtgoojkiccdjplaaGreatDoorQ6
set_option linter.unusedVariables false
set_option linter.unusedSimpArgs false
set_option maxRecDepth 100000
set_option maxHeartbeats 16000000
namespace Go.Proofs.YtgoojkiccdjplaaGreatDoor
open Go.RowKit Go.Sort Go.Lib Go.Proofs.Tryz
structure uD where
 op:Int
 name:ByteArray
 val:cJ
 args:List Int
 raw:Bool
def rF:cH uD:=cH.map (fun s=>(s.op,s.name,s.val,s.args,s.raw)) (.prod .int (.prod .strB (.prod aQ4 (.prod (.slice .int) .bool))))
theorem aQq:rF.k=7:=rfl
theorem lM.u64 {P:Program} {t:TypeId} (g:P.underlying t=some (.int .u64)) (f:P.cellsOf t=1):lM P t cH.u64:=⟨f,fun enc w i cs x h=>by
 obtain ⟨n,rfl,_,b⟩:=DataW.trod_int g h;refine⟨n,rfl,?_⟩;have d:IntKind.u64.min=0:=by decide
 have e:IntKind.u64.max=18446744073709551615:=by decide
 unfold Lit.wf at b;unfold okU;simp [d,e] at b;omega⟩
theorem aQr:lM prog 36 aQ4:=
 .map (fun r:cJ=>(r.neg,r.num,r.den)) (fun x=>⟨x.1,x.2.1,x.2.2⟩) (fun _=>rfl)
  (.struct underlying36 (by kernel_rfl)
   (nJ.cons rfl (.bool underlying4 (by kernel_rfl)) rfl
    (nJ.cons rfl (.slice (.u64 underlying177 (by kernel_rfl)) underlying34 (by kernel_rfl) (by decide)) rfl
     (nJ.one rfl (.slice (.u64 underlying177 (by kernel_rfl)) underlying34 (by kernel_rfl) (by decide))))))
structure aWb (S:Nat->Prop) (w:World) (s:uD) (a:Option Addr) (c:Nat) (b:Option Addr) (d:Nat) (g:Option Addr) (e:Nat):Prop where
 num:bT cH.u64 S w a s.val.num.length s.val.num
 nc:s.val.num.length<=c/\c<=maxLen
 den:bT cH.u64 S w b s.val.den.length s.val.den
 dc:s.val.den.length<=d/\d<=maxLen
 args:bT cH.int S w g s.args.length s.args
 ac:s.args.length<=e/\e<=maxLen
 op:eI s.op
def aTt (s:uD) (a:Option Addr) (c:Nat) (b:Option Addr) (d:Nat) (g:Option Addr) (e:Nat):List Value:=
 [.int .i64 s.op,.string s.name,.bool s.val.neg,.slice a s.val.num.length c,.slice b s.val.den.length d,.slice g s.args.length e,.bool s.raw]
theorem aNx {S:Nat->Prop} {w:World} {s:uD} {cs:List Value} (h:rF.rd S w s cs):∃a c b d g e,cs=aTt s a c b d g e/\aWb S w s a c b d g e:=by
 obtain ⟨p,q,rfl,⟨r,f⟩,H,P,rfl,⟨t,_⟩,N,Q,rfl,y,O,I,rfl,⟨g,m,e,A,C,D,i⟩,E⟩:=h;obtain ⟨a,n,c,b,k,d,rfl,J,K,j,L,M,o⟩:=zL.1 y;have f:p = [.int .i64 s.op]:=r;have x:H = [.string s.name]:=t;have G:I = [.bool s.raw]:=E;subst f x G A;obtain rfl:n=s.val.num.length:=j.1.symm;obtain rfl:k=s.val.den.length:=o.1.symm;obtain rfl:m=s.args.length:=i.1.symm;exact⟨a,c,b,d,g,e,rfl,j,⟨J,K⟩,o,⟨L,M⟩,i,⟨C,D⟩,by assumption⟩
theorem bT.stepAt {S:Nat->Prop} {w:World} {a:Option Addr} {n k:Nat} {xs:List uD} {x:uD} (h:bT rF S w a n xs) (A:xs[k]? = some x) :
  ∃b o f m j d g e,a=some ⟨b,o,none⟩/\aWb S w x f m j d g e/\∀i u,(aTt x f m j d g e)[i]? = some u->w.cell? ⟨b,o+k * 7+i,none⟩=some u:=by
 obtain ⟨b,o,cs,r,_,y,q⟩:=h.at A;obtain ⟨f,m,j,d,g,e,rfl,t⟩:=aNx y;rw [aQq] at q;exact⟨b,o,f,m,j,d,g,e,r,t,q⟩
theorem aIg (r:cJ) (a b:Option Addr) (c d:Nat) (w:World):Calls prog 64 #[fA r a c b d] w fun e w'=>e = .returned (.bool (decide (r.num.length<=8) && decide (r.den.length<=8)))/\Below w.heap.size w w':=by
 obtain ⟨t,f,g⟩:=r;dsimp only;by_cases i:f.length<=8
 ·have j:(f.length:Int)<=8:=by omega
  have m:=Z (show decide ((g.length:Int)<=8)=(decide (f.length<=8) && decide (g.length<=8)) from by
   rw [bV i,eT];by_cases h:g.length<=8
   ·rw [bV h,bV (by omega)]
   ·rw [aR h,aR (by omega)])
  go_enter func64,ntmps64
  go_wp2;go_ret;exact⟨aI m.o,bJ⟩
 ·have j:¬(f.length:Int)<=8:=by omega
  have q:decide ((f.length:Int)<=8)=false:=aR j;have m:=Z (show false=(decide (f.length<=8) && decide (g.length<=8)) from by rw [aR i];rfl);go_enter func64,ntmps64
  go_wp2;go_ret;exact⟨rfl,bJ⟩
def aTu (k n:Int):Int:=k.tmod n % n
theorem aIh (k n:Int) (h:0<n):0<=aTu k n/\aTu k n<n:=
 ⟨Int.emod_nonneg _ (by omega),Int.emod_lt_of_pos _ h⟩
theorem aIi (k n:Int) (w:World) (b:0<n) (d:n<4611686018427387904) :
  Calls prog 37 #[.int .i64 k,.int .i64 n] w fun e w'=>e = .returned (.int .i64 (aTu k n))/\w=w':=by
 have g:(n == 0)=false:=by simp;omega
 have f:=Int.tmod_lt_of_pos k b;have h:-n<k.tmod n:=by
  have:=Int.lt_tmod_of_pos k b;omega
 have e:=@Z (aTu k n=k.tmod n % n) rfl;generalize i:k.tmod n=q at *;go_enter func37,ntmps37
 go_wp2;go_ret;exact⟨mI (by rw [e.o,Int.add_emod_right]),rfl⟩
def aBc (s:uD):Prop:=s.name.size<=100/\s.args.length<=66/\s.val.num.length<=8/\s.val.den.length<=8
def aYs (xs:List uD) (w:World) (e:Ending) (w':World):Prop:=∃t,e = .returned (.bool t)/\(t=true->xs.length<=60/\∀s∈xs,aBc s)/\Below w.heap.size w w'
def aXw (w:World) (e:Ending) (w':World):Prop:=∃p r q,e = .returned (.tuple #[.pointer (some ⟨p,0,none⟩),.pointer (some ⟨r,0,none⟩)])/\Two w p r q (jO (T7 10)) w'
structure eG (X:Nat->Prop) (w w':World):Prop where
 os:w'.os=w.os
 tape:w'.tape=w.tape
 output:w'.output=w.output
 size:w.heap.size<=w'.heap.size
 block:∀q,q<w.heap.size->¬X q->w'.heap[q]? = w.heap[q]?
abbrev oN (nb:Nat) (w w':World):Prop:=eG (fun q=>q=nb) w w'
abbrev K2 (nb pt:Nat) (w w':World):Prop:=eG (fun q=>q=nb\/q=pt) w w'
section
variable {X Y : Nat -> Prop} {nb pt B : Nat} {w w' w'' w0 : World}
theorem eG.of (h:Below w.heap.size w w'):eG X w w':=⟨h.os,h.tape,h.output,h.size,fun q b _=>h.block q b⟩
theorem eG.refl (X:Nat->Prop) (w:World):eG X w w:=⟨rfl,rfl,rfl,aA,fun _ _ _=>rfl⟩
theorem eG.trans (h:eG X w w') (k:eG X w' w''):eG X w w'':=⟨k.os.trans h.os,k.tape.trans h.tape,k.output.trans h.output,aH h.size k.size,fun q b e=>(k.block q (bG b h.size) e).trans (h.block q b e)⟩
theorem eG.mono (h:eG X w w') (b:∀q,X q->Y q):eG Y w w':=⟨h.os,h.tape,h.output,h.size,fun q d e=>h.block q d fun x=>e (b q x)⟩
theorem eG.drop (h:eG X w w') (k:eG Y w' w'') (d:∀q,Y q->X q\/w.heap.size<=q):eG X w w'':=
 ⟨k.os.trans h.os,k.tape.trans h.tape,k.output.trans h.output,aH h.size k.size,fun q b e=>(k.block q (bG b h.size) fun y=>(d q y).elim e fun z=>by omega).trans (h.block q b e)⟩
theorem eG.below (h:eG X w w') (b:B<=w.heap.size) (d:∀q,X q->B<=q):Below B w w':=⟨h.os,h.tape,h.output,h.size,fun q f=>h.block q (bG f b) fun e=>by have:=d q e;omega⟩
theorem eG.at (h:eG X w w') {q:Nat} {o:Obj} (b:w.heap[q]? = some o) (e:¬X q):w'.heap[q]? = some o:=(h.block q (bH b).1 e).trans b
theorem eG.cell (h:eG X w w') {p i:Nat} {u:Value} (b:w.cell? ⟨p,i,none⟩=some u) (e:¬X p):w'.cell? ⟨p,i,none⟩=some u:=by
 have d:=uK w _ b;unfold World.cell? at b ⊢;rw [h.block p d e];exact b
theorem eG.setL (h:eG X w w') {p:Nat} (d:w.heap.size<=p\/X p) {cs:Array Value} {t:TypeId} (g:t≠3) (i:t≠177) (j:w'.heap[p]? = some (.cells cs t (0,0))) (f:List (Nat × Value)):eG X w (setL p f w'):=by
 have b:=(dQ g i f w' cs j).2.2 0 w' aN (aO _ _);exact⟨b.os.trans h.os,b.tape.trans h.tape,b.output.trans h.output,aH h.size b.size,fun q m e=>(eK (by rintro rfl;rcases d with d | d;omega;exact e d) f w').trans (h.block q m e)⟩
structure WCl (fn:Value) (lb nb xb:Nat) (a:Option Addr) (n c:Nat) (l:List Int) (k:Nat) (w:World):Prop where
 bl:w.heap[lb]? = some (.cells #[.slice a n c] 23 (0,0))
 bn:∃z:Nat,z<=k/\w.heap[nb]? = some (.cells #[.int .i64 z] 3 (0,0))
 bx:w.heap[xb]? = some (.cells #[fn] 162 (0,0))
 rd:bT cH.int (fun q=>q<lb) w a n l
 ne:lb<nb/\nb<xb
variable {fn : Value} {lb xb n c k k' : Nat} {a : Option Addr} {l : List Int}
theorem WCl.all (h:WCl fn lb nb xb a n c l k w) (b:Below w.heap.size w w'):WCl fn lb nb xb a n c l k w':=
 ⟨(b.block _ (bH h.bl).1).trans h.bl,by obtain ⟨z,d,e⟩:=h.bn;exact⟨z,d,bD b e⟩,(b.block _ (bH h.bx).1).trans h.bx,h.rd.below b aA,h.ne⟩
theorem WCl.count (h:WCl fn lb nb xb a n c l k w) (b:oN nb w w') {z:Nat} (g:z<=k') (e:w'.heap[nb]? = some (.cells #[.int .i64 z] 3 (0,0))):WCl fn lb nb xb a n c l k' w':=
 ⟨b.at h.bl (by have:=h.ne;omega),⟨z,g,e⟩,b.at h.bx (by have:=h.ne;omega),h.rd.keep (fun q f d=>b.block q f (by have:=h.ne;have:q<lb:=d;omega)) b.size,h.ne⟩
theorem WCl.high (h:WCl fn lb nb xb a n c l k w) (g:w.heap.size<=w'.heap.size) (b:∀q,q<=xb->w'.heap[q]? = w.heap[q]?):WCl fn lb nb xb a n c l k w':=
 ⟨(b _ (by have:=h.ne;omega)).trans h.bl,by obtain ⟨z,d,e⟩:=h.bn;exact⟨z,d,(b _ (by have:=h.ne;omega)).trans e⟩,(b _ aA).trans h.bx,h.rd.keep (fun q i f=>b q (by have:=h.ne;have:q<lb:=f;omega)) g,h.ne⟩
theorem WCl.highX (h:WCl fn lb nb xb a n c l k w) {pm:Nat} (i:lb<pm/\pm<nb) (g:w.heap.size<=w'.heap.size) (b:∀q,q<=xb->q≠pm->w'.heap[q]? = w.heap[q]?):WCl fn lb nb xb a n c l k w':=
 ⟨(b _ (by have:=h.ne;omega) (by omega)).trans h.bl,by obtain ⟨z,e,f⟩:=h.bn;exact⟨z,e,(b _ (by have:=h.ne;omega) (by omega)).trans f⟩,(b _ aA (by have:=h.ne;omega)).trans h.bx,h.rd.keep (fun q j d=>b q (by have:=h.ne;have:q<lb:=d;omega) (by have:q<lb:=d;omega)) g,h.ne⟩
theorem WCl.mono (h:WCl fn lb nb xb a n c l k w) (e:k<=k'):WCl fn lb nb xb a n c l k' w:=⟨h.bl,by obtain ⟨z,d,b⟩:=h.bn;exact⟨z,by omega,b⟩,h.bx,h.rd,h.ne⟩
end
def aWc (fn:Value) (lb nb xb:Nat) (a:Option Addr) (n c:Nat) (l:List Int) (k:Nat) (m:Int) (w:World) (e:Ending) (w':World):Prop:=
 ∃v:Int,e = .returned (.int .i64 v)/\0<=v/\v<m/\oN nb w w'/\WCl fn lb nb xb a n c l (k+1) w'
theorem aNy {fn:Value} {lb nb xb n c k:Nat} {a:Option Addr} {l:List Int} {w:World} (h:WCl fn lb nb xb a n c l k w) (P:k<=100000) (U:n<=1099511627776) (m:Int) (j:0<m) (Q:m<1000) :
  Calls prog 96 #[.int .i64 m,.pointer (some ⟨lb,0,none⟩),.pointer (some ⟨nb,0,none⟩)] w fun e w'=>aWc fn lb nb xb a n c l k m w e w':=by
 obtain ⟨z,af,g⟩:=h.bn;have r:=Z h;have G:=E h.bl 0;have H:=E g 0;have O:=aQ g 0;simp only [dW,dS] at G H;have ag:=Z g;have y:=Z (fun(W:World) (f:Below w.heap.size w W) (v:Int) (i:0<=v) (J:v<m)=>show aWc fn lb nb xb a n c l k m w (.returned (.int .i64 v)) (W.setCell ⟨nb,0,none⟩ (.int .i64 ((z+1:Nat):Int))) from by
  have L:=bD f g;have D:oN nb w (W.setCell ⟨nb,0,none⟩ (.int .i64 ((z+1:Nat):Int))):=⟨f.os,f.tape,f.output,by rw [eX];exact f.size,fun q A K=>(dZ _ _ _ _ K).trans (f.block q A)⟩;exact⟨v,rfl,i,J,D,r.o.count D (z:=z+1) (by omega) (by unfold World.setCell;rw [iN,if_pos rfl,L];rfl)⟩)
 have ae:IntKind.i64.wrap ((z:Int)+1)=((z+1:Nat):Int):=by rw [show((z:Int)+1)=((z+1:Nat):Int) by omega];exact qV _ ⟨by omega,by omega⟩
 clear h g;go_enter func96,ntmps96
 by_cases i:0<n
 case neg=>
  have I:¬(0:Int)<n:=by omega
  go_wp2;go_ret;exact y.o w (aO _ _) 0 (by omega) j
 case pos=>
  have I:(0:Int)<n:=by omega
  obtain ⟨b,o,rfl,ah⟩:=r.o.rd.toI.at (z % n) (gN _ i);have ab:(z:Int).tmod (n:Int)=((z % n:Nat):Int):=by rw [aC8 (by omega)];rfl
  have A:(z:Int).tdiv (n:Int)=((z / n:Nat):Int):=by rw [aAp (by omega)];rfl
  have N:z / n<=z:=tC _ _;have M:z % n<n:=gN _ i;generalize z % n=t at *;generalize z / n=d at *;have aa:IntKind.i64.wrap (d:Int)=(d:Int):=qV _ ⟨by omega,by omega⟩;have ad:IntKind.i64.wrap (t:Int)=(t:Int):=qV _ ⟨by omega,by omega⟩;have V:((n:Int) == 0)=false:=by simp;omega
  have ai:(0:Int)<=t:=by omega
  have aj:(t:Int)<n:=by omega
  have ak:((t:Int)).toNat=t:=by omega
  have C:=Z (fun(k:Int) (W:World)=>(aIi k m W j (by omega)).mono (R':=fun e w'=>e = .returned (.int .i64 (aTu k m))/\w'=W) fun _ _ h=>⟨h.1,h.2.symm⟩);have x:=Z (fun k=>aIh k m j);clear N M;go_wp2
  go_quiet ((go_at_call 37;first | exact uT (C.out _ _) | exact Calls.quiet_of_same (C.out _ _)))
  go_wp2;go_ret;exact y.o _ ((aO _ _).drewN _) _ (x.o _).1 (x.o _).2
abbrev jP (f lb nb:Nat):Value:=.func (.func f) #[] #[.pointer (some ⟨lb,0,none⟩),.pointer (some ⟨nb,0,none⟩)]
def aTv (fn:Value) (lb nb xb:Nat) (a:Option Addr) (n c:Nat) (l:List Int) (k:Nat) (s:Int) (w:World) (e:Ending) (w':World):Prop:=
 ∃v a' c' b' d',e = .returned (oK v a' c' b' d')/\Typed s v/\eB v/\gA (fH w.heap.size w') w' v a' c' b' d'/\oN nb w w'/\WCl fn lb nb xb a n c l (k+2) w'
theorem aO0 {S:Nat->Prop} {w:World} {s e:Int} {b:Bool} (f:eI s) (d:eI e):gA S w ⟨s,b,eA,e⟩ none 0 none 0:=⟨f,d,.nil _ _ _ _,⟨aA,aN⟩,.nil _ _ _ _,⟨aA,aN⟩⟩
theorem aEs {fn:Value} {lb nb xb n c k k' p:Nat} {a d e:Option Addr} {f g:Nat} {l:List Int} {s:Int} {v:bS} {w W:World} {cs:Array Value} (h:W.heap[p]? = some (.cells cs 64 (0,0))) (m:w.heap.size<=p) (E:xb<w.heap.size) (r:Typed s v) (y:eB v) (o:gA (fH w.heap.size W) W v d f e g) (A:oN nb w W) (j:WCl fn lb nb xb a n c l k' W) (x:k'<=k+2) (b:List (Nat × Value)) :
  aTv fn lb nb xb a n c l k s w (.returned (oK v d f e g)) (setL p b W):=by
 have i:=(dQ (t:=64) (by decide) (by decide) b W cs h).2.2 w.heap.size W m (aO _ _);have C:=j.ne;refine⟨v,d,f,e,g,rfl,r,y,o.setL (by decide) (by decide) h b,A.setL (.inl m) (by decide) (by decide) h b,(j.high i.size fun q D=>i.block q (by omega)).mono x⟩
theorem rG {lb nb xb n c k:Nat} {a:Option Addr} {l:List Int} {w:World} (h:WCl (jP 96 lb nb) lb nb xb a n c l k w) (aP:k<=90000) (aG:n<=1099511627776) (s:Int) (aJ:s=0\/s=1\/s=2) :
  Calls prog 97 #[.int .i64 s,.pointer (some ⟨xb,0,none⟩)] w fun e w'=>aTv (jP 96 lb nb) lb nb xb a n c l k s w e w':=by
 have aa:=Z h;have y:=Z ((bH h.bx).1);have am:Below w.heap.size w (w.alloc (.cells #[.int .i64 0,.bool false,.bool false,.slice none 0 0,.slice none 0 0,.int .i64 0] 64)):=bJ;have ab:=Z (cC w (.cells #[.int .i64 0,.bool false,.bool false,.slice none 0 0,.slice none 0 0,.int .i64 0] 64));have L:=Z (h.all am);have V:=Z ((eG.of am:oN nb w _));have an:=E L.o.bx 0;simp only [dW,dS] at an;have J:=Z (fun(W:World) (j:Nat) (aO:j<=k+1) (a9:WCl (jP 96 lb nb) lb nb xb a n c l j W) (m:Int) (aC:0<m) (aD:m<1000)=>aNy a9 (by omega) aG m aC aD);have af:=Z (J.o _ k (by omega) L.o 2 (by decide) (by decide));have ag:=Z (J.o _ k (by omega) L.o 3 (by decide) (by decide));clear h am;go_enter func97,ntmps97
 rcases aJ with rfl | rfl | rfl
 ·go_wp2_with fail
  refine af.o.mono ?_;rintro e w1 ⟨v,rfl,aK,aL,A,c1⟩;have i:=A.at ab.o (by have:=aa.o.ne;have:=y.o;omega);have aj:=Z i;have N:=Z (V.o.trans A);have ai:=Z c1;obtain ⟨ae,aB⟩:∃b:Bool,decide (v=1)=b:=⟨_,rfl⟩;have aM:(v == 1)=ae:=by rw [<-aB];exact(by by_cases h:v=1 <;> simp [h])
  obtain ⟨a5,z1,z2,z3,z4,z5⟩:=gC i;obtain ⟨ay,az,a0,a1,a2,a3⟩:=jC i;clear i A c1 af ag J;go_wp2;refine bodyPost_ret (v:=oK ⟨0,ae,eA,0⟩ none 0 none 0) (by simp [results,results97,go_sem,eA, *]) rfl ?_;exact aEs (v:=⟨0,ae,eA,0⟩) aj.o aA y.o ⟨rfl,fun h=>by cases h⟩ ⟨aN,aN⟩ (aO0 ⟨by decide,by decide⟩ ⟨by decide,by decide⟩) N.o ai.o (by omega) [(0,.int .i64 0),(1,.bool ae),(2,.bool false),(3,.slice none 0 0),(4,.slice none 0 0),(5,.int .i64 0)]
 ·go_upto_region 5 with fail
  refine bF (S:=fun W=>W.cell? ⟨xb,0,none⟩=some (jP 96 lb nb)) 9 (by kernel_rfl) (by kernel_rfl) (by exact an) (fun hdr=>?_);have H:Below (w.alloc (.cells #[.int .i64 0,.bool false,.bool false,.slice none 0 0,.slice none 0 0,.int .i64 0] 64)).heap.size (w.alloc (.cells #[.int .i64 0,.bool false,.bool false,.slice none 0 0,.slice none 0 0,.int .i64 0] 64)) (w.alloc (.cells #[.int .i64 0,.bool false,.bool false,.slice none 0 0,.slice none 0 0,.int .i64 0] 64)).drew:=aF _;have f:=Z (L.o.all H);have G:=Z (V.o.trans (eG.of H));have g:=Z (show(w.alloc (.cells #[.int .i64 0,.bool false,.bool false,.slice none 0 0,.slice none 0 0,.int .i64 0] 64)).drew.heap[w.heap.size]? = _ from ab.o);clear ab L V H an af ag;generalize (w.alloc (.cells #[.int .i64 0,.bool false,.bool false,.slice none 0 0,.slice none 0 0,.int .i64 0] 64)).drew=wc at *;refine aE 0 ?_;refine aE 1 (hy:=(Or.inl ⟨by rfl,by(intro W aq;have aI:W.cell? ⟨xb,0,none⟩=some (jP 96 lb nb):=aq;go_simp <;> with_reducible rfl)⟩)) ?_;refine aE 4 (hy:=(Or.inl ⟨by rfl,by(intro W aq;have aI:W.cell? ⟨xb,0,none⟩=some (jP 96 lb nb):=aq;go_simp <;> with_reducible rfl)⟩)) ?_;refine aV 2 fun M x=>?_;have P:=Z (J.o wc k (by omega) f.o 5 (by decide) (by decide));go_simp
  go_at_call 96
  refine P.o.mono ?_;rintro ax D ⟨U,rfl,aU,aW,C,O⟩;have G:=Z (G.o.trans C);have f:=Z O;have g:=Z (C.at g.o (by have:=aa.o.ne;have:=y.o;omega));clear P C O;obtain ⟨wc,rfl⟩:∃W,W=D:=⟨_,rfl⟩;have t:=E f.o.bx 0;simp only [dW,dS] at t;(try dsimp only);have aR:IntKind.i64.wrap (U - 2)=U - 2:=qV _ ⟨by omega,by omega⟩;refine x.out _ _ (by(exact t)) (fun hHeld2=>?_);clear x M;(try simp only [Act.put,sA,sB,sC]);refine aE 3 ?_;refine aV 5 fun M x=>?_;have P:=Z (J.o wc (k+1) (by omega) f.o 2 (by decide) (by decide));go_simp
  go_at_call 96
  refine P.o.mono ?_;rintro ax D ⟨Q,rfl,aS,aT,C,O⟩;have G:=Z (G.o.trans C);have f:=Z O;have g:=Z (C.at g.o (by have:=aa.o.ne;have:=y.o;omega));clear P C O;obtain ⟨wc,rfl⟩:∃W,W=D:=⟨_,rfl⟩;have t:=E f.o.bx 0;simp only [dW,dS] at t;(try dsimp only);have aQ:IntKind.i64.wrap (1+Q)=1+Q:=qV _ ⟨by omega,by omega⟩;refine x.out _ _ (by(exact t)) (fun hHeld3=>?_);clear x M;(try simp only [Act.put,sA,sB,sC]);refine aE 6 ?_;refine aV 7 fun M x=>?_;have a4:=Z (aVm (U - 2) (1+Q) (by unfold eI;omega) (by omega) (by unfold eI;omega) wc);go_simp
  go_at_call 39
  refine a4.o.mono ?_;rintro ax D a8;have ap:=Z (aTp (n:=U - 2) (d:=1+Q) ⟨by omega,by omega⟩ ⟨by omega,by omega⟩);generalize ofR (U - 2) (1+Q)=r at *;obtain ⟨ah,K,I⟩:=r;obtain ⟨ak,c1,al,ao,rfl,au,av,aw,H,ad⟩:=a8;have ar:=Z G.o.size;have a6:=Z (show gA (fH w.heap.size D) D ⟨1,false,⟨ah,K,I⟩,0⟩ ak c1 al ao from⟨(show eI 1 from⟨by decide,by decide⟩),(show eI 0 from⟨by decide,by decide⟩),au.mono fun q _ h=>⟨h.1,aH ar.o h.2⟩,aw,av.mono fun q _ h=>⟨h.1,aH ar.o h.2⟩,H⟩);have f:=Z (f.o.all ad);have g:=Z (bD ad g.o);have N:=Z (G.o.trans (eG.of ad));clear ad a4 au av aw H ar;obtain ⟨aX,rfl⟩:∃W,W=D:=⟨_,rfl⟩;have t:=E f.o.bx 0;simp only [dW,dS] at t;(try dsimp only);refine x.out _ _ (by(exact t)) (fun hHeld4=>?_);clear x M;(try simp only [Act.put,sA,sB,sC]);refine aE 8 ?_;refine cF (by decide +kernel) ?_;simp only [dL,cW];obtain ⟨a5,z1,z2,z3,z4,z5⟩:=gC g.o;obtain ⟨ay,az,a0,a1,a2,a3⟩:=jC g.o;clear t;go_wp2;refine bodyPost_ret (v:=oK ⟨1,false,⟨ah,K,I⟩,0⟩ ak c1 al ao) (by simp [results,results97,go_sem, *]) rfl ?_;exact aEs (v:=⟨1,false,⟨ah,K,I⟩,0⟩) g.o aA y.o ⟨rfl,fun _=>ap.o.1⟩ ⟨by have:=ap.o.2.1;show K.length<=_;have a7:K.length<=1:=this;omega,by have:=ap.o.2.2;show I.length<=_;have a7:I.length<=1:=this;omega⟩ a6.o N.o f.o (by omega) [(0,.int .i64 1),(1,.bool false),(2,.bool ah),(3,.slice ak K.length c1),(4,.slice al I.length ao),(5,.int .i64 0)]
 ·go_wp2_with fail
  refine ag.o.mono ?_;rintro e w1 ⟨v,rfl,aK,aL,A,c1⟩;have i:=A.at ab.o (by have:=aa.o.ne;have:=y.o;omega);have aj:=Z i;have N:=Z (V.o.trans A);have ai:=Z c1;obtain ⟨a5,z1,z2,z3,z4,z5⟩:=gC i;obtain ⟨ay,az,a0,a1,a2,a3⟩:=jC i;clear i A c1 af ag J;go_wp2;refine bodyPost_ret (v:=oK ⟨2,false,eA,v⟩ none 0 none 0) (by simp [results,results97,go_sem,eA, *]) rfl ?_;exact aEs (v:=⟨2,false,eA,v⟩) aj.o aA y.o ⟨rfl,fun h=>by cases h⟩ ⟨aN,aN⟩ (aO0 (s:=2) (e:=v) ⟨by decide,by decide⟩ (by unfold eI;omega)) N.o ai.o (by omega) [(0,.int .i64 2),(1,.bool false),(2,.bool false),(3,.slice none 0 0),(4,.slice none 0 0),(5,.int .i64 v)]
structure uF (w0:World) (dm:Nat) (w:World):Prop where
 size:w0.heap.size<=w.heap.size
 block:∀q,q<w0.heap.size->q≠dm->w.heap[q]? = w0.heap[q]?
section
variable {S : Nat -> Prop} {w w0 W W' wr : World} {dm k : Nat} {F : Int -> Option bS} {T : aC} {tbs : gL}
theorem uF.refl (w0:World) (dm:Nat):uF w0 dm w0:=⟨aA,fun _ _ _=>rfl⟩
theorem uF.below (h:uF w0 dm W) (b:Below W.heap.size W W'):uF w0 dm W':=⟨aH h.size b.size,fun q d e=>(b.block q (bG d h.size)).trans (h.block q d e)⟩
theorem uF.turned (h:uF w0 dm W) (d:W.mapTurned W' dm):uF w0 dm W':=⟨aH h.size d.grown.size,fun q b e=>(d.grown.block q (bG b h.size) fun z=>e (by injection z)).trans (h.block q b e)⟩
theorem uF.at (h:uF w0 dm W) {q:Nat} {o:Obj} (b:w0.heap[q]? = some o) (hd:q≠dm):W.heap[q]? = some o:=(h.block q (bH b).1 hd).trans b
theorem aTw {l:List Int} (b:k<l.length):rA tbs T (l.drop k) F=if (bN tbs (nodeAt T (nth l k)) (qI F (nodeAt T (nth l k)).args)).2=0 then rA tbs T (l.drop (k+1)) (aEa F (nth l k) (bN tbs (nodeAt T (nth l k)) (qI F (nodeAt T (nth l k)).args)).1) else(F,(bN tbs (nodeAt T (nth l k)) (qI F (nodeAt T (nth l k)).args)).2):=by
 rw [kY b,<-cE b];rfl
theorem aQs {args:List Int} {j:Nat} (h:j<args.length):qI F (args.take (j+1))=qI F (args.take j) ++ [(F (nth args j)).getD eZ]:=by
 unfold qI;rw [jD h,mL,cE h];rfl
theorem aLc (F:Int->Option bS) (l:List Int):(qI F l).length=l.length:=lB _
theorem EvS.small (h:EvS S w dm F k W) (x:Int):eB ((F x).getD eZ):=by
 obtain ⟨c,i,j,m,g⟩:=h.mp;rcases g x with ⟨e,_⟩ | ⟨v,a,c,b,d,e,_,_,f⟩
 ·rw [e];exact wK
 ·rw [e];exact f
theorem EvS.smallL (h:EvS S w dm F k W) (l:List Int):∀v∈qI F l,eB v:=fun v b=>by
 obtain ⟨x,_,rfl⟩:=qA.1 b;exact h.small x
end
theorem EvS.look2 {S:Nat->Prop} {w W W':World} {dm k:Nat} {F:Int->Option bS} (h:EvS S w dm F k W) (j:Below W.heap.size W W') {x:Int} (y:eI x):∃a c b d,(Instr.lookup 149 (.map (some dm)) (.int .i64 x) false).run prog W' = .ok (oK ((F x).getD eZ) a c b d) W'/\gA (fun q=>Ev S w dm q/\q<W.heap.size) W' ((F x).getD eZ) a c b d:=by
 obtain ⟨c,A,D,i,o⟩:=h.mp;have e:=(i.same (j.block _ i.lt)).look underlying3 underlying149 (aKd W') y;rcases o x with ⟨f,g⟩ | ⟨v,a,c,b,d,f,g,m,C⟩
 ·rw [g] at e;rw [f];exact⟨none,0,none,0,e,⟨⟨by decide,by decide⟩,⟨by decide,by decide⟩,.nil _ _ _ _,⟨aA,aN⟩,.nil _ _ _ _,⟨aA,aN⟩⟩⟩
 ·rw [g] at e;rw [f];exact⟨a,c,b,d,e,(m.mono fun q t r=>⟨r,t⟩).below j aA⟩
structure aXx (wr w7:World) (x:aZ) (a:Option Addr) (c:Nat) (b:Option Addr) (d:Nat) (g:Option Addr) (h:Nat) (w8:World):Prop where
 hx:w8.heap[w7.heap.size]? = some (.cells #[.int .i64 x.op,.string x.name,.bool x.val.neg,.slice a x.val.num.length c,.slice b x.val.den.length d,.slice g x.args.length h,.int .i64 x.sort] 38 (0,0))
 n:eD (fH wr.heap.size w8) w8 x a c b d g h
 b:Below wr.heap.size wr w8
 s:w8.heap.size=w7.heap.size+1
theorem aXy {wr e:World} {x:aZ} {a:Option Addr} {c:Nat} {b:Option Addr} {d:Nat} {g:Option Addr} {h:Nat} (N:eD (fH wr.heap.size e) e x a c b d g h) (i:Below wr.heap.size wr e) :
  aXx wr e x a c b d g h (e.alloc (.cells #[.int .i64 x.op,.string x.name,.bool x.val.neg,.slice a x.val.num.length c,.slice b x.val.den.length d,.slice g x.args.length h,.int .i64 x.sort] 38)):=by
 have f:Below e.heap.size e (e.alloc (.cells #[.int .i64 x.op,.string x.name,.bool x.val.neg,.slice a x.val.num.length c,.slice b x.val.den.length d,.slice g x.args.length h,.int .i64 x.sort] 38)):=bJ;exact⟨cC e _,N.move (Below.dat f) f.size,i.trans (f.mono i.size),by simp⟩
theorem aO1 {S:Nat->Prop} {w:World}:gA S w eZ none 0 none 0:=⟨⟨by decide,by decide⟩,⟨by decide,by decide⟩,.nil _ _ _ _,⟨aA,aN⟩,.nil _ _ _ _,⟨aA,aN⟩⟩
theorem aTx {v:bS} {er:Int} {w W:World} {p:Nat} {cs:Array Value} {a b:Option Addr} {c d:Nat} (e:W.heap[p]? = some (.cells cs 64 (0,0))) (g:w.heap.size<=p) (h:gA (fH w.heap.size W) W v a c b d) (f:Below w.heap.size w W) (l:List (Nat × Value)):EvP (v,er) w (.returned (.tuple #[oK v a c b d,.int .i64 er])) (setL p l W):=
 ⟨a,c,b,d,rfl,h.setL (by decide) (by decide) e l,(dQ (by decide) (by decide) l W cs e).2.2 _ _ g f⟩
def zV:List Value:=[.int .i64 0,.bool false,.bool false,.slice none 0 0,.slice none 0 0,.int .i64 0]
theorem aBd {S:Nat->Prop} (B p:Nat) (T:aC) (tbs:gL) (m:Option Addr) (t:Nat) (i:Int) (w:World) (aX:dG B p T w) (bE:dR T) (bC:ArT T) (h:yB S w tbs m t) (bT:mO tbs) (bL:eI i) :
  Calls prog 35 #[.pointer (some ⟨p,0,none⟩),.agg #[.slice m tbs.length t],.int .i64 i] w fun e w'=>EvP (mG tbs T i) w e w':=by
 have dw:=@run_makeMap prog;obtain ⟨R,aU⟩:∃R,mG tbs T i=R:=⟨_,rfl⟩;have aV:=Z aU;rw [aU];clear aU;have bx:=Z aX;have af:=Z bE;have cp:=Z bC;have bv:=Z h;have bw:=Z bT;have bu:=Z bL;have ag:=Z (eV w (.cells #[.slice m tbs.length t] 71) (.cells zV.toArray 64));have aM:=Z (fI w (.cells #[.slice m tbs.length t] 71) (.cells zV.toArray 64));have a1:=Z (cV w (.cells #[.slice m tbs.length t] 71) (.cells zV.toArray 64));have ak:=Z (show((w.alloc (.cells #[.slice m tbs.length t] 71)).alloc (.cells zV.toArray 64)).heap.size=w.heap.size+2 from by simp);have V:=Z (aFw B p T i _ (aX.all a1.o));clear aX bE bC h bT bL;unfold zV at ag aM a1 ak V;cases ae:dH T i
 case false=>
  have av:nG T i=(0,false):=by unfold nG;rw [ae];rfl
  have a4:=Z (show(eZ,(1:Int))=R from by rw [<-aV.o];unfold mG;rw [ae];rfl);rw [av] at V;clear av ae;go_enter func35,ntmps35
  go_wp2_with fail
  generalize (w.alloc (.cells #[.slice m tbs.length t] 71)).alloc (.cells [.int .i64 0,.bool false,.bool false,.slice none 0 0,.slice none 0 0,.int .i64 0].toArray 64)=w0 at *;refine V.o.mono ?_;rintro e w' ⟨rfl,rfl⟩;clear V;obtain ⟨cj,z1,z2,z3,z4,z5⟩:=gC ag.o;obtain ⟨b5,b6,b7,b8,b9,bA⟩:=jC ag.o;go_wp2;refine bodyPost_ret (v:=.tuple #[oK eZ none 0 none 0,.int .i64 1]) (by simp [results,results35,go_sem,eZ,eA, *]) rfl ?_;rw [<-a4.o];exact aTx ag.o (by omega) aO1 a1.o [(0,.int .i64 0),(1,.bool false),(2,.bool false),(3,.slice none 0 0),(4,.slice none 0 0),(5,.int .i64 0)]
 case true=>
  have av:nG T i=((nodeAt T i).sort,true):=by unfold nG;rw [ae];rfl
  have a4:=Z (show oD (rA tbs T (jY T [i]).2 fun _=>none) i=R from by rw [<-aV.o];unfold mG;rw [ae];rfl);rw [av] at V;dsimp only at V;have dr:=Z ae;clear av ae;generalize (nodeAt T i).sort=d3 at *;go_enter func35,ntmps35
  go_wp2_with fail
  generalize (w.alloc (.cells #[.slice m tbs.length t] 71)).alloc (.cells [.int .i64 0,.bool false,.bool false,.slice none 0 0,.slice none 0 0,.int .i64 0].toArray 64)=w0 at *;have dg:w0.cell? ⟨w.heap.size,0,none⟩=some (.slice m tbs.length t):=E aM.o 0;have aQ:=Z (vA w0 (.map #[] 0) (.cells #[.pointer (some ⟨p,0,none⟩),.slice m tbs.length t,.map (some w0.heap.size)] 151) (.cells #[.int .i64 i] 3));have m5:=Z ((nT.made (P:=prog) (k:=3) w0).same (w':=((w0.alloc (.map #[] 0)).alloc (.cells #[.pointer (some ⟨p,0,none⟩),.slice m tbs.length t,.map (some w0.heap.size)] 151)).alloc (.cells #[.int .i64 i] 3)) ((uY w0 _ _ _).trans (cC w0 _).symm));have ci:=Z (uZ w0 (.map #[] 0) (.cells #[.pointer (some ⟨p,0,none⟩),.slice m tbs.length t,.map (some w0.heap.size)] 151) (.cells #[.int .i64 i] 3));have bh:=jQ.lit [i] 3 ((w0.alloc (.map #[] 0)).alloc (.cells #[.pointer (some ⟨p,0,none⟩),.slice m tbs.length t,.map (some w0.heap.size)] 151)) (fun x G=>by rw [eP.1 G];exact bu.o);simp only [iD] at bh;have aE:=Z bh;have al:=Z (show(((w0.alloc (.map #[] 0)).alloc (.cells #[.pointer (some ⟨p,0,none⟩),.slice m tbs.length t,.map (some w0.heap.size)] 151)).alloc (.cells #[.int .i64 i] 3)).heap.size=w0.heap.size+3 from by simp);clear bh;refine V.o.mono ?_;rintro e w' ⟨rfl,rfl⟩;clear V
  go_wp2_with fail
  simp only [List.map_cons,List.map_nil] at aE;generalize ((w0.alloc (.map #[] 0)).alloc (.cells #[.pointer (some ⟨p,0,none⟩),.slice m tbs.length t,.map (some w0.heap.size)] 151)).alloc (.cells #[.int .i64 i] 3)=cf at *;have a9:=Z (aG a1 aQ.o);have bZ:=Z (aJq B p T (some ⟨w0.heap.size+1+1,0,none⟩) 1 1 [i] cf (bx.o.all a9.o) af.o.ok aE.o (by decide));have be:=Z (aAd af.o.ok.ord [i]).2;have bQ:=Z (aAd af.o.ok.ord [i]).1.small.2;have ar:=Z af.o.ok.sm.le;generalize (jY T [i]).2=L at *;refine bZ.o.mono ?_;rintro e cg ⟨dk,dp,rfl,a7,ah⟩;have bF:=(jQ.own a7 (fun x G=>by have:=be.o x G;have:=ar.o;omega)).2.1;have b0:=Z bF;have cG:=Z (fun x G=>(show w0.heap.size+3<=Addr.block x from by have:=((jQ.own a7 (fun x G=>by have:=be.o x G;have:=ar.o;omega)).2.2 x G).1;rw [al.o] at this;exact this));have cm:=Z (aG a9 ah);have dx:=Z (show w0.heap.size+3<=cg.heap.size from by have:=ah.size;have:=al.o;omega);have ao:=Z ((ah.block _ (by have:=al.o;omega)).trans ci.o);have az:=Z ((ah.block _ (by have:=al.o;have:=ak.o;omega)).trans ((aQ.o.block _ (by have:=ak.o;omega)).trans ag.o));have br:=Z (EvS.start (S:=S) (w:=w) (dm:=w0.heap.size) cm.o (by have:=ak.o;omega) (m5.o.same (ah.block _ (by have:=al.o;omega))));clear bF a7 ah bZ aQ m5 ci aE al a9 dg aM ag cf;go_wp2
  go_loopw [7,12,13,14,15,17,18,19,39] (fun di _ _ _ _ _ _ _ bl wr=>∃(k:Nat) (F:Int->Option bS),k<=L.length/\bl = .int .i64 k/\di = .int .i64 0/\Hid (oD (rA tbs T (L.drop k) F) i=R)/\Hid (EvS S w w0.heap.size F k wr)/\Hid (uF cg w0.heap.size wr)) (fun _ _ _ _ _ _ _ _ bl _=>L.length - (intOf bl).toNat)
  case atStart=>exact⟨0,fun _=>none,aN,rfl,rfl,a4.o,br.o,uF.refl _ _⟩
  case round=>
   obtain ⟨k,F,bO,rfl,rfl,a2,C,I⟩:=hrel;clear br a4 aV;by_cases au:k<L.length
   case neg=>
    obtain rfl:k=L.length:=by omega
    have aW:=Z (show((F i).getD eZ,(0:Int))=R from by have h:=a2.o;rw [tG] at h;exact h);obtain ⟨c7,c9,c8,cD,bR,b2,bf⟩:=C.o.look bu.o;have bX:=Z (sJ ((F i).getD eZ) c7 c8 c9 cD wr b2 bf.1 bf.2);have ce:wr.cell? ⟨w0.heap.size+1,2,none⟩=some (.map (some w0.heap.size)):=E (I.o.at ao.o (by omega)) 2;have cz:=Z (I.o.at az.o (by have:=ak.o;omega));have bp:=Z C.o.b;have cQ:¬(L.length:Int)<L.length:=by omega
    clear b2 bf a2 C I;generalize (F i).getD eZ=v at *;obtain ⟨K,M,⟨J,u9,N⟩,H⟩:=v
    go_wp2_with fail
    refine bX.o.mono ?_;rintro e bo ⟨a,c,b,d,rfl,b1,aY⟩;have aL:=Z (bD aY cz.o);have cn:=Z (aG bp aY);have cw:=Z (b1.mono (S':=fH w.heap.size bo) fun q _ f=>⟨f.1,aH bp.o.size f.2⟩);clear b1 aY bX;obtain ⟨cj,z1,z2,z3,z4,z5⟩:=gC aL.o;obtain ⟨b5,b6,b7,b8,b9,bA⟩:=jC aL.o;go_wp2;refine bodyPost_ret (v:=.tuple #[oK ⟨K,M,⟨J,u9,N⟩,H⟩ a c b d,.int .i64 0]) (by simp [results,results35,go_sem, *]) rfl ?_;rw [<-aW.o];exact aTx (v:=⟨K,M,⟨J,u9,N⟩,H⟩) aL.o (by omega) cw.o cn.o [(0,.int .i64 K),(1,.bool M),(2,.bool J),(3,.slice a u9.length c),(4,.slice b N.length d),(5,.int .i64 H)]
   case pos=>
    obtain ⟨dn,a7,rfl,dd⟩:=(b0.o.hold (w':=wr) (fun cU x G=>I.o.block _ (by
     obtain ⟨dl,d1,cK,cS,_⟩:=b0.o.cells cU;rw [cK] at G;injection G with G;rw [<-G];exact cS) (by have:=cG.o x G;omega)) I.o.size).at k au
    obtain ⟨bB,cE⟩:=be.o (nth L k) (cB au);have a3:=a2.o;rw [aTw au] at a3;obtain ⟨j,bM⟩:=fK bB;rw [bM] at dd cE a3;have aZ:j<T.nodes.length:=by omega
    have bc:=Z (af.o.at aZ);have cJ:(nodeAt T j).args.length<=64:=bc.o.args;have bK:=Z (cp.o _ (fP (cR aZ)));have bV:=Z (zY B p T j wr (bx.o.all C.o.b) aZ af.o.ok.sn);have cQ:(k:Int)<L.length:=by omega
    have cP:=Z (show eI (j:Int) from by have:=ar.o;unfold eI;omega);have aq:=Z a3;clear a2 a3 bB bM;generalize nodeAt T j=x at *;obtain ⟨op,nm,⟨bi,bj,aT⟩,args,bk⟩:=x;dsimp only at cJ
    go_wp2_with fail
    refine bV.o.mono ?_;rintro e bo ⟨a,c,b,d,g,h,rfl,bz,aR⟩;have A:=Z (aXy bz aR);dsimp only at A;have dy:=Z aR.size;clear bz aR bV;go_wp2;generalize (bo.alloc (.cells #[.int .i64 op,.string nm,.bool bi,.slice a bj.length c,.slice b aT.length d,.slice g args.length h,.int .i64 bk] 38))=am at *;have da:=Z (E (I.o.at ao.o (by omega)) 2);obtain ⟨dz,cL,cM,cN,cO⟩:=info_parts aM0;have aK:=Z A.o.n.args.toI;have cH:=A.o.n.ac;have bg:=Z (show w0.heap.size<wr.heap.size from C.o.dlt)
    go_loopw [15,17,52] (fun dh _ bn ch=>∃D:Nat,D<=args.length/\bn = .int .i64 D/\Hid (Below am.heap.size am ch)/\Hid (cA iZ (fun q=>Ev S w w0.heap.size q/\q<am.heap.size) ch am.heap.size 64 dh (qI F (args.take D)))) (fun _ _ bn _=>args.length - (intOf bn).toNat)
    case atStart=>exact⟨0,aN,rfl,aO _ _,cA.nil _ _ _ _ _⟩
    case round=>
     obtain ⟨D,dt,rfl,O,ai⟩:=hrel;obtain ⟨ay,rfl⟩:∃W,W=wr:=⟨_,rfl⟩;by_cases ba:D<args.length
     case neg=>
      obtain rfl:D=args.length:=by omega
      have aj:(qI F (args.take args.length)).length=args.length:=by rw [aLc,eS,Nat.min_self]
      rw [nA] at ai aj;obtain ⟨de,df,rfl,bP,_⟩:=ai.o.slice;have ab:=Z (A.o.b.trans (O.o.mono A.o.b.size));have b4:=Z ((ab.o.block _ (bG (bH ao.o).1 I.o.size)).trans (I.o.at ao.o (by omega)));have c0:=Z ((ab.o.block _ (bG (bH az.o).1 I.o.size)).trans (I.o.at az.o (by have:=ak.o;omega)));have aD:=Z (C.o.b.trans (ab.o.mono C.o.b.size));have bb:=aQc (S:=Ev S w w0.heap.size) (w0.heap.size+1) tbs m t ⟨op,nm,⟨bi,bj,aT⟩,args,bk⟩ a c b d g h de (qI F args).length df (qI F args) ay (E b4.o 1)
       ⟨(bv.o.tbs.mono (S':=Ev S w w0.heap.size) fun q f cW=>.inl ⟨f,cW⟩).below aD.o aA,bv.o.cap⟩ bw.o
       ((A.o.n.mono (S':=Ev S w w0.heap.size) fun q _ f=>.inr ⟨aH C.o.b.size f.2,by have:=bg.o;have:=f.2;omega⟩).below O.o)
       (ai.o.read (fun q _ f=>f.1) fun q f=>.inr (by have:=(ai.o.lt q f).1;have:=A.o.b.size;have:=bg.o;have:=C.o.b.size;exact⟨by omega,by omega⟩)) bP (by omega) (C.o.smallL args) (by rw [aj];exact bK.o)
      obtain ⟨r,bd⟩:∃r,bN tbs ⟨op,nm,⟨bi,bj,aT⟩,args,bk⟩ (qI F args)=r:=⟨_,rfl⟩;have cZ:=Z (show eB r.1 from by rw [<-bd];exact aKc bw.o bc.o (C.o.smallL args));rw [bd] at aq bb;obtain ⟨⟨K,Q,⟨J,u9,U⟩,H⟩,er⟩:=r;have bU:=Z bb;have Y:=(O.o.block _ (by rw [A.o.s];exact aG3 _)).trans A.o.hx;obtain ⟨y0,y1,y2,y3,y4,y5,dj⟩:=pT Y;have db:=Z (show w0.heap.size<ay.heap.size from bG bg.o ab.o.size);have cq:=Z (I.o.below ab.o);have cr:=Z (C.o.below ab.o);have dv:¬(args.length:Int)<args.length:=by omega
      clear Y bb bd A O ai aK cH bK bc C I ab bP aj ao az;generalize (qI F args).length=d0 at *
      go_wp2_with fail
      refine bU.o.mono ?_;rintro e ax ⟨aa,ad,M,N,rfl,an,aS⟩;have a0:Below ax.heap.size ax (ax.alloc (.cells #[.int .i64 K,.bool Q,.bool J,.slice aa u9.length ad,.slice M U.length N,.int .i64 H] 64)):=bJ;have ap:=Z (aS.trans (a0.mono aS.size));have c6:=Z (cC ax (.cells #[.int .i64 K,.bool Q,.bool J,.slice aa u9.length ad,.slice M U.length N,.int .i64 H] 64));have cy:=Z ((an.mono (S':=Ev S w w0.heap.size) fun q _ f=>f.elim (fun h=>h.2) fun h=>.inr ⟨aH aD.o.size h.2,by have:=db.o;have:=h.2;omega⟩).below a0 aA);clear an a0 aS bU y0 y1 y2 y3 y4 y5 dj;by_cases a5:er=0
      case neg=>
       have aW:=Z (show(eZ,er)=R from by
        have h:=aq.o
        try dsimp only at h
        rw [if_neg a5] at h;unfold oD at h
        try dsimp only at h
        rw [if_neg a5] at h;exact h)
       have aP:=Z (bD ap.o c0.o);have ck:=Z (aG aD ap.o);clear aq;have dq:(er == 0)=false:=by simpa using a5
       obtain ⟨cj,z1,z2,z3,z4,z5⟩:=gC aP.o;obtain ⟨b5,b6,b7,b8,b9,bA⟩:=jC aP.o;go_wp2;refine bodyPost_ret (v:=.tuple #[oK eZ none 0 none 0,.int .i64 er]) (by simp [results,results35,go_sem,eZ,eA, *]) rfl ?_;rw [<-aW.o];exact aTx aP.o (by omega) aO1 ck.o [(0,.int .i64 0),(1,.bool false),(2,.bool false),(3,.slice none 0 0),(4,.slice none 0 0),(5,.int .i64 0)]
      case pos=>
       subst a5;have cF:=Z (show oD (rA tbs T (L.drop (k+1)) (aEa F j ⟨K,Q,⟨J,u9,U⟩,H⟩)) i=R from by have h:=aq.o;rw [if_pos rfl] at h;exact h);clear aq
       go_upto_region 18 with fail
       generalize (ax.alloc (.cells #[.int .i64 K,.bool Q,.bool J,.slice aa u9.length ad,.slice M U.length N,.int .i64 H] 64))=a8 at *;have b3:=bD ap.o b4.o;have ce:a8.cell? ⟨w0.heap.size+1,2,none⟩=some (.map (some w0.heap.size)):=E b3 2;have bs:=(cr.o.below ap.o).below (aF a8);obtain ⟨dA,cX,bq,bY⟩:=bs.store (by have:=ar.o;have:=bQ.o;unfold maxLen;omega) cP.o (cy.o.below (aF a8) aA) cZ.o;have cs:=Z (((cq.o.below ap.o).below (aF a8)).turned bY);have co:=Z bq;obtain ⟨d4,d5,d6,d7,d8,d9⟩:=gC c6.o;clear b3 bs bq bY
       try dsimp only at cX
       have du:L.length<=16384:=aH bQ.o ar.o
       go_region
       go_wp2
       go_roundw
       case rel=>exact⟨k+1,_,by omega,by go_num,rfl,cF.o,co.o,cs.o⟩
       case measure=>simp [intOf];omega
     case pos=>
      obtain ⟨a0,d2,rfl,dc⟩:=(aK.o.below O.o aA).at D ba;have bI:eI (nth args D):=aK.o.wf _ (cB ba);obtain ⟨aa,ad,M,N,bR,an⟩:=C.o.look2 (W':=ay) (A.o.b.trans (O.o.mono A.o.b.size)) bI;have ce:ay.cell? ⟨w0.heap.size+1,2,none⟩=some (.map (some w0.heap.size)):=aB (A.o.b.trans (O.o.mono A.o.b.size)) da.o;have ds:(D:Int)<args.length:=by omega
      have aj:=Z (show(qI F (args.take D)).length=D from by rw [aLc,eS];omega);have cY:=Z (aQs (F:=F) ba);have cx:=Z (an.mono (S':=fun q=>Ev S w w0.heap.size q/\q<am.heap.size) fun q _ f=>⟨f.1,bG f.2 A.o.b.size⟩);obtain ⟨css,cb,cd,cc⟩:=ai.o;have aJ:=Z cb;have cv:=Z cd;have cu:=Z cc;have ca:=Z O.o.size;clear an cb cd cc bI;generalize (F (nth args D)).getD eZ=v at *;generalize nth args D=y at *;obtain ⟨K,Q,⟨J,u9,U⟩,H⟩:=v
      go_wp2_with (at_builtin;refine cI rfl (.tmp 56) (.tmp 63) rfl underlying78 cL cM cN cO rfl (by decide) rfl rfl (aJ.o.alloc _) (Src.one (b:=ay.heap.size) (news:=aA2 ⟨K,Q,⟨J,u9,U⟩,H⟩ aa ad M N) rfl ?c1) ?c2 ?c3 ?c4 ?c5 ?_)
      case c1=>intro j u aw;first | (rw [kO];simpa [aA2] using aw) | exact aw
      case c2=>intro u aw;simp [aA2] at aw;rcases aw with rfl | rfl | rfl | rfl | rfl | rfl <;> rfl
      case c3=>rw [aj.o];unfold maxLen;omega
      case c4=>rw [aj.o];omega
      case c5=>have:=ca.o;first | omega | (simp;omega)
      intro v' w4 bW a6 _;have cl:=Z ((O.o.alloc O.o.size (.cells #[.int .i64 K,.bool Q,.bool J,.slice aa u9.length ad,.slice M U.length N,.int .i64 H] 64)).grown a6 (by simp;have:=ca.o;omega) (fun k bO=>(aJ.o.lt k bO).1));have aI:=cA.push (R:=iZ) (S:=fun q=>Ev S w w0.heap.size q/\q<am.heap.size) (x:=⟨K,Q,⟨J,u9,U⟩,H⟩) cv.o cu.o (qZ.2 ⟨aa,ad,M,N,rfl,cx.o⟩) bW (fun q au f=>(cT a6).block q au (fun e=>by have:=(aJ.o.lt q e.symm).1;have:=f.2;omega)) (cT a6).size;rw [<-cY.o] at aI;have ct:=Z aI;clear bW a6 bR dc aI;go_wp2
      go_roundw
      case rel=>exact⟨D+1,by omega,by go_num,cl.o,ct.o⟩
      case measure=>simp [intOf];omega
section
variable {w0 w w' : World} {p : Nat} {T : aC} {X : Nat -> Prop} {v v' : Value}
theorem St.push (h:St w0 p { T with X:=fun q=>X q\/kI v q } w) (f:w.grownBy w' v.ownBlock) (j:∀k,v.ownBlock=some k->w0.heap.size<=k) (d:v'.ownBlock=v.ownBlock\/∀k,v'.ownBlock=some k->w.heap.size<=k) (o:∀k,v'.ownBlock=some k->k<w'.heap.size) :
  St w0 p { T with X:=fun q=>X q\/kI v' q } w':=by
 have i:Below w0.heap.size w w':=(aO _ _).grown f h.b.size j;refine h.excl (X':=fun q=>X q\/kI v' q) i (fun k _ r=>f.block k ‹_› (fun e=>r (.inr e.symm))) (fun k e=>?_);rcases e with e | e
 ·obtain ⟨q,x,y,m,g⟩:=h.t;exact⟨.inl (.inl e),bG (g.xlt k (.inl e)).1 f.size⟩
 ·refine⟨?_,o k e⟩;rcases d with d | d
  ·exact .inl (.inr (by show v.ownBlock=some k;rw [<-d];exact e))
  ·exact .inr (d k e)
theorem St.fewer {Y:Nat->Prop} (h:St w0 p { T with X:=X } w) (b:∀k,Y k->X k):St w0 p { T with X:=Y } w:=
 h.excl (X':=Y) (aO _ _) (fun _ _ _=>rfl) fun k d=>by
  obtain ⟨q,f,g,m,e⟩:=h.t;exact⟨.inl (b k d),(e.xlt k (b k d)).1⟩
theorem St.more {Y:Nat->Prop} (h:St w0 p { T with X:=X } w) (d:Below w.heap.size w w') (g:∀k,Y k->X k\/(w.heap.size<=k/\k<w'.heap.size)):St w0 p { T with X:=Y } w':=
 h.excl (X':=Y) (d.mono h.b.size) (fun k f _=>d.block k f) fun k f=>by
  obtain ⟨q,j,o,m,i⟩:=h.t;rcases g k f with e | e
  ·exact⟨.inl e,bG (i.xlt k e).1 d.size⟩
  ·exact⟨.inr e.1,e.2⟩
end
def nV (w0:World) (p:Nat) (X:Nat->Prop) (R:(List Int × Int) × aC) (w:World) (e:Ending) (w':World):Prop:=
 ∃a c,e = .returned (.tuple #[.slice a R.1.1.length c,.int .i64 R.1.2])/\aW w' w.heap.size 3 1 (.slice a R.1.1.length c) R.1.1.length (R.1.1.map (Value.int .i64))/\St w0 p { R.2 with X:=X } w'/\dA p w w'
theorem kN {T:aC} (h:dR T) (op a b:Int):dR (uA T op a b).2:=(h.make op (nm:=⟨#[]⟩) (val:=eA) [a,b] (by decide) (by decide) (by decide)).g
theorem aLd {T:aC} (h:dR T) (op a:Int):dR (mk1 T op a).2:=(h.make op (nm:=⟨#[]⟩) (val:=eA) [a] (by decide) (by decide) (by decide)).g
theorem aBe {T:aC} (h:dR T) (op a b:Int):eI (uA T op a b).1.1:=by have:=aEi h.ok.sm op ⟨#[]⟩ eA [a,b];unfold eI;unfold uA;omega
theorem aTy {T:aC} (h:dR T) (op a:Int):eI (mk1 T op a).1.1:=by have:=aEi h.ok.sm op ⟨#[]⟩ eA [a];unfold eI;unfold mk1;omega
theorem aLe {w0 w:World} {p:Nat} {T:aC} {X:Nat->Prop} (i:lF w0) (h:St w0 p { T with X:=X } w) (j:dR T) (op a:Int) (o:eI op) (g:op≠11) (m:eI a) :
  Calls prog 33 #[.pointer (some ⟨p,0,none⟩),.int .i64 op,.string ⟨#[]⟩,.agg #[.bool false,.slice none 0 0,.slice none 0 0],.slice (some ⟨w.heap.size,0,none⟩) 1 1] (w.alloc (.cells #[.int .i64 a] 3)) fun e w'=>
   e = .returned (.tuple #[.int .i64 (mk1 T op a).1.1,.int .i64 (mk1 T op a).1.2])/\St w0 p { (mk1 T op a).2 with X:=X } w'/\dA p w w':=by
 have b:=h.lit (.cells #[.int .i64 a] 3);have d:=sH w0.heap.size p { T with X:=X } op ⟨#[]⟩ eA [a] none none (some ⟨w.heap.size,0,none⟩) 0 0 1 _ b.t (j.ok.sm.X X) (b.env i) (aD5 w op [a] o (by intro x f;simp at f;subst f;exact m) (by show 1<=maxLen;decide) g);unfold cZ at d;rw [wI] at d;refine d.mono ?_;rintro e w' ⟨rfl,t,s⟩;exact⟨rfl,b.step t s,(dA.of_below h.t.plt (bJ)).trans s⟩
theorem vH {w0 w:World} {p:Nat} {T:aC} {X:Nat->Prop} (j:lF w0) (h:St w0 p { T with X:=X } w) (m:dR T) (op a b:Int) (o:eI op) (i:op≠11) (q:eI a) (r:eI b) :
  Calls prog 33 #[.pointer (some ⟨p,0,none⟩),.int .i64 op,.string ⟨#[]⟩,.agg #[.bool false,.slice none 0 0,.slice none 0 0],.slice (some ⟨w.heap.size,0,none⟩) 2 2] (w.alloc (.cells #[.int .i64 a,.int .i64 b] 3)) fun e w'=>
   e = .returned (.tuple #[.int .i64 (uA T op a b).1.1,.int .i64 (uA T op a b).1.2])/\St w0 p { (uA T op a b).2 with X:=X } w'/\dA p w w':=by
 have d:=h.lit (.cells #[.int .i64 a,.int .i64 b] 3);have f:=sH w0.heap.size p { T with X:=X } op ⟨#[]⟩ eA [a,b] none none (some ⟨w.heap.size,0,none⟩) 0 0 2 _ d.t (m.ok.sm.X X) (d.env j) (aD5 w op [a,b] o (by intro x g;simp at g;rcases g with rfl | rfl <;> assumption) (by show 2<=maxLen;decide) i);unfold cZ at f;rw [wI] at f;refine f.mono ?_;rintro e w' ⟨rfl,t,s⟩;exact⟨rfl,d.step t s,(dA.of_below h.t.plt (bJ)).trans s⟩
theorem aQt {T:aC} (h:dR T) (k b x:Int):dR (uB T k b x).2/\eI (uB T k b x).1.1:=by
 unfold uB
 split
 ·exact⟨kN (kN h _ _ _) _ _ _,aBe (kN h _ _ _) _ _ _⟩
 ·exact⟨kN h _ _ _,aBe h _ _ _⟩
section
variable {α : Type} {R : cH α} {B p z : Nat} {T : aC} {w w' : World} {a : Option Addr} {n : Nat} {xs : List α}
theorem bT.tstepZ (h:bT R (fun q=>dU w q/\q<z) w a n xs) (t:dG B p T w) (s:dA p w w'):bT R (fun q=>dU w' q/\q<z) w' a n xs:=
 (h.keep (fun _ _ b=>t.dat s b.1) s.size).mono fun _ _ b=>⟨b.1.same (t.dat s b.1),b.2⟩
theorem bT.belowZ {B:Nat} (h:bT R (fun q=>dU w q/\q<z) w a n xs) (d:Below B w w') (e:z<=B):bT R (fun q=>dU w' q/\q<z) w' a n xs:=
 (h.keep (fun q _ b=>d.block q (bG b.2 e)) d.size).mono fun q _ b=>⟨b.1.same (d.block q (bG b.2 e)),b.2⟩
end
theorem dA.thenBelow {p B:Nat} {w w1 d:World} (h:dA p w w1) (b:Below B w1 d) (m:w.heap.size<=B) (o:p<w.heap.size):dA p w d:=
 ⟨b.os.trans h.os,b.tape.trans h.tape,b.output.trans h.output,aH h.size b.size,fun k g i=>by
  obtain ⟨f,j⟩:=h.block k g i;exact⟨(b.block k (by omega)).trans f,fun e=>j ((gR.same (b.block p (by omega))).1 e)⟩⟩
theorem aNz {w0:World} (a7:lF w0) (p:Nat) (X:Nat->Prop) (T:aC) (k:Int) (n:aZ) (a b g:Option Addr) (c d e:Nat) (w:World) (h:St w0 p { T with X:=X } w) (aj:dR T) (f:eI k) (aM:eD (dU w) w n a c b d g e) (a5:n.args.length=3) :
  Calls prog 75 #[.pointer (some ⟨p,0,none⟩),.int .i64 k,lI n a c b d g e] w fun e w'=>nV w0 p X (jK T k n.args) w e w':=by
 have bj:=Z a7;obtain ⟨op,nm,⟨H,I,C⟩,args,L⟩:=n;dsimp only at a5;have O:=Z a5;clear a5;have am:Below w.heap.size w (w.alloc (.cells #[.int .i64 op,.string nm,.bool H,.slice a I.length c,.slice b C.length d,.slice g args.length e,.int .i64 L] 38)):=bJ;have aF:=cC w (.cells #[.int .i64 op,.string nm,.bool H,.slice a I.length c,.slice b C.length d,.slice g args.length e,.int .i64 L] 38);have az:bT cH.int (fun q=>dU (w.alloc (.cells #[.int .i64 op,.string nm,.bool H,.slice a I.length c,.slice b C.length d,.slice g args.length e,.int .i64 L] 38)) q/\q<w.heap.size) (w.alloc (.cells #[.int .i64 op,.string nm,.bool H,.slice a I.length c,.slice b C.length d,.slice g args.length e,.int .i64 L] 38)) g args.length args:=(aM.args.mono fun q _ hd=>⟨hd,hd.lt⟩:bT cH.int (fun q=>dU w q/\q<w.heap.size) w g args.length args).belowZ am aA;have ao:=Z (show ∀j,j<3->eI (nth args j) from fun j bU=>aM.args.toI.wf _ (cB (by have:=O.o;show j<args.length;omega)));have aw:=h.more (Y:=fun q=>X q\/q=w.heap.size) am (fun k f=>by
  rcases f with f | rfl
  ·exact .inl f
  ·exact .inr ⟨aA,by simp⟩)
 have bc:=Z (dA.of_below h.t.plt am);have ct:w.heap.size<(w.alloc (.cells #[.int .i64 op,.string nm,.bool H,.slice a I.length c,.slice b C.length d,.slice g args.length e,.int .i64 L] 38)).heap.size:=by simp
 have bW:=Z (show p<w.heap.size from h.t.plt);have bP:=Z (show w0.heap.size<=w.heap.size from h.b.size);generalize bX:w.alloc (.cells #[.int .i64 op,.string nm,.bool H,.slice a I.length c,.slice b C.length d,.slice g args.length e,.int .i64 L] 38)=w1 at *;have au:w1.cell? ⟨w.heap.size,5,none⟩=some (.slice g args.length e):=E aF 5;obtain ⟨ah,ar,rfl,aq⟩:=az.toI.at 0 (by have:=O.o;omega);rw [cU] at aq;have aI:=Z (aLe a7 aw aj 3 (nth args 0) ⟨by decide,by decide⟩ (by decide) (ao.o 0 (by omega)));have bk:=Z (aLd aj 3 (nth args 0));have bp:=Z (aTy aj 3 (nth args 0));have aa:=@Z (jK T k args=if (mk1 T 3 (nth args 0)).1.2=0 then oE (mk1 T 3 (nth args 0)).2 k [(nth args 0,nth args 1),((mk1 T 3 (nth args 0)).1.1,nth args 2)] [] else(([],(mk1 T 3 (nth args 0)).1.2),(mk1 T 3 (nth args 0)).2)) rfl;have aY:=Z az;have ax:=Z aw;have bn:=Z aF;have cl:(0:Int)<args.length:=by have:=O.o;omega
 generalize mk1 T 3 (nth args 0)=M at *;obtain ⟨⟨y,bO⟩,bG⟩:=M;dsimp only at aI bk bp aa;clear h a7 aj aM am az aw aF;go_enter func75,ntmps75
 go_wp2_with fail
 refine aI.o.mono ?_;rintro bg m ⟨rfl,b0,av⟩;have af:=Z b0;have a1:=Z (bc.o.trans av);have a0:=Z (aY.o.tstepZ ax.o.t av);have ag:=Z ((ax.o.own (.inr rfl) av).trans bn.o);clear b0 av aI bc aY ax bn au aq bX;by_cases bu:bO=0
 case neg=>
  rw [if_neg bu] at aa;go_wp2;go_ret2;rw [aa.o];exact⟨none,0,rfl,aW.nil _ _ _ _,af.o.fewer (fun k f=>.inl f),a1.o⟩
 case pos=>
  subst bu;rw [if_pos rfl] at aa;have au:m.cell? ⟨w.heap.size,5,none⟩=some (.slice (some ⟨ah,ar,none⟩) args.length e):=E ag.o 5;obtain ⟨b2,ci,P,aq⟩:=a0.o.toI.at 0 (by have:=O.o;omega);injection P with P
  injection P with h1 h2 h9
  subst h1 h2;rw [cU] at aq;have U:Below m.heap.size m (m.alloc (.cells #[.int .i64 (nth args 0),.int .i64 y] 3)):=bJ;have b6:=Z (af.o.more (Y:=fun q=>((X q\/q=w.heap.size)\/q=m.heap.size)\/kI (.slice none 0 0) q) U (fun k f=>by
   rcases f with (f | rfl) | f
   ·exact .inl f
   ·exact .inr ⟨aA,by simp⟩
   ·cases f))
  have bE:=Z (a1.o.trans (dA.of_below af.o.t.plt U));have bB:=Z (a0.o.belowZ U (gM (bH ag.o).1));have bL:=Z (bD U ag.o);have bN:=Z (cC m (.cells #[.int .i64 (nth args 0),.int .i64 y] 3));have bZ:=Z (show w.heap.size<m.heap.size from(bH ag.o).1);have cu:=bZ.o;have cv:m.heap.size<(m.alloc (.cells #[.int .i64 (nth args 0),.int .i64 y] 3)).heap.size:=by simp
  obtain ⟨cw,bS,cb,cc,cd⟩:=info_parts lE;clear U af a1 a0;go_wp2;generalize bY:m.alloc (.cells #[.int .i64 (nth args 0),.int .i64 y] 3)=w3 at *;clear bY
  go_loopw [6,7,9,10,11,12,13,35] (fun b5 cj _ _ _ _ _ aR wr=>∃(j:Nat) (T':aC) (out:List Int),j<=2/\aR = .int .i64 j/\cj = .int .i64 0/\Hid (jK T k args=oE T' k ([(nth args 0,nth args 1),(y,nth args 2)].drop j) out)/\out.length<=j/\Hid (St w0 p { T' with X:=fun q=>((X q\/q=w.heap.size)\/q=m.heap.size)\/kI b5 q } wr)/\Hid (dR T')/\w3.heap.size<=wr.heap.size/\Hid (aW wr w3.heap.size 3 1 b5 out.length (out.map (Value.int .i64)))/\Hid (dA p w wr)/\Hid (bT cH.int (fun q=>dU wr q/\q<w.heap.size) wr (some ⟨ah,ar,none⟩) args.length args)/\Hid (wr.heap[w.heap.size]? = some (.cells #[.int .i64 op,.string nm,.bool H,.slice a I.length c,.slice b C.length d,.slice (some ⟨ah,ar,none⟩) args.length e,.int .i64 L] 38 (0,0)))/\Hid (wr.heap[m.heap.size]? = some (.cells #[.int .i64 (nth args 0),.int .i64 y] 3 (0,0)))) (fun _ _ _ _ _ _ _ aR _=>2 - (intOf aR).toNat)
  case atStart=>exact⟨0,bG,[],aN,rfl,rfl,aa.o,aA,b6.o,bk.o,aA,aW.nil _ _ _ _,bE.o,bB.o,bL.o,bN.o⟩
  case round=>
   obtain ⟨j,T',out,bU,rfl,rfl,a6,cr,D,a8,ce,al,aD,aB,aE,a9⟩:=hrel;obtain ⟨be,bf,rfl,cm,cn⟩:=al.o.slice;by_cases cq:j<2
   ·obtain ⟨x,r,br,bo,bw,P,bx⟩:∃x r,[(nth args 0,nth args 1),(y,nth args 2)].drop j=(x,r) :: [(nth args 0,nth args 1),(y,nth args 2)].drop (j+1) /\ #[Value.int .i64 (nth args 0),.int .i64 y][j]? = some (.int .i64 x)/\nth args (1+j)=r/\eI x/\eI r:=by
     have:j=0\/j=1:=by omega
     rcases this with rfl | rfl
     ·exact⟨_,_,rfl,rfl,rfl,ao.o 0 (by omega),ao.o 1 (by omega)⟩
     ·exact⟨_,_,rfl,rfl,rfl,bp.o,ao.o 2 (by omega)⟩
    have ch:wr.cell? ⟨m.heap.size,j,none⟩=some (.int .i64 x):=(E a9.o j).trans bo;have au:wr.cell? ⟨w.heap.size,5,none⟩=some (.slice (some ⟨ah,ar,none⟩) args.length e):=E aE.o 5;obtain ⟨b2,ci,aG,b4⟩:=aB.o.toI.at (1+j) (by have:=O.o;omega);injection aG with aG
    injection aG with h1 h2 h4
    subst h1 h2;rw [bw] at b4;have aK:=Z (vH bj.o D.o a8.o 8 k r ⟨by decide,by decide⟩ (by decide) f bx);have ak:=Z (kN a8.o 8 k r);have bq:=Z (aBe a8.o 8 k r);have ad:=@Z (uB T' k x r=if (uA T' 8 k r).1.2=0 then uA (uA T' 8 k r).2 6 x (uA T' 8 k r).1.1 else(uA T' 8 k r)) rfl;have ai:=a6.o;rw [br] at ai;unfold oE at ai;have bi:=Z ai;have bQ:=Z P;have cp:(1:Int)+j<args.length:=by have:=O.o;omega
    have co:(j:Int)<2:=by omega
    clear a6 ai br bo bw P bx;generalize uA T' 8 k r=M at *;obtain ⟨⟨ap,bg⟩,bI⟩:=M;dsimp only at aK ak bq ad
    go_wp2_with fail
    refine aK.o.mono ?_;rintro bh w4 ⟨rfl,b1,J⟩;have bV:∀k,k<wr.heap.size->k<wr.heap.size:=fun _ h=>h
    have A:=Z b1;have bd:=Z ((D.o.own (.inl (.inl (.inr rfl))) J).trans aE.o);have aU:=Z ((D.o.own (.inl (.inr rfl)) J).trans a9.o);have ba:=Z (aB.o.tstepZ D.o.t J);have aX:=Z (al.o.same fun k f=>D.o.own (.inr f) J);have a2:=Z (aD.o.trans J);have cf:w3.heap.size<=w4.heap.size:=aH ce J.size;clear bV b1 J aK D aE a9 aB al aD ch au b4;by_cases aJ:bg=0
    case neg=>
     rw [if_neg aJ] at ad;have i:=bi.o;rw [ad.o,if_neg aJ] at i;have G:=Z i;clear i;go_wp2;go_ret2;rw [G.o];exact⟨none,0,rfl,aW.nil _ _ _ _,A.o.fewer (fun k f=>.inl (.inl (.inl f))),a2.o⟩
    case pos=>
     subst aJ;rw [if_pos rfl] at ad;have aL:=Z (vH bj.o A.o ak.o 6 x ap ⟨by decide,by decide⟩ (by decide) bQ.o bq.o);have bl:=Z (kN ak.o 6 x ap);have bR:=Z (aBe ak.o 6 x ap);generalize uA bI 6 x ap=M at *;obtain ⟨⟨id,bh⟩,bK⟩:=M;dsimp only at aL bl bR;have i:=bi.o;rw [ad.o] at i;dsimp only at i
     go_wp2_with fail
     refine aL.o.mono ?_;rintro ck N ⟨rfl,b3,K⟩;have ay:=Z b3;have a4:=Z ((A.o.own (.inl (.inl (.inr rfl))) K).trans bd.o);have aV:=Z ((A.o.own (.inl (.inr rfl)) K).trans aU.o);have bb:=Z (ba.o.tstepZ A.o.t K);have Q:=Z (aX.o.same fun k f=>A.o.own (.inr f) K);have a3:=Z (a2.o.trans K);have bz:w3.heap.size<=N.heap.size:=aH cf K.size;clear b3 K aL A bd aU ba aX a2;by_cases bs:bh=0
     case neg=>
      rw [if_neg bs] at i;have G:=Z i;clear i;go_wp2;go_ret2;rw [G.o];exact⟨none,0,rfl,aW.nil _ _ _ _,ay.o.fewer (fun k f=>.inl (.inl (.inl f))),a3.o⟩
     case pos=>
      subst bs;rw [if_pos rfl] at i;have G:=Z i;have ca:w.heap.size<N.heap.size:=(bH a4.o).1;clear i
      go_wp2_with (at_builtin;refine cI rfl (.tmp 69) (.tmp 71) rfl underlying23 bS cb cc cd rfl (by decide) rfl rfl (Q.o.alloc _) (Src.one (b:=N.heap.size) (news:=[.int .i64 id]) rfl ?c1) ?c2 ?c3 ?c4 ?c5 ?_)
      case c1=>intro j u an;rw [kO];simpa using an
      case c2=>intro u an;simp at an;subst an;rfl
      case c3=>unfold maxLen;omega
      case c4=>omega
      case c5=>first | omega | (simp;omega)
      intro v' aS aQ ab bv;have V:Below N.heap.size N (N.alloc (.cells #[.int .i64 id] 3)):=bJ;have aT:=ay.o.all V;have b7:=Z (aT.push ab (fun k f=>by have:=(Q.o.lt k f).1;have:=bP.o;omega) (bv.imp (fun h=>h) fun h k f=>by rw [iD];exact h k f) (fun k f=>(aQ.lt k f).2));have aP:∀q,q<w3.heap.size->(Value.slice be out.length bf).ownBlock≠some q:=fun q cs e=>by have:=(Q.o.lt q e).1;omega
      have bM:=Z ((ab.block w.heap.size (by simp;omega) (fun e=>aP _ (by omega) e.symm)).trans ((V.block _ ca).trans a4.o));have b8:=Z ((ab.block m.heap.size (by simp;omega) (fun e=>aP _ (by omega) e.symm)).trans ((V.block _ (by omega)).trans aV.o));have ae:Below w3.heap.size N aS:=(V.mono bz).trans ((aO _ _).grown ab (by simp;omega) (fun k f=>(Q.o.lt k f).1));have bC:=Z (bb.o.belowZ ae (by omega));have bF:=Z (a3.o.thenBelow ae (by omega) bW.o);have b9:=Z (show aW aS w3.heap.size 3 1 v' (out ++ [id]).length ((out ++ [id]).map (Value.int .i64)) from by rw [dM,kZ,mL];exact aQ);have cg:w3.heap.size<=aS.heap.size:=aH bz ae.size;clear V aT aP ae aQ ab bv ay a4 aV bb Q a3;go_wp2
      go_roundw
      case rel=>exact⟨j+1,bK,out ++ [id],by omega,by go_num,rfl,G.o,by simp;omega,b7.o,bl.o,cg,b9.o,bF.o,bC.o,bM.o,b8.o⟩
      case measure=>simp [intOf];omega
   ·obtain rfl:j=2:=by omega
    have i:=a6.o;rw [show [(nth args 0,nth args 1),(y,nth args 2)].drop 2 = [] from rfl] at i;unfold oE at i;have G:=Z i;have bA:=Z (al.o.lower (base':=w.heap.size) (by omega));clear i;go_wp2;go_ret2;rw [G.o];exact⟨be,bf,rfl,bA.o,D.o.fewer (fun k f=>.inl (.inl (.inl f))),aD.o⟩
structure sQ (w0:World) (p bt bm:Nat) (s:List Int) (w:World):Prop where
 lt:w0.heap.size<=bt/\w0.heap.size<=bm/\bt≠bm
 t:w.heap[bt]? = some (.cells #[.pointer (some ⟨p,0,none⟩)] 26 (0,0))
 m:∃v,w.heap[bm]? = some (.cells #[v] 23 (0,0))/\aW w bm 3 1 v s.length (s.map (Value.int .i64))
def dX (bt bm:Nat) (_s:List Int) (w:World) (k:Nat):Prop:=k=bt\/k=bm\/∃v,w.heap[bm]? = some (.cells #[v] 23 (0,0))/\v.ownBlock=some k
section
variable {w0 w w' : World} {p bt bm : Nat} {s : List Int}
theorem dX.iff {v:Value} (d:w.heap[bm]? = some (.cells #[v] 23 (0,0))) (k:Nat):dX bt bm s w k↔k=bt\/k=bm\/v.ownBlock=some k:=by
 unfold dX;constructor
 ·rintro (h | h | ⟨u,b,h⟩)
  ·exact .inl h
  ·exact .inr (.inl h)
  ·rw [d] at b;injection b with b
   injection b with b
   have:v=u:=by simpa using b
   exact .inr (.inr (this ▸ h))
 ·rintro (h | h | h)
  ·exact .inl h
  ·exact .inr (.inl h)
  ·exact .inr (.inr ⟨v,d,h⟩)
theorem sQ.ltD (h:sQ w0 p bt bm s w) (k:Nat) (b:dX bt bm s w k):w0.heap.size<=k/\k<w.heap.size:=by
 obtain ⟨v,e,d⟩:=h.m;rcases (dX.iff e k).1 b with rfl | rfl | b
 ·exact⟨h.lt.1,(bH h.t).1⟩
 ·exact⟨h.lt.2.1,(bH e).1⟩
 ·exact⟨aH h.lt.2.1 (d.lt k b).1,(d.lt k b).2⟩
theorem sQ.keep (h:sQ w0 p bt bm s w) (b:∀k,dX bt bm s w k->w'.heap[k]? = w.heap[k]?):sQ w0 p bt bm s w'/\∀k,dX bt bm s w' k↔dX bt bm s w k:=by
 obtain ⟨v,d,g⟩:=h.m;have f:=(b bm (.inr (.inl rfl))).trans d;refine⟨⟨h.lt,(b bt (.inl rfl)).trans h.t,⟨v,f,g.same fun k e=>b k ((dX.iff d k).2 (.inr (.inr e)))⟩⟩,fun k=>?_⟩;rw [dX.iff f,dX.iff d]
end
theorem aAk {k:Int}:∀(l:List (Int × Int)) {T:aC} (_:dR T) (out:List Int),kW T (oE T k l out).2 0/\(oE T k l out).1.1.length<=out.length+l.length/\((∀x∈out,eI x)->∀x∈(oE T k l out).1.1,eI x)
 | [],T,h,out=>⟨.refl h,aA,fun h=>h⟩
 |
  (b,x) :: l,T,h,out=>by
  have e:kW T (uB T k b x).2 0:=by
   have d:=h.make 8 (nm:=⟨#[]⟩) (val:=eA) [k,x] (by decide) (by decide) (by decide);unfold uB
   split
   ·exact d.trans (d.g.make 6 (nm:=⟨#[]⟩) (val:=eA) _ (by decide) (by decide) (by decide))
   ·exact d
  unfold oE
  split
  ·obtain ⟨i,j,m⟩:=aAk l e.g (out ++ [(uB T k b x).1.1]);refine⟨e.trans i,by rw [dM,kZ] at j;rw [fQ];omega,fun f=>m fun y hy=>?_⟩;rcases fT.1 hy with hy | hy
   ·exact f y hy
   ·obtain rfl:=eP.1 hy;exact(aQt h k b x).2
  ·exact⟨e,aN,fun _ y hy=>by simp at hy⟩
theorem aBy {T:aC} (h:dR T) (k:Int) (args:List Int):kW T (jK T k args).2 0/\(jK T k args).1.1.length<=2/\∀x∈(jK T k args).1.1,eI x:=by
 have b:=h.make 3 (nm:=⟨#[]⟩) (val:=eA) [nth args 0] (by decide) (by decide) (by decide);unfold jK
 split
 ·obtain ⟨d,e,f⟩:=aAk (k:=k) [(nth args 0,nth args 1),((mk1 T 3 (nth args 0)).1.1,nth args 2)] b.g [];exact⟨b.trans d,e,f (by simp)⟩
 ·exact⟨b,aN,by simp⟩
theorem aO2:eI 0:=⟨by decide,by decide⟩
theorem aO3 {T:aC} (h:dR T) (s:Int):eI (dC T s).1.1:=by
 have:=aOx h.ok.sm (cY T s);unfold dC
 split
 ·split
  ·unfold eI;dsimp only;omega
  ·unfold eI;omega
 ·exact aO2
theorem aN0 (T:aC) (s:List Int) (id:Int) (n:aZ) (h:dR T) (e:T.fresh<=1000000000000):kW T (jL T s id n).2.1 100/\eI (jL T s id n).1.1/\(jL T s id n).2.2.length<=s.length+100:=by
 have b:=h.fresh n.sort (by omega);unfold jL
 split
 ·split
  ·obtain ⟨d,f,_⟩:=aBy b.g (dC T n.sort).1.1 n.args;exact⟨(b.trans d).mono (by decide),aO3 h n.sort,by dsimp only;rw [dM];omega⟩
  ·exact⟨b.mono (by decide),aO2,yX _ _⟩
 ·exact⟨(kW.refl h).mono (by decide),aO2,yX _ _⟩
section
variable {w0 w w1 w3 w4 : World} {p bt bm : Nat} {s l : List Int} {T T' : aC} {Y : Nat -> Prop} {v v' : Value}
theorem aBf (h:Cx w0 p (sQ w0 p bt bm) (dX bt bm) Y T s w) (d:St w0 p { T' with X:=fun k=>dX bt bm s w k\/Y k } w3) (S:dA p w w3) (f:∀k,dX bt bm s w k->w3.heap[k]? = w.heap[k]?) :
  Cx w0 p (sQ w0 p bt bm) (dX bt bm) Y T' s w3/\lT p (dX bt bm s w) (dX bt bm s w3) w w3:=by
 obtain ⟨g,hd⟩:=h.j.keep f;refine⟨⟨?_,d.b,g⟩,lT.ofT S fun k e=>(hd k).1 e⟩;have e:(fun k=>dX bt bm s w3 k\/Y k)=(fun k=>dX bt bm s w k\/Y k):=funext fun k=>propext (or_congr (hd k) Iff.rfl)
 rw [e];exact d.t
theorem aQu (h:Cx w0 p (sQ w0 p bt bm) (dX bt bm) Y T s w) (y:St w0 p { T' with X:=fun k=>dX bt bm s w k\/Y k } w3) (S:dA p w w3) (Z:∀k,dX bt bm s w k->w3.heap[k]? = w.heap[k]?)
  (H:w3.heap[bm]? = some (.cells #[v] 23 (0,0))) (L:aW w3 bm 3 1 v s.length (s.map (Value.int .i64))) (f:w3.grownBy w4 v.ownBlock) (o:v'.ownBlock=v.ownBlock\/∀k,v'.ownBlock=some k->w3.heap.size<=k)
  (J:aW w4 bm 3 1 v' (s++l).length ((s++l).map (Value.int .i64))) :
  Cx w0 p (sQ w0 p bt bm) (dX bt bm) Y T' (s++l) (w4.setCell ⟨bm,0,none⟩ v')/\lT p (dX bt bm s w) (dX bt bm (s++l) (w4.setCell ⟨bm,0,none⟩ v')) w (w4.setCell ⟨bm,0,none⟩ v'):=by
 obtain ⟨ad,hd⟩:=h.j.keep Z;have K:=ad.t;have ab:bt<w3.heap.size:=(bH K).1;have aa:bm<w3.heap.size:=(bH H).1;have af:v.ownBlock≠some bt:=fun e=>cO (by decide) (L.ty bt e) ⟨_,_,K⟩
 have ag:v.ownBlock≠some bm:=fun e=>cO (by decide) (L.ty bm e) ⟨_,_,H⟩
 have Q:w4.heap[bm]? = some (.cells #[v] 23 (0,0)):=(f.block bm aa ag.symm).trans H;have ah:v'.ownBlock≠some bm:=fun e=>cO (by decide) (J.ty bm e) ⟨_,_,Q⟩
 generalize I:w4.setCell ⟨bm,0,none⟩ v'=i;have U:∀k,k≠bm->i.heap[k]? = w4.heap[k]?:=fun k d=>by subst I;exact dZ _ _ _ _ (fun e=>d e)
 have z5:i.heap.size=w4.heap.size:=by subst I;exact eX
 have m5:i.heap[bm]? = some (.cells #[v'] 23 (0,0)):=by
  subst I;unfold World.setCell;rw [iN,if_pos rfl,Q];rfl
 have x:i.os=w4.os/\i.tape=w4.tape/\i.output=w4.output:=by subst I;exact⟨rfl,rfl,rfl⟩
 have E:∀k,k<w3.heap.size->v.ownBlock≠some k->k≠bm->i.heap[k]? = w3.heap[k]?:=fun k A G r=>(U k r).trans (f.block k A G.symm)
 have g:∀k,dX bt bm s w k↔k=bt\/k=bm\/v.ownBlock=some k:=fun k=>(hd k).symm.trans (dX.iff H k)
 have N:∀k,dX bt bm (s++l) i k↔k=bt\/k=bm\/v'.ownBlock=some k:=fun k=>dX.iff m5 k
 have C:∀k,dX bt bm s w k\/Y k->k<w3.heap.size/\¬gR p w3 k:=fun k d=>by
  obtain ⟨q,ai,aj,m,O⟩:=y.t;exact⟨(O.xlt k d).1,(O.xlt k d).2.1⟩
 have M:Below w0.heap.size w3 i:=by
  refine⟨x.1.trans f.os,x.2.1.trans f.tape,x.2.2.trans f.output,by rw [z5];exact f.size,fun k d=>E k (bG d y.b.size) (fun e=>?_) (fun e=>?_)⟩
  ·have:=(L.lt k e).1;have:=h.j.lt.2.1;omega
  ·have:=h.j.lt.2.1;omega
 have ae:i.heap[p]? = w3.heap[p]?:=E p y.t.plt (fun e=>(C p (.inl ((g p).2 (.inr (.inr e))))).2 (.inl (.inl rfl))) (fun e=>(C p (.inl ((g p).2 (.inr (.inl e))))).2 (.inl (.inl rfl)));refine⟨⟨?_,y.b.trans M,⟨h.j.lt,(E bt ab af h.j.lt.2.2).trans K,⟨v',m5,J.same fun k e=>U k fun V=>ah (V ▸ e)⟩⟩⟩,⟨?_,?_,?_,?_,fun k A G r=>⟨?_,?_,?_⟩⟩⟩
 ·refine(y.excl (X':=fun k=>dX bt bm (s++l) i k\/Y k) M (fun k d P=>E k d (fun e=>P (.inl ((g k).2 (.inr (.inr e))))) (fun e=>P (.inl ((g k).2 (.inr (.inl e)))))) (fun k d=>?_)).t;rcases d with d | d
  ·rcases (N k).1 d with d | d | d
   ·have D:dX bt bm s w k:=(g k).2 (.inl d);exact⟨.inl (.inl D),by rw [z5];exact bG (C k (.inl D)).1 f.size⟩
   ·have D:dX bt bm s w k:=(g k).2 (.inr (.inl d));exact⟨.inl (.inl D),by rw [z5];exact bG (C k (.inl D)).1 f.size⟩
   ·refine⟨?_,by rw [z5];exact(J.lt k d).2⟩;rcases o with o | o
    ·exact .inl (.inl ((g k).2 (.inr (.inr (by rw [<-o];exact d)))))
    ·exact .inr (o k d)
  ·exact⟨.inl (.inr d),by rw [z5];exact bG (C k (.inr d)).1 f.size⟩
 ·exact(x.1.trans f.os).trans S.os
 ·exact(x.2.1.trans f.tape).trans S.tape
 ·exact(x.2.2.trans f.output).trans S.output
 ·rw [z5];exact aH S.size f.size
 ·exact(E k (bG A S.size) (fun e=>r ((g k).2 (.inr (.inr e)))) (fun e=>r ((g k).2 (.inr (.inl e))))).trans (S.block k A G).1
 ·exact fun e=>(S.block k A G).2 ((gR.same ae).1 e)
 ·intro e;rcases (N k).1 e with e | e | e
  ·exact r ((g k).2 (.inl e))
  ·exact r ((g k).2 (.inr (.inl e)))
  ·rcases o with o | o
   ·exact r ((g k).2 (.inr (.inr (by rw [<-o];exact e))))
   ·have:=o k e;have:=S.size;omega
end
theorem Src.own {w:World} {base n c:Nat} {t:TypeId} {a:Option Addr} {xs:List Value} (h:aW w base t 1 (.slice a n c) n xs):Src w 1 a n xs:=by
 refine⟨h.1,fun b=>?_⟩;obtain ⟨g,f,e,_⟩:=h.form b;injection e with h1 h2 h3
 subst h1;exact⟨_,rfl,fun j u d=>by rw [lD,dT];exact h.cells rfl j u d⟩
theorem eD.datM {w w':World} {x:aZ} {a b g:Option Addr} {c d e:Nat} (h:eD (dU w) w x a c b d g e) (f:∀k,dU w k->w'.heap[k]? = w.heap[k]?) (i:w.heap.size<=w'.heap.size):eD (dU w') w' x a c b d g e:=
 (h.keep (fun k _ hd=>f k hd) i).mono fun k _ hd=>hd.same (f k hd)
def aTz (w0:World) (p bt bm:Nat) (Y:Nat->Prop) (s:List Int) (R:(Int × Bool × Int) × aC × List Int) (w:World) (e:Ending) (w':World):Prop:=
 e = .returned (.tuple #[.int .i64 R.1.1,.bool R.1.2.1,.int .i64 R.1.2.2])/\Cx w0 p (sQ w0 p bt bm) (dX bt bm) Y R.2.1 R.2.2 w'/\lT p (dX bt bm s w) (dX bt bm R.2.2 w') w w'
theorem aQv {w0:World} (Q:lF w0) (p bt bm:Nat) (Y:Nat->Prop) (T:aC) (s:List Int) (w:World) (id:Int) (n:aZ) (a b g:Option Addr) (c d e:Nat) (h:Cx w0 p (sQ w0 p bt bm) (dX bt bm) Y T s w) (H:dR T) (br:T.fresh<=1000000000000) (bu:s.length<=1000000000000) (aj:tZ n) (aa:eD (dU w) w n a c b d g e) :
  Calls prog 73 #[.int .i64 id,lI n a c b d g e,.pointer (some ⟨bt,0,none⟩),.pointer (some ⟨bm,0,none⟩)] w fun e w'=>aTz w0 p bt bm Y s (jL T s id n) w e w':=by
 have bc:=Z Q;have N:=Z h;have bs:=Z H;have al:=Z aj.ite;have I:=@Z (jL T s id n=if n.op=10/\n.sort≠0 then
  if (dC T n.sort).1.2=0 then
   (((dC T n.sort).1.1,true,(jK (dC T n.sort).2 (dC T n.sort).1.1 n.args).1.2),(jK (dC T n.sort).2 (dC T n.sort).1.1 n.args).2,s++(jK (dC T n.sort).2 (dC T n.sort).1.1 n.args).1.1)
  else((0,false,(dC T n.sort).1.2),(dC T n.sort).2,s)
 else((0,false,0),T,s)) rfl
 have ae:St w0 p { T with X:=fun q=>dX bt bm s w q\/Y q } w:=⟨h.t,h.b⟩;obtain ⟨op,nm,⟨C,D,y⟩,args,f⟩:=n;dsimp only at I al;have A:Below w.heap.size w (w.alloc (.cells #[.int .i64 op,.string nm,.bool C,.slice a D.length c,.slice b y.length d,.slice g args.length e,.int .i64 f] 38)):=bJ;have U:=cC w (.cells #[.int .i64 op,.string nm,.bool C,.slice a D.length c,.slice b y.length d,.slice g args.length e,.int .i64 f] 38);have ab:eI f:=aa.sort;have ag:=aa.datM (Below.dat A) A.size;have P:∀k,dX bt bm s w k->(w.alloc (.cells #[.int .i64 op,.string nm,.bool C,.slice a D.length c,.slice b y.length d,.slice g args.length e,.int .i64 f] 38)).heap[k]? = w.heap[k]?:=fun k i=>A.block k (h.j.ltD k i).2
 have L:=ae.more (Y:=fun q=>(dX bt bm s w q\/Y q)\/q=w.heap.size) A (fun k i=>by
  rcases i with i | rfl
  ·exact .inl i
  ·exact .inr ⟨aA,by simp⟩)
 have ah:=Z (dA.of_below h.t.plt A);have ak:=(P bt (.inl rfl)).trans h.j.t;generalize bg:w.alloc (.cells #[.int .i64 op,.string nm,.bool C,.slice a D.length c,.slice b y.length d,.slice g args.length e,.int .i64 f] 38)=w1 at *;obtain ⟨a2,a3,a4,a5,a6,a7,a8⟩:=pT U;have qt:w1.cell? ⟨bt,0,none⟩=some (.pointer (some ⟨p,0,none⟩)):=E ak 0;have G:=Z L;have aE:=Z ag;have ai:=Z P;have aJ:=Z U;have b1:=Z ab;by_cases az:op=10
 case neg=>
  have J:=@Z (jL T s id ⟨op,nm,⟨C,D,y⟩,args,f⟩=((0,false,0),T,s)) (by rw [I.o,if_neg (fun e=>az e.1)]);have bz:decide (op=10)=false:=aR az;clear h Q H aa aj ae L ag P U A ak I ab al;go_enter func73,ntmps73
  go_wp2
  go_ret3
  obtain ⟨z1,z2⟩:=aBf N.o (G.o.fewer (fun k i=>.inl i)) ah.o ai.o;exact⟨by rw [J.o];rfl,by rw [J.o];exact z1,by rw [J.o];exact z2⟩
 subst az;have be:=@Z (args.length=3) (al.o rfl);clear al;by_cases a0:f=0
 case pos=>
  subst a0;have J:=@Z (jL T s id ⟨10,nm,⟨C,D,y⟩,args,0⟩=((0,false,0),T,s)) (by rw [I.o,if_neg (fun e=>e.2 rfl)]);clear h Q H aa aj ae L ag P U A ak I ab;go_enter func73,ntmps73
  go_wp2
  go_ret3
  obtain ⟨z1,z2⟩:=aBf N.o (G.o.fewer (fun k i=>.inl i)) ah.o ai.o;exact⟨by rw [J.o];rfl,by rw [J.o];exact z1,by rw [J.o];exact z2⟩
 case neg=>
  have r:=@Z (jL T s id ⟨10,nm,⟨C,D,y⟩,args,f⟩=if (dC T f).1.2=0 then
   (((dC T f).1.1,true,(jK (dC T f).2 (dC T f).1.1 args).1.2),(jK (dC T f).2 (dC T f).1.1 args).2,s++(jK (dC T f).2 (dC T f).1.1 args).1.1)
   else((0,false,(dC T f).1.2),(dC T f).2,s)) (by rw [I.o,if_pos ⟨rfl,a0⟩])
  have b0:decide (f=0)=false:=aR a0;have V:=aPt w0.heap.size p { T with X:=fun q=>(dX bt bm s w q\/Y q)\/q=w.heap.size } f w1 L.t (H.ok.sm.X _) (L.env Q) ab;unfold aFx at V;rw [aS3] at V;dsimp only at V;have av:=Z V;have ar:=Z (H.fresh f (by omega)).g;have aK:=Z (aO3 H f);generalize dC T f=M at *;obtain ⟨⟨k,er⟩,aG⟩:=M;dsimp only at av ar aK r;clear h Q H aa aj ae L ag P U A ak I ab V;go_enter func73,ntmps73
  go_wp2_with fail
  refine av.o.mono ?_;rintro bb aB ⟨rfl,aV,K⟩;have af:=Z (G.o.step aV K);have an:=Z (ah.o.trans K);have ad:=Z (show ∀k,dX bt bm s w k->aB.heap[k]? = w.heap[k]? from fun k i=>(G.o.own (.inl (.inl i)) K).trans (ai.o k i));have aH:=Z ((G.o.own (.inr rfl) K).trans aJ.o);have aF:=Z (aE.o.datM (fun k i=>G.o.t.dat K i) K.size);clear aV K av G ah ai aJ aE a2 a3 a4 a5 a6 a7 a8 qt bg;by_cases aM:er=0
  case neg=>
   rw [if_neg aM] at r;go_wp2
   go_ret3
   obtain ⟨z1,z2⟩:=aBf N.o (af.o.fewer (fun k i=>.inl i)) an.o ad.o;exact⟨by rw [r.o];rfl,by rw [r.o];exact z1,by rw [r.o];exact z2⟩
  case pos=>
   subst aM;rw [if_pos rfl] at r;have au:=aNz bc.o p (fun q=>(dX bt bm s w q\/Y q)\/q=w.heap.size) aG k ⟨10,nm,⟨C,D,y⟩,args,f⟩ a b g c d e aB af.o ar.o aK.o aF.o be.o;dsimp only at au;have aN:=Z (aBy ar.o k args);have aL:=Z au;generalize jK aG k args=M at *;obtain ⟨⟨l,bp⟩,ba⟩:=M;dsimp only at r aN;obtain ⟨a2,a3,a4,a5,a6,a7,a8⟩:=pT aH.o;have qt:aB.cell? ⟨bt,0,none⟩=some (.pointer (some ⟨p,0,none⟩)):=E ((ad.o bt (.inl rfl)).trans N.o.j.t) 0;clear au
   go_wp2_with fail
   refine aL.o.mono ?_;rintro bb w3 ⟨bk,bn,rfl,aU,aS,a9⟩;have aD:=Z (show ∀k,dX bt bm s w k->w3.heap[k]? = w.heap[k]? from fun k i=>(af.o.own (.inl (.inl i)) a9).trans (ad.o k i));obtain ⟨aO,_⟩:=N.o.j.keep aD.o;obtain ⟨v,a1,ax⟩:=aO.m;have aW:=Z aS;have aY:=Z (an.o.trans a9);have aX:=Z aU;have O:=Z a1;have am:=Z ax;obtain ⟨ap,aq,rfl,bv,bw⟩:=ax.slice;have b3:w3.cell? ⟨bm,0,none⟩=some (.slice ap s.length aq):=E a1 0;have bx:=aN.o.2.1;obtain ⟨b2,bd,bh,bi,bj⟩:=info_parts lE;clear aS a9 aU a1 ax aO aL af an ad aH aF a2 a3 a4 a5 a6 a7 a8 qt
   go_wp2_with (at_builtin;refine cI rfl (.tmp 37) (.tmp 38) rfl underlying23 bd bh bi bj rfl (by decide) rfl rfl am.o (Src.own aX.o) ?c2 ?c3 ?c4 ?c5 ?_)
   case c2=>intro u bf;obtain ⟨x,_,rfl⟩:=qA.1 bf;rfl
   case c3=>unfold maxLen;omega
   case c4=>omega
   case c5=>exact gM (bH O.o).1
   intro v' w4 ay aw aP;obtain ⟨bl,bo,rfl,_,_⟩:=ay.slice;have aT:(Value.slice ap s.length aq).ownBlock≠some bm:=fun e=>cO (by decide) (am.o.ty bm e) ⟨_,_,O.o⟩
   have ao:=(aw.block bm (bH O.o).1 aT.symm).trans O.o;have b4:w4.cell? ⟨bm,0,none⟩=some (.slice ap s.length aq):=E ao 0;have bq:w4.frozen? ⟨bm,0,none⟩=false:=aQ ao 0;have aI:=Z (aQu (l:=l) (T':=ba) N.o (aW.o.fewer (fun k i=>.inl i)) aY.o aD.o O.o am.o aw aP (by rw [dM,mL];exact ay));clear ay aw aP aT ao;go_wp2
   go_ret3
   exact⟨by rw [r.o];rfl,by rw [r.o];exact aI.o.1,by rw [r.o];exact aI.o.2⟩
theorem aVp {w0:World} (i:lF w0) (p bt bm:Nat):pQ w0 p 73 [] [.pointer (some ⟨bt,0,none⟩),.pointer (some ⟨bm,0,none⟩)] jL (sQ w0 p bt bm) (dX bt bm) List.length where
 enter:=enters_of func73 (by kernel_rfl) rfl
 lt _ _ h k f:=h.ltD k f
 keep _ _ _ h f _:=h.keep f
 grow T s _ id n _ h hf _:=aN0 T s id n h hf
 call Y T s w id n a c b d g e h hG hF hZ hN _ hn:=aQv i p bt bm Y T s w id n a b g c d e h hG hF hZ hN (hn.mono fun _ _ f=>f.1)
theorem aQw {w:World} {b:Nat} {v:Value} {t:TypeId} (d:w.heap[b]? = some (.cells #[v] t (0,0))):Below w.heap.size w (w.drew.setCell ⟨b,0,none⟩ v):=by
 refine⟨rfl,rfl,rfl,cD (eX (w:=w.drew)).symm,fun k _=>?_⟩;show((w.drew).setCell ⟨b,0,none⟩ v).heap[k]? = _;unfold World.setCell;rw [iN];by_cases e:b=k
 ·subst e;rw [if_pos rfl,show(w.drew).heap[b]? = w.heap[b]? from rfl,d];rfl
 ·rw [if_neg e];rfl
def aC6 (w0:World) (p:Nat) (X:Nat->Prop) (T:aC) (R:(List Int × List Int × Int) × aC) (w:World) (e:Ending) (w':World):Prop:=
 ∃a1 c1 a2 c2,e = .returned (.tuple #[.slice a1 R.1.1.length c1,.slice a2 R.1.2.1.length c2,.int .i64 R.1.2.2])/\aW w' w.heap.size 3 1 (.slice a1 R.1.1.length c1) R.1.1.length (R.1.1.map (Value.int .i64))/\aW w' w.heap.size 3 1 (.slice a2 R.1.2.1.length c2) R.1.2.1.length (R.1.2.1.map (Value.int .i64)) /\
  (∀x∈R.1.1,eI x)/\St w0 p { R.2 with X:=X } w'/\dA p w w'/\kW T R.2 1638400
theorem aBz {w0:World} (aa:lF w0) (p:Nat) (X:Nat->Prop) (T:aC) (a:Option Addr) (n c:Nat) (ids:List Int) (w:World) (h:St w0 p { T with X:=X } w) (ai:dR T) (aU:T.fresh<=1000000000) (y:jQ w a n ids) (al:0<n->∀x,a=some x->x.block<w.heap.size/\¬gR p w x.block) (H:n<1099511627776) :
  Calls prog 21 #[.pointer (some ⟨p,0,none⟩),.slice a n c] w fun e w'=>aC6 w0 p X T (mJ T ids) w e w':=by
 have C:Below w.heap.size w ((w.alloc (.cells #[.pointer (some ⟨p,0,none⟩)] 26)).alloc (.cells #[.slice none 0 0] 23)):=cV w _ _;have N:=fI w (.cells #[.pointer (some ⟨p,0,none⟩)] 26) (.cells #[.slice none 0 0] 23);have r:=eV w (.cells #[.pointer (some ⟨p,0,none⟩)] 26) (.cells #[.slice none 0 0] 23);generalize a6:(w.alloc (.cells #[.pointer (some ⟨p,0,none⟩)] 26)).alloc (.cells #[.slice none 0 0] 23)=i at *;have aj:∀k,dX w.heap.size (w.heap.size+1) [] i k↔k=w.heap.size\/k=w.heap.size+1:=fun k=>(dX.iff r k).trans (by simp [Value.ownBlock])
 have af:w.heap.size+1<i.heap.size:=(bH r).1;have V:Cx w0 p (sQ w0 p w.heap.size (w.heap.size+1)) (dX w.heap.size (w.heap.size+1)) X T [] i:=by
  refine⟨?_,h.b.trans (C.mono h.b.size),⟨⟨h.b.size,Nat.le_succ_of_le h.b.size,by omega⟩,N,_,r,aW.nil _ _ _ _⟩⟩;have:=(h.more (Y:=fun k=>(k=w.heap.size\/k=w.heap.size+1)\/X k) C (fun k d=>by
   rcases d with (rfl | rfl) | d
   ·exact .inr ⟨aA,by omega⟩
   ·exact .inr ⟨by omega,af⟩
   ·exact .inl d)).t
  have e:(fun k=>dX w.heap.size (w.heap.size+1) [] i k\/X k)=(fun k=>(k=w.heap.size\/k=w.heap.size+1)\/X k):=funext fun k=>propext (or_congr (aj k) Iff.rfl)
  rw [e];exact this
 have ae:=aQj w0.heap.size p _ a n c ids i V.t (y.below C aA) H;rw [show vF { T with X:=fun k=>dX w.heap.size (w.heap.size+1) [] i k\/X k } ids=vF T ids from rfl] at ae;have L:=Z ae;have G:=@Z (mJ T ids=if vF T ids then
  if (lS jL T [] ids).1.2=0 then(((lS jL T [] ids).1.1,(lS jL T [] ids).2.2,0),(lS jL T [] ids).2.1)
  else(([],[],(lS jL T [] ids).1.2),(lS jL T [] ids).2.1)
  else(([],[],1),T)) rfl
 have aq:=Z (aVp aa p w.heap.size (w.heap.size+1));have aS:=Z V;have bf:=Z (dA.of_below h.t.plt C);have a0:=Z C;have a5:=Z r;have bb:=Z N;have a2:=Z ai;have aT:=Z aa;have bc:=Z y;have A:=Z h;have aX:=Z al;have qt:i.cell? ⟨w.heap.size,0,none⟩=some (.pointer (some ⟨p,0,none⟩)):=E N 0;have aD:i.cell? ⟨w.heap.size+1,0,none⟩=some (.slice none 0 0):=E r 0;have ax:i.frozen? ⟨w.heap.size+1,0,none⟩=false:=aQ r 0;cases ad:vF T ids
 case false=>
  rw [ad] at L G;have O:=@Z (mJ T ids=(([],[],1),T)) G.o;clear ae ad G C N r V ai aa y h aj al;go_enter func21,ntmps21
  go_wp2_with fail
  refine L.o.mono ?_;rintro e w3 ⟨rfl,g⟩;have D:=(g.block _ af).trans a5.o;have a9:w3.cell? ⟨w.heap.size+1,0,none⟩=some (.slice none 0 0):=E D 0;have aR:w3.frozen? ⟨w.heap.size+1,0,none⟩=false:=aQ D 0;have f:=Z (aG a0 g);have bd:=Z D;clear D g qt aD ax a6;go_wp2;refine bodyPost_ret (v:=.tuple #[.slice none 0 0,.slice none 0 0,.int .i64 1]) (by simp [results,results21,go_sem, *]) rfl ?_;rw [O.o];have K:Below w.heap.size w (w3.setCell ⟨w.heap.size+1,0,none⟩ (.slice none 0 0)):=f.o.setCell (tL _) _;exact⟨none,0,none,0,rfl,aW.nil _ _ _ _,aW.nil _ _ _ _,fun x y=>(by simp at y),A.o.all K,dA.of_below A.o.t.plt K,(kW.refl a2.o).mono (by decide)⟩
 case true=>
  rw [ad] at L G;have ak:=@Z (mJ T ids=if (lS jL T [] ids).1.2=0 then(((lS jL T [] ids).1.1,(lS jL T [] ids).2.2,0),(lS jL T [] ids).2.1) else(([],[],(lS jL T [] ids).1.2),(lS jL T [] ids).2.1)) G.o;clear ae ad G C N r V ai aa y h aj al;go_enter func21,ntmps21
  go_wp2_with fail
  refine L.o.mono ?_;rintro e w3 ⟨rfl,g⟩;have D:=Z ((g.block _ af).trans a5.o);have bi:w3.cell? ⟨w.heap.size,0,none⟩=some (.pointer (some ⟨p,0,none⟩)):=E ((g.block _ (by omega)).trans bb.o) 0;have f:=Z (aG a0 g);have aI:=Z (aS.o.all aq.o g);have ba:=Z (show w.heap.size+1<w3.heap.size from bG af g.size);have a1:=Z (show ∀k,dX w.heap.size (w.heap.size+1) [] w3 k↔k=w.heap.size\/k=w.heap.size+1 from fun k=>(dX.iff D.o k).trans (by simp [Value.ownBlock]));have an:=aTd aq.o aT.o X T [] a n c ids w3 aI.o.1 a2.o aU (by decide) (bc.o.below f.o aA) (fun H x e=>by
   obtain ⟨aN,aP⟩:=aX.o H x e;refine⟨bG aN f.o.size,fun o=>aP ((gR.same (f.o.block p A.o.t.plt)).1 o),fun o=>?_⟩;rcases (a1.o _).1 o with o | o <;> omega) H
  unfold aKs at an;have ao:=Z an;clear an g qt aD ax a6 L;generalize lS jL T [] ids=M at *;obtain ⟨⟨l,er⟩,Q,I⟩:=M;dsimp only at ak ao
  go_wp2_with fail
  refine ao.o.mono ?_;rintro e w4 ⟨ah,c1,rfl,a8,a7,c4,J,ay,z4⟩;obtain ⟨v,ag,am⟩:=c4.j.m;obtain ⟨U,c2,rfl,bg,bh⟩:=am.slice;have a9:w4.cell? ⟨w.heap.size+1,0,none⟩=some (.slice U I.length c2):=E ag 0;have aR:w4.frozen? ⟨w.heap.size+1,0,none⟩=false:=aQ ag 0;have aw:=Z ag;have a3:St w0 p { Q with X:=fun k=>dX w.heap.size (w.heap.size+1) I w4 k\/X k } w4:=⟨c4.t,c4.b⟩;have P:=Z a3;have av:=Z (show dA p w w4 from⟨J.os.trans f.o.os,J.tape.trans f.o.tape,J.output.trans f.o.output,aH f.o.size J.size,fun k d aY=>by
   have az:=(dA.of_below A.o.t.plt f.o).block k d aY;obtain ⟨aL,aM,_⟩:=J.block k (bG d f.o.size) az.2 (fun o=>by rcases (a1.o _).1 o with o | o <;> omega);exact⟨aL.trans az.1,aM⟩⟩)
  have ar:=Z (a8.lower (base':=w.heap.size) (by have:=ba.o;omega));have au:=Z (am.lower (base':=w.heap.size) (tL _));have aK:=Z a7;have ap:=Z ay;have aZ:=A.o.t.plt;clear a8 a7 c4 J ay z4 ag am a3 aZ ao;by_cases a4:er=0
  case neg=>
   have O:=@Z (mJ T ids=(([],[],er),Q)) (by rw [ak.o,if_neg a4]);go_wp2;refine bodyPost_ret (v:=.tuple #[.slice none 0 0,.slice none 0 0,.int .i64 er]) (by simp [results,results21,go_sem, *]) rfl ?_;rw [O.o];have K:Below (w.heap.size+1) w4 (w4.setCell ⟨w.heap.size+1,0,none⟩ (.slice none 0 0)):=(aO (w.heap.size+1) w4).setCell (p:=⟨w.heap.size+1,0,none⟩) (Nat.le_refl (w.heap.size+1)) _;refine⟨none,0,none,0,rfl,aW.nil _ _ _ _,aW.nil _ _ _ _,fun x y=>(by simp at y),?_,av.o.thenBelow K (tL _) A.o.t.plt,ap.o⟩;refine P.o.excl (X':=X) (K.mono (Nat.le_succ_of_le A.o.b.size)) (fun k d H=>dZ _ _ _ _ (fun e=>H (.inl ((dX.iff aw.o k).2 (.inr (.inl e)))))) (fun k d=>?_);obtain ⟨q,u1,u2,m,aV⟩:=P.o.t;exact⟨.inl (.inr d),by rw [eX];exact(aV.xlt k (.inr d)).1⟩
  case pos=>
   subst a4;have O:=@Z (mJ T ids=((l,I,0),Q)) (by rw [ak.o,if_pos rfl]);have aJ:=Z (show ∀W,Below w4.heap.size w4 W->aC6 w0 p X T ((l,I,0),Q) w (.returned (.tuple #[.slice ah l.length c1,.slice U I.length c2,.int .i64 0])) W from fun W ab=>
    ⟨ah,c1,U,c2,rfl,ar.o.same (fun k d=>ab.block k (ar.o.lt k d).2),au.o.same (fun k d=>ab.block k (au.o.lt k d).2),aK.o,(P.o.fewer (fun k d=>.inr d)).all ab,av.o.trans (dA.of_below P.o.t.plt ab),ap.o⟩)
   go_wp2;refine bF (S:=fun W=>Below w4.heap.size w4 W) 3 (by kernel_rfl) (by kernel_rfl) (aF w4) (fun be=>?_);refine aE 0 ?_;refine dF 1 (fun W h=>aB h a9) ?_;refine aE 2 ?_;refine cF (by decide +kernel) ?_;simp only [dL,cW];go_wp2;refine bodyPost_ret (v:=.tuple #[.slice ah l.length c1,.slice U I.length c2,.int .i64 0]) (by simp [results,results21,go_sem, *]) rfl ?_;rw [O.o];exact aJ.o _ (aQw aw.o)
def oO (T:aC) (op a b:Int):(Int × Int) × aC:=
 if op=9 then(if (uA T 8 a b).1.2=0 then mk1 (uA T 8 a b).2 3 (uA T 8 a b).1.1 else((0,(uA T 8 a b).1.2),(uA T 8 a b).2)) else uA T op a b
def kU (T:aC) (op a:Int):List Int->List Int->(List Int × Int) × aC
 | [],out=>((out,0),T)
 | b :: l,out=>if (oO T op a b).1.2=0 then kU (oO T op a b).2 op a l (out ++ [(oO T op a b).1.1]) else(([],(oO T op a b).1.2),(oO T op a b).2)
def pE (T:aC) (op:Int):List Int->List Int->(List Int × Int) × aC
 | [],out=>((out,0),T)
 | a :: l,out=>if (kU T op a (if op=9 then l else l.take 1) out).1.2=0 then pE (kU T op a (if op=9 then l else l.take 1) out).2 op l (kU T op a (if op=9 then l else l.take 1) out).1.1 else kU T op a (if op=9 then l else l.take 1) out
def dD (op:Int):Prop:=op=8\/op=17\/op=18\/op=19\/op=20\/op=9
instance (op:Int):Decidable (dD op):=by unfold dD;infer_instance
def nK (T:aC) (id:Int):(List Int × Int) × aC:=
 if dD (nodeAt T id).op then(if (nodeAt T id).args.length=2/\(nodeAt T id).op≠9 then(([id],0),T) else pE T (nodeAt T id).op (nodeAt T id).args []) else(([id],0),T)
theorem aBg {T:aC} (h:dR T) (op a b:Int):dR (oO T op a b).2/\eI (oO T op a b).1.1:=by
 unfold oO
 split
 ·split
  ·exact⟨aLd (kN h _ _ _) _ _,aTy (kN h _ _ _) _ _⟩
  ·exact⟨kN h _ _ _,aO2⟩
 ·exact⟨kN h _ _ _,aBe h _ _ _⟩
theorem aT1 {w0 w:World} {p:Nat} {T:aC} {X:Nat->Prop} (i:lF w0) (h:St w0 p { T with X:=X } w) (g:dR T) (op a b:Int) (E:eI op) (C:op≠11) (t:eI a) (A:eI b) :
  Calls prog 100 #[.pointer (some ⟨p,0,none⟩),.int .i64 op,.int .i64 a,.int .i64 b] w fun e w'=>e = .returned (.tuple #[.int .i64 (oO T op a b).1.1,.int .i64 (oO T op a b).1.2])/\St w0 p { (oO T op a b).2 with X:=X } w'/\dA p w w':=by
 have f:=@Z (oO T op a b=if op=9 then(if (uA T 8 a b).1.2=0 then mk1 (uA T 8 a b).2 3 (uA T 8 a b).1.1 else((0,(uA T 8 a b).1.2),(uA T 8 a b).2)) else uA T op a b) rfl;have U:=Z i;by_cases D:op=9
 case neg=>
  have L:=@Z (oO T op a b=uA T op a b) (by rw [f.o,if_neg D]);have d:=Z (vH i h g op a b E C t A);have ad:decide (op=9)=false:=aR D;clear f i h g E C t A;generalize uA T op a b=M at *;obtain ⟨⟨x,er⟩,G⟩:=M;dsimp only at d;go_enter func100,ntmps100
  go_wp2_with fail
  refine d.o.mono ?_;rintro H V ⟨rfl,j,m⟩;have q:=Z j;have r:=Z m;clear j m d;go_wp2;go_ret2;exact⟨by rw [L.o];rfl,by rw [L.o];exact q.o,r.o⟩
 case pos=>
  subst D;have d:=Z (vH i h g 8 a b ⟨by decide,by decide⟩ (by decide) t A);have I:=Z (kN g 8 a b);have J:=Z (aBe g 8 a b);rw [if_pos rfl] at f;clear i h g E C t A;generalize uA T 8 a b=M at *;obtain ⟨⟨x,er⟩,G⟩:=M;dsimp only at d I J f;go_enter func100,ntmps100
  go_wp2_with fail
  refine d.o.mono ?_;rintro H V ⟨rfl,j,m⟩;have q:=Z j;have r:=Z m;clear j m d;by_cases K:er=0
  case neg=>
   rw [if_neg K] at f;go_wp2;go_ret2;exact⟨by rw [f.o];rfl,by rw [f.o];exact q.o,r.o⟩
  case pos=>
   subst K;rw [if_pos rfl] at f;have d:=Z (aLe U.o q.o I.o 3 x ⟨by decide,by decide⟩ (by decide) J.o);generalize mk1 G 3 x=M at *;obtain ⟨⟨y,ab⟩,aa⟩:=M;dsimp only at d
   go_wp2_with fail
   refine d.o.mono ?_;rintro H w3 ⟨rfl,N,O⟩;have P:=Z N;have Q:=Z (r.o.trans O);clear N O d;go_wp2;go_ret2;exact⟨by rw [f.o];rfl,by rw [f.o];exact P.o,Q.o⟩
theorem aT2 (w:World) (x:Int):aW (w.alloc (.cells #[.int .i64 x] 3)) w.heap.size 3 1 (.slice (some ⟨w.heap.size,0,none⟩) 1 1) 1 [Value.int .i64 x]:=
 ⟨rfl,.inr ⟨w.heap.size,1,_,rfl,aA,cC w _,aA,by unfold maxLen;decide,aA,rfl⟩⟩
theorem aN1 {op:Int} (h:dD op):eI op/\op≠11:=by unfold dD at h;unfold eI;omega
def qM (op:Int) (args:List Int) (j:Nat):List Int:=if op=9 then args.drop (j+1) else(args.drop (j+1)).take 1
theorem aLf {T:aC} {op:Int} {args out:List Int} {j:Nat} (b:j<args.length):pE T op (args.drop j) out =
  if (kU T op (nth args j) (qM op args j) out).1.2=0 then pE (kU T op (nth args j) (qM op args j) out).2 op (args.drop (j+1)) (kU T op (nth args j) (qM op args j) out).1.1 else kU T op (nth args j) (qM op args j) out:=by
 rw [kY b,cE b];rfl
theorem aGf (op:Int) (args:List Int) (j:Nat):(qM op args j).length=if op=9 then args.length - (j+1) else min 1 (args.length - (j+1)):=by
 unfold qM
 split
 ·rw [kQ]
 ·rw [eS,kQ]
theorem aT3 {op:Int} {args:List Int} {j m:Nat} (h:m<(qM op args j).length):(qM op args j).drop m=nth args (j+1+m) :: (qM op args j).drop (m+1):=by
 rw [kY h]
 congr 1
 have b:=aGf op args j;have:j+1+m<args.length:=by split at b <;> omega
 rw [cE this];unfold qM at h ⊢
 split
 ·rw [tF]
 ·rw [List.getElem_take,tF]
theorem aBh {w0:World} (b5:lF w0) (p:Nat) (X:Nat->Prop) (T:aC) (k:Nat) (w:World) (h:St w0 p { T with X:=X } w) (a4:dR T) (f:k<T.nodes.length) :
  Calls prog 44 #[.pointer (some ⟨p,0,none⟩),.int .i64 k] w fun e w'=>nV w0 p X (nK T k) w e w':=by
 have cq:=Z b5;have cr:=Z a4;have bi:=Z (zY w0.heap.size p { T with X:=X } k w h.t f a4.ok.sn);have bA:=Z (a4.at f).args;have U:=@Z (nK T k=if dD (nodeAt T k).op then(if (nodeAt T k).args.length=2/\(nodeAt T k).op≠9 then(([(k:Int)],0),T) else pE T (nodeAt T k).op (nodeAt T k).args []) else(([(k:Int)],0),T)) rfl;rw [show nodeAt { T with X:=X } (k:Int)=nodeAt T k from rfl] at bi;have c5:=Z (show p<w.heap.size from h.t.plt);have cp:=Z (show w0.heap.size<=w.heap.size from h.b.size);have aZ:=Z h;generalize nodeAt T (k:Int)=x at *;obtain ⟨op,nm,⟨ak,al,ab⟩,args,ao⟩:=x;dsimp only at U bA;clear h a4 b5;go_enter func44,ntmps44
 go_wp2_with fail
 refine bi.o.mono ?_;rintro b4 D ⟨a,c,b,d,g,e,rfl,aP,a1⟩;have bu:=aZ.o.all a1;have a9:Below D.heap.size D (D.alloc (.cells #[.int .i64 op,.string nm,.bool ak,.slice a al.length c,.slice b ab.length d,.slice g args.length e,.int .i64 ao] 38)):=bJ;have b3:=cC D (.cells #[.int .i64 op,.string nm,.bool ak,.slice a al.length c,.slice b ab.length d,.slice g args.length e,.int .i64 ao] 38);have bv:=bu.more (Y:=fun q=>(X q\/q=D.heap.size)\/kI (.slice none 0 0) q) a9 (fun k f=>by
  rcases f with (f | rfl) | f
  ·exact .inl f
  ·exact .inr ⟨aA,by simp⟩
  ·cases f)
 have b0:=(dA.of_below aZ.o.t.plt a1).thenBelow (a9.mono a1.size) aA aZ.o.t.plt;have bx:=(aP.args.mono fun q _ hd=>⟨hd.1,hd.1.lt⟩:bT cH.int (fun q=>dU D q/\q<D.heap.size) D g args.length args).belowZ a9 aA;have bS:=Z (show ∀x∈args,eI x from aP.args.toI.wf);have dt:D.heap.size<(D.alloc (.cells #[.int .i64 op,.string nm,.bool ak,.slice a al.length c,.slice b ab.length d,.slice g args.length e,.int .i64 ao] 38)).heap.size:=by simp
 have ds:w.heap.size<=D.heap.size:=a1.size;have df:args.length<=e/\e<=maxLen:=aP.ac;have av:=Z b3;have aS:=Z bv;have aX:=Z b0;have cd:=Z bx;clear aP a1 bu a9 b3 bv b0 bx bi
 go_upto_region 2 with fail
 generalize c8:D.alloc (.cells #[.int .i64 op,.string nm,.bool ak,.slice a al.length c,.slice b ab.length d,.slice g args.length e,.int .i64 ao] 38)=A at *;generalize c9:D.heap.size=r at *;clear c8 c9;have J:A.cell? ⟨r,0,none⟩=some (.int .i64 op):=E av.o 0;have aQ:A.cell? ⟨r,5,none⟩=some (.slice g args.length e):=E av.o 5;have bL:∀W:World,w.heap.size<=W.heap.size->St w0 p { T with X:=fun q=>(X q\/q=r)\/kI (.slice none 0 0) q } W->dA p w W->nV w0 p X (([(k:Int)],0),T) w (.returned (.tuple #[.slice (some ⟨W.heap.size,0,none⟩) 1 1,.int .i64 0])) (W.alloc (.cells #[.int .i64 k] 3)):=fun W cv aw a6=>by
  have bD:Below W.heap.size W (W.alloc (.cells #[.int .i64 k] 3)):=bJ;exact⟨_,1,rfl,(aT2 W k).lower cv,(aw.fewer (fun k f=>.inl (.inl f))).all bD,a6.trans (dA.of_below aw.t.plt bD)⟩
 have bh:=Z bL;clear bL;by_cases N:dD op
 case neg=>
  have ai:=@Z (nK T k=(([(k:Int)],0),T)) (by rw [U.o,if_neg N]);have bE:=N;unfold dD at bE;have cO:decide (op=8)=false:=by simp;omega
  have cP:decide (op=17)=false:=by simp;omega
  have cQ:decide (op=18)=false:=by simp;omega
  have cR:decide (op=19)=false:=by simp;omega
  have cS:decide (op=20)=false:=by simp;omega
  have cT:decide (op=9)=false:=by simp;omega
  have b4:¬op=8:=by omega
  have cU:¬op=17:=by omega
  have cV:¬op=18:=by omega
  have cX:¬op=19:=by omega
  have cY:¬op=20:=by omega
  have cZ:¬op=9:=by omega
  clear N bE;go_wp2;go_ret2;rw [ai.o];exact bh.o A (by omega) aS.o aX.o
 case pos=>
  have bf:=aN1 N;rw [if_pos N] at U;have be:=N;unfold dD at be;by_cases i:args.length=2/\op≠9
  ·have ai:=@Z (nK T k=(([(k:Int)],0),T)) (by rw [U.o,if_pos i]);have da:=i.1;have bb:(args.length:Int)=2:=by omega
   have cm:=i.2;clear U i N;rcases be with rfl | rfl | rfl | rfl | rfl | rfl
   all_goals
    first
     | exact absurd rfl cm
     | skip
   all_goals
    go_wp2;go_ret2;rw [ai.o];exact bh.o A (by omega) aS.o aX.o
  ·have ai:=@Z (
           nK T k=pE T op args []) (by rw [U.o,if_neg i])
   have bb:op=9\/¬(args.length:Int)=2:=by
    rcases Decidable.em (op=9) with O | O
    ·exact .inl O
    ·exact .inr fun e=>i ⟨by omega,O⟩
   have bP:=Z bf.1;have bN:=Z bf.2;obtain ⟨du,c0,cJ,cK,cL⟩:=info_parts lE;obtain ⟨o,aJ⟩:∃o:Int,op=o:=⟨op,rfl⟩;rw [aJ] at bP bN ai;rw [aJ] at av;have af:=Z aJ.symm;clear U i N bf bh J aJ;rcases be with rfl | rfl | rfl | rfl | rfl | rfl
   all_goals
    cases ba:decide ((args.length:Int)=2)
   all_goals
    first
     | exact absurd (oU ba) (bb.resolve_left (by decide))
     | skip
   all_goals
    first
     | (have co:¬(args.length:Int)=2:=aGy ba;have cn:((args.length:Int) == 2)=false:=by simpa using co)
     | have cn:((args.length:Int) == 2)=true:=by have:=oU ba;simpa using this
   all_goals
    have J:=E av.o 0;simp only [dW,dS] at J;rw [af.o] at J;clear bb;go_wp2
    go_loopw [4,5,8,9,10,11,12,46] (fun a2 bq _ _ _ _ _ bp wr=>∃(j:Nat) (T':aC) (out:List Int),j<=args.length/\bp = .int .i64 j/\bq = .int .i64 0/\Hid (nK T k=pE T' o (args.drop j) out)/\out.length<=64 * j/\Hid (St w0 p { T' with X:=fun q=>(X q\/q=r)\/kI a2 q } wr)/\Hid (dR T')/\A.heap.size<=wr.heap.size/\Hid (aW wr A.heap.size 3 1 a2 out.length (out.map (Value.int .i64)))/\Hid (dA p w wr)/\Hid (bT cH.int (fun q=>dU wr q/\q<r) wr g args.length args)/\Hid (wr.heap[r]? = some (.cells #[.int .i64 o,.string nm,.bool ak,.slice a al.length c,.slice b ab.length d,.slice g args.length e,.int .i64 ao] 38 (0,0)))) (fun _ _ _ _ _ _ _ bp _=>args.length - (intOf bp).toNat)
    case atStart=>exact⟨0,T,[],aN,rfl,rfl,ai.o,aA,aS.o,cr.o,aA,aW.nil _ _ _ _,aX.o,cd.o,av.o⟩
    case round=>
     obtain ⟨j,aY,bn,dk,rfl,rfl,ad,dp,aw,cs,cG,bd,a6,bB,bC⟩:=hrel;obtain ⟨u,rfl⟩:∃u,u=wr:=⟨_,rfl⟩;obtain ⟨ci,ck,rfl,dg,dh⟩:=bd.o.slice;have dd:=bA.o;by_cases aI:j<args.length
     ·obtain ⟨
          aa,am,rfl,dv⟩:=bB.o.toI.at j aI
      have bk:=ad.o;rw [aLf aI] at bk;have aQ:u.cell? ⟨r,5,none⟩=some (.slice (some ⟨aa,am,none⟩) args.length e):=E bC.o 5;have aL:=aGf o args j;have bR:(qM o args j).length+j<args.length+64/\(qM o args j).length<=args.length:=by split at aL <;> omega
      have dl:(j:Int)<args.length:=by omega
      have c3:=Z (bS.o _ (cB aI));have cz:=Z (show ∀m,j+1+m<args.length->(o=9\/m=0)->m<(qM o args j).length from fun m L i=>by split at aL <;> omega);have bG:=Z (show ∀m,(¬j+1+m<args.length\/(o≠9/\1<=m))->(qM o args j).length<=m from fun m L=>by split at aL <;> omega);have cw:=Z (fun(m:Nat)=>@aT3 o args j m);clear ad aL;have ad:=Z bk;clear bk;generalize qM o args j=V at *;have de:=Z (cB aI);have dc:=bR.2;clear bR;generalize nth args j=x at *;go_wp2
      go_loopw [4,5,10,11,12] (fun a2 bq bo _ _ wr=>∃(q m:Nat) (T':aC) (out:List Int),m<=V.length/\bo = .int .i64 (q:Int)/\Hid (q=j+1+m)/\bq = .int .i64 0/\Hid (kU aY o x V bn=kU T' o x (V.drop m) out)/\out.length<=64 * j+m/\Hid (St w0 p { T' with X:=fun q=>(X q\/q=r)\/kI a2 q } wr)/\Hid (dR T')/\A.heap.size<=wr.heap.size/\Hid (aW wr A.heap.size 3 1 a2 out.length (out.map (Value.int .i64)))/\Hid (dA p w wr)/\Hid (bT cH.int (fun q=>dU wr q/\q<r) wr (some ⟨aa,am,none⟩) args.length args)/\Hid (wr.heap[r]? = some (.cells #[.int .i64 o,.string nm,.bool ak,.slice a al.length c,.slice b ab.length d,.slice (some ⟨aa,am,none⟩) args.length e,.int .i64 ao] 38 (0,0)))) (fun _ _ bo _ _ _=>args.length+1 - (intOf bo).toNat)
      case atStart=>exact⟨j+1,0,aY,bn,aN,by go_num,rfl,rfl,rfl,by omega,aw.o,cs.o,cG,bd.o,a6.o,bB.o,bC.o⟩
      case round=>
       obtain ⟨q,m,ar,H,dn,rfl,ag,rfl,bc,dq,ax,a5,bl,ay,a7,az,P⟩:=hrel;obtain ⟨ch,cj,rfl,di,dj⟩:=ay.o.slice;have J:=E P.o 0;simp only [dW,dS] at J;rw [af.o] at J;have aQ:wr.cell? ⟨r,5,none⟩=some (.slice (some ⟨aa,am,none⟩) args.length e):=E P.o 5;by_cases bI:m<V.length
       ·have ah:q<args.length:=by
         have L:=ag.o;rcases nZ q args.length with h | h
         ·exact h
         ·have:=bG.o m (.inl (by omega));omega
        have c6:(q:Int)<args.length:=by omega
        have aG:o=9\/¬(j:Int)+1<q:=by
         have L:=ag.o;rcases Decidable.em (o=9) with h | h
         ·exact .inl h
         ·right
          intro i;have:=bG.o m (.inr ⟨h,by omega⟩);omega
        have aD:=Z aG;clear aG
        first
         | have aG:¬(j:Int)+1<q:=aD.o.resolve_left (by rw [af.o];decide)
         | skip
        obtain ⟨b2,cN,Q,aj⟩:=az.o.toI.at q ah;injection Q with Q
        injection Q with L i h4
        subst L i;have G:=@rfl _ (kU ar o x (V.drop m) H)
        conv at G=>rhs;rw [cw.o m bI,<-ag.o];unfold kU
        have bO:=Z (bS.o _ (cB ah));have cE:=@rfl _ (nth args q);generalize bU:nth args q=y at bO aj G;have cD:=Z bU;clear cE bU;have ap:=Z (ax.o.all (aF wr));have bz:=Z (az.o.belowZ (aF wr) (by omega));have bw:=Z (ay.o.same (w':=wr.drew) fun _ _=>rfl);have b1:=Z (a7.o.trans (dA.of_below ax.o.t.plt (aF wr)));have aK:=aT1 cq.o ap.o a5.o o x y bP.o bN.o c3.o bO.o;have b6:=Z (aBg a5.o o x y).1;generalize oO ar o x y=M at *;obtain ⟨⟨K,cl⟩,cf⟩:=M;dsimp only at aK b6 G;rw [af.o] at aK;have bQ:=Z aK;have b8:=Z G;have dr:r<wr.heap.size:=(bH P.o).1;clear aK G ah;go_wp2;have cu:=Z (And.intro J (And.intro aQ aj));clear J aQ aj;refine bF (S:=fun W=>W.cell? ⟨r,0,none⟩=_/\W.cell? ⟨r,5,none⟩=_/\W.cell? ⟨aa,am+q,none⟩=some (.int .i64 y)) 14 (by kernel_rfl) (by kernel_rfl) cu.o (fun db=>?_);refine aE 0 ?_;refine aE 1 ?_;refine aE 2 (hy:=(Or.inl ⟨by rfl,by(intro W a0;have ah:=a0.1;go_simp <;> with_reducible rfl)⟩)) ?_;refine aE 3 ?_;refine aE 4 ?_;refine aE 5 (hy:=(Or.inl ⟨by rfl,by(intro W a0;have ah:=a0.2.1;go_simp <;> with_reducible rfl)⟩)) ?_;refine aE 6 ?_;refine aE 7 ?_;refine aE 8 (hy:=(Or.inl ⟨by rfl,by(intro W a0;have ah:=a0.2.2;go_simp <;> with_reducible rfl)⟩)) ?_;refine aV 9 fun bY b9=>?_;go_simp
        go_at_call 100
        refine bQ.o.mono ?_;rintro b4 I ⟨rfl,bW,an⟩;have aR:=Z bW;have au:=Z ((ap.o.own (.inl (.inr rfl)) an).trans P.o);have aT:=Z (bz.o.tstepZ ap.o.t an);have aq:=Z (bw.o.same fun k f=>ap.o.own (.inr f) an);have aU:=Z (b1.o.trans an);have bV:A.heap.size<=I.heap.size:=aH bl an.size;clear bW an bQ ap bz bw b1 ax az ay a7 P;have bZ:=Z (show I.cell? ⟨aa,am+q,none⟩=some (.int .i64 y) from by
         obtain ⟨b2,cN,Q,aj⟩:=aT.o.toI.at q (by omega);injection Q with Q
         injection Q with L i h4
         subst L i;rw [cD.o] at aj;exact aj)
        dsimp only;refine b9.out _ _ (by(exact⟨by have O:=E au.o 0;simp only [dW,dS] at O;rw [af.o] at O;exact O,E au.o 5,bZ.o⟩)) (fun hHeld2=>?_);clear b9 bY;(try simp only [Act.put,sA,sB,sC]);refine aE 10 ?_;refine aE 11 ?_;refine aE 12 ?_;refine aE 13 ?_;refine cF (by decide +kernel) ?_;simp only [dL,cW];by_cases bg:cl=0
        case neg=>
         have G:=b8.o;rw [if_neg bg] at G;have C:=ad.o;rw [bc.o.trans G,if_neg bg] at C;have ae:=Z C;clear C;go_wp2;go_ret2;rw [ae.o];exact⟨none,0,rfl,aW.nil _ _ _ _,aR.o.fewer (fun k f=>.inl (.inl f)),aU.o⟩
        case pos=>
         subst bg;have G:=b8.o;rw [if_pos rfl] at G;have ct:=Z G;have cA:r<I.heap.size:=(bH au.o).1;clear G;have c7:=Z (Src.one (w:=I.alloc (.cells #[.int .i64 K] 3)) (size:=1) (b:=I.heap.size) (news:=[.int .i64 K]) rfl (fun j u aM=>by rw [kO];simpa using aM));have c4:=Z (show ∀u ∈ [Value.int .i64 K],u.oneCell'=true from fun u aM=>by simp at aM;subst aM;rfl);have cx:=Z (show A.heap.size<=(I.alloc (.cells #[.int .i64 K] 3)).heap.size by simp;omega);have c2:=Z (aq.o.alloc (.cells #[.int .i64 K] 3));have c1:=Z (show H.length+1<=maxLen by unfold maxLen;omega);have cy:=Z (show(H.length+1) * 8<=140737488355328 by omega)
         go_wp2_with (at_builtin;refine cI rfl (.tmp 85) (.tmp 87) rfl underlying23 c0 cJ cK cL rfl (by decide) rfl rfl c2.o c7.o c4.o c1.o cy.o cx.o ?_)
         intro v' br bj aB bK;have a8:Below I.heap.size I (I.alloc (.cells #[.int .i64 K] 3)):=bJ;have bs:=aR.o.all a8;have bX:=Z (bs.push aB (fun k f=>by have:=(aq.o.lt k f).1;have:=cp.o;omega) (bK.imp (fun h=>h) fun h k f=>by rw [iD];exact h k f) (fun k f=>(bj.lt k f).2));have bM:∀q,q<A.heap.size->(Value.slice ch H.length cj).ownBlock≠some q:=fun q ag e=>by have:=(aq.o.lt q e).1;omega
         have cg:=Z ((aB.block r (by simp;omega) (fun e=>bM _ (by omega) e.symm)).trans ((a8.block _ cA).trans au.o));have a3:Below A.heap.size I br:=(a8.mono bV).trans ((aO _ _).grown aB (by simp;omega) (fun k f=>(aq.o.lt k f).1));have cc:=Z (aT.o.belowZ a3 (by omega));have ce:=Z (aU.o.thenBelow a3 (by omega) c5.o);have ca:=Z (show aW br A.heap.size 3 1 v' (H ++ [K]).length ((H ++ [K]).map (Value.int .i64)) from by rw [dM,kZ,mL];exact bj);have cM:A.heap.size<=br.heap.size:=aH bV a3.size;clear a8 bs bM a3 bj aB bK aR au aT aq aU;go_wp2
         go_roundw
         case rel=>exact⟨q+1,m+1,cf,H ++ [K],by omega,by go_num,(by have:=ag.o;show q+1=j+1+(m+1);omega),rfl,bc.o.trans ct.o,by simp;omega,bX.o,b6.o,cM,ca.o,ce.o,cc.o,cg.o⟩
         case measure=>simp [intOf];omega
       ·have b7:kU aY o x V bn=((H,0),ar):=by rw [bc.o,pU (by omega)];rfl
        have C:=ad.o;rw [b7,if_pos rfl] at C;dsimp only at C;have ae:=Z C;clear b7 C;by_cases c6:(q:Int)<args.length
        ·have aD:=Z (show o≠9/\(j:Int)+1<q from by
          have L:=ag.o;have i:¬(o=9\/m=0):=fun h=>bI (cz.o m (by omega) h)
          exact⟨fun h=>i (.inl h),by have:m≠0:=fun h=>i (.inr h);omega⟩)
         first
          | exact absurd af.o aD.o.1
          | (
           have aG:(j:Int)+1<q:=aD.o.2;go_wp2
           go_roundw
           case rel=>exact⟨j+1,ar,H,by omega,by go_num,rfl,ae.o,by omega,ax.o,a5.o,bl,ay.o,a7.o,az.o,P.o⟩
           case measure=>simp [intOf];omega)
        ·go_wp2
         go_roundw
         case rel=>exact⟨j+1,ar,H,by omega,by go_num,rfl,ae.o,by omega,ax.o,a5.o,bl,ay.o,a7.o,az.o,P.o⟩
         case measure=>simp [intOf];omega
     ·obtain rfl:j=args.length:=by omega
      have C:=ad.o;rw [tG] at C;unfold pE at C;have ae:=Z C;have cb:=Z (bd.o.lower (base':=w.heap.size) (by omega));clear C;go_wp2;go_ret2;rw [ae.o];exact⟨ci,ck,rfl,cb.o,aw.o.fewer (fun k f=>.inl (.inl f)),a6.o⟩
theorem qN (w:World):Calls prog 65 #[] w fun e w'=>aS0 w e w':=by
 go_enter func65,ntmps65
 go_wp2;go_ret;have D:=jQ.lit [1] 3 w (by simp);generalize d:w.alloc (.cells #[.int .i64 1] 3)=w1 at *;have E:jQ w1 (some ⟨w.heap.size,0,none⟩) 1 [1]:=by rw [<-d];exact D
 have A:w1.heap.size=w.heap.size+1:=by rw [<-d];simp
 have j:Below w.heap.size w w1:=by rw [<-d];exact bJ
 have G:=jQ.lit [2,1] 3 w1 (by simp);generalize f:w1.alloc (.cells #[.int .i64 2,.int .i64 1] 3)=b at *;have H:jQ b (some ⟨w.heap.size+1,0,none⟩) 2 [2,1]:=by rw [<-f,<-A];exact G
 have K:b.heap.size=w.heap.size+1+1:=by rw [<-f];simp [A]
 have b2:Below w1.heap.size w1 b:=by rw [<-f];exact bJ
 have I:=jQ.lit [2] 3 b (by simp);generalize g:b.alloc (.cells #[.int .i64 2] 3)=w3 at *;have J:jQ w3 (some ⟨w.heap.size+2,0,none⟩) 1 [2]:=by rw [<-g,show w.heap.size+2=b.heap.size by omega];exact I
 have C:w3.heap.size=w.heap.size+1+1+1:=by rw [<-g];simp [K]
 have q:Below b.heap.size b w3:=by rw [<-g];exact bJ
 have t:Below w3.heap.size w3 (w3.alloc (.cells (aOt w.heap.size).flatten.toArray 114)):=bJ;have y:=cC w3 (.cells (aOt w.heap.size).flatten.toArray 114);rw [C] at y;have r:=q.trans (t.mono q.size);have m:=b2.trans (r.mono b2.size);have i:∀(k o:Nat) (n:Nat) (x:Addr),0<n->some (⟨w.heap.size+k,o,none⟩:Addr)=some x->w.heap.size<=x.block:=fun k o n x _ e=>by injection e with e;rw [<-e];exact yX _ _
 refine⟨rfl,bT.ofCss (css:=aOt w.heap.size) y (by show w.heap.size<=_;omega) rfl (aVb (bT.ofI (E.below m aA) (fun x h e=>i 0 0 1 x h e)) (bT.ofI (H.below r aA) (fun x h e=>i 1 0 2 x h e)) (bT.ofI (J.below t aA) (fun x h e=>i 2 0 1 x h e))),?_,?_⟩
 ·exact j.trans (m.mono j.size)
 ·show(w3.heap.push _).size=_;rw [Array.size_push,C]
theorem aIj (w:World) (Q:Env w):Calls prog 15 #[] w fun e w'=>aS1 w e w':=by
 have bc:=Z Q;have N:=Q.pos;have aC:=Z (aIr w);clear Q;go_enter func15,ntmps15
 go_wp2_with fail
 refine aC.o.mono ?_;rintro e w1 ⟨p,rfl,O,y⟩;have J:=Z (show Duo w p w1.heap.size ⟨[],[],[]⟩ (w1.alloc (.cells #[.slice none 0 0,.slice none 0 0,.slice none 0 0] 107)) from by
  have L:Below w1.heap.size w1 (w1.alloc (.cells #[.slice none 0 0,.slice none 0 0,.slice none 0 0] 107)):=bJ;have a3:=cC w1 (.cells #[.slice none 0 0,.slice none 0 0,.slice none 0 0] 107);refine⟨O.all L,⟨y.size,fun _ h=>h.elim,_,_,_,a3,cA.nil _ _ _ _ _,cA.nil _ _ _ _ _,cA.nil _ _ _ _ _⟩,fun j aa=>?_,y.trans (L.mono y.size),bc.o.all (y.trans (L.mono y.size))⟩;have bg:j=w1.heap.size:=by
   rcases (qB a3).1 aa with h | h | h | h
   ·exact h
   ·simp [Value.ownBlock] at h
   ·simp [Value.ownBlock] at h
   ·simp [Value.ownBlock] at h
  subst bg;refine⟨by simp,fun e=>?_⟩;have:=(O.ownB ((eQ.same (L.block p O.plt)).1 e)).2;omega)
 clear O y aC
 go_wp2_with fail
 generalize (w1.alloc (.cells #[.slice none 0 0,.slice none 0 0,.slice none 0 0] 107))=bs at *;generalize w1.heap.size=q at *;have aB:=Z (aIs w.heap.size p ⟨[],[],[]⟩ sU bs J.o.t J.o.e (by decide));refine aB.o.mono ?_;rintro e w3 ax;obtain ⟨rfl,aL,aJ⟩:=ax.yes aVa;obtain ⟨ab,an,aq,av⟩:=J.o.step N aJ;have C:=Z (And.intro aL (And.intro an (And.intro aq av)));have al:=Z ab;have aA:=Z (aF7 w.heap.size q ⟨[],[],[]⟩ sU w3 ab (by decide));clear ax aL aJ ab an aq av aB
 go_wp2_with fail
 refine aA.o.mono ?_;rintro e w4 A;have bb:e = .returned (.tuple #[.int .i64 2,.int .i64 0])/\kC (fun _=>False) w.heap.size q (T7 0) w4/\iI q w3 w4:=by
  unfold pS at A;rw [if_neg (by rw [aVa];decide)] at A;exact⟨A.1.1,A.1.2,A.2⟩
 obtain ⟨rfl,aH,aK⟩:=bb;have m:=Z (Duo.step2 (T':=T7 0) N C.o.1 al.o C.o.2.1 C.o.2.2.1 C.o.2.2.2 aH aK);have a4:=Z (qN w4);clear A aH aK C al aA
 go_wp2_with fail
 refine a4.o.mono ?_;rintro e I ⟨rfl,a7,K,z5⟩;have aQ:=Z (m.o.all K);have aN:=Z (show wZ (fun k=>w4.heap.size<=k/\k<I.heap.size) p q I from fun k M=>⟨M.2,fun e=>by
  have:=(m.o.t.ownB ((eQ.same (K.block p m.o.t.plt)).1 e)).2;omega,fun e=>by
  have:=(m.o.r.ownB ((eQ.same (K.block q m.o.r.plt)).1 e)).2;omega⟩)
 have aS:=Z (show bT oZ (fun k=>w4.heap.size<=k/\k<I.heap.size) I (some ⟨w4.heap.size+3,0,none⟩) 10 eC from a7.mono fun b D M=>⟨M,D⟩);clear a7 K z5 a4 J m;go_wp2;generalize w4.heap.size+3=g at *;generalize be:(fun k=>w4.heap.size<=k/\k<I.heap.size)=am at *;clear be
 go_loopw [5] (fun i wr=>∃k:Nat,k<=10/\i = .int .i64 k/\Hid (Duo w p q (T7 k) wr)/\Hid (wZ am p q wr)/\Hid (bT oZ am wr (some ⟨g,0,none⟩) 10 eC)) (fun i _=>10 - (intOf i).toNat)
 case atStart=>exact⟨0,by omega,rfl,aQ.o,aN.o,aS.o⟩
 case round=>
  obtain ⟨k,M,rfl,d,bd,az⟩:=hrel;by_cases bi:k<10
  ·have E:eC[k]? = some (eC[k]'(by show k<10;omega)):=cK _;generalize (eC[k]'(by show k<10;omega))=f at *;obtain ⟨b,o,aX,aZ,V,aD,aE,aF,aI,or,b0,_⟩:=az.o.funAt E;cases V;simp only [dT] at aD aE aF;have bx:f.args.length<=2:=by
    have:f∈eC:=fP E;simp [eC] at this;rcases this with rfl | rfl | rfl | rfl | rfl | rfl | rfl | rfl | rfl | rfl <;> decide
   obtain ⟨a5,a1⟩:=aXs bi f E;have bz:(k:Int)<10:=by omega
   have a6:=Z (aOb w.heap.size p (T7 k) f aX aZ wr d.o.t (aD3 k) d.o.e aI.toI (by omega));have a2:=Z a1;have bw:=Z a5;have bf:=Z E;clear E a5 a1 or
   go_wp2_with fail
   refine a6.o.mono ?_;rintro e bu ⟨rfl,af,G⟩;rw [a2.o] at af;obtain ⟨ad,ao,ar,aw⟩:=d.o.step N G;have a9:=(G.block q (d.o.ap q (.inl rfl)).1 (d.o.ap q (.inl rfl)).2).1;obtain ⟨ah,aj⟩:=bd.o.stepP G a9;have P:=az.o.keep (fun b _ D=>aj b D) G.size;obtain ⟨bv,b1,aY,ba,V,bo,bp,bq,br,_,bn,_⟩:=P.funAt bf.o;cases V;simp only [dT] at bo bp bq;have x:=Z (And.intro af (And.intro ao (And.intro ar aw)));have aV:=Z ad;have aO:=Z ah;have aT:=Z P;have bk:=Z (aKb w.heap.size q (T7 k) f aY ba bu ad (aD3 k) br.toI (by omega) bn);clear af G ad ao ar aw a9 ah aj P a6 aD aE aF aI
   go_wp2_with fail
   refine bk.o.mono ?_;rintro e b2 ⟨rfl,ae,H⟩;rw [a2.o] at ae;have aR:=Z (Duo.step2 (T':=T7 (k+1)) N x.o.1 aV.o x.o.2.1 x.o.2.2.1 x.o.2.2.2 ae H);have U:=x.o.2.1.symm fun j aa=>(x.o.1.ownB aa).2
   have a8:=(H.block p (U p (.inl rfl)).1 (U p (.inl rfl)).2).1;obtain ⟨ai,ak⟩:=aO.o.stepQ H a8;have aP:=Z ai;have aU:=Z (aT.o.keep (fun b _ D=>ak b D) H.size);clear ae H U a8 ai ak;go_wp2
   go_roundw
   case rel=>exact⟨k+1,by omega,by go_num,aR.o,aP.o,aU.o⟩
   case measure=>simp [intOf];omega
  ·have bh:k=10:=by omega
   subst bh;have bj:=Z (aOp w.heap.size p (T7 10) wr d.o.t)
   go_wp2_with fail
   refine bj.o.mono ?_;rintro e ag ⟨rfl,a0,au⟩;have aW:=Z a0;have aM:=Z (d.o.b.trans (au.mono d.o.b.size));have bl:=d.o.b.size;clear a0 au;go_wp2;go_ret2;have ay:Below ag.heap.size ag (ag.alloc (.cells #[.pointer (some ⟨q,0,none⟩),.slice none 0 0,.int .i64 0] 51)):=bJ;exact⟨_,_,rfl,(aW.o.lower bl).all ay,aG aM ay⟩
def nP:aZ:=⟨12,sp,eA,[],0⟩
def nY:aZ:=⟨12,sy,eA,[],1⟩
def P1:aC:=addN A0 nP
def P2:aC:=addN P1 nX
def P3:aC:=addN P2 nY
theorem aW5:aD A0 12 sp []=(0,true):=by
 show iA A0 sp []=_;rw [yD]
 decide +kernel
theorem aVq:aD P1 12 sx []=(1,true):=by
 show iA P1 sx []=_;rw [yD]
 decide +kernel
theorem aVr:aD P2 12 sy []=(1,true):=by
 show iA P2 sy []=_;rw [yD]
 decide +kernel
theorem aXz:bQ A0 12 sp eA []=((0,0),P1):=(aD4 (by decide +kernel) (by decide +kernel) rfl aW5).trans (iX rfl (by decide))
theorem aWd:bQ P1 12 sx eA []=((1,0),P2):=(aD4 (by decide +kernel) (by decide +kernel) rfl aVq).trans (iX (by decide +kernel) (by decide +kernel))
theorem aWe:bQ P2 12 sy eA []=((2,0),P3):=(aD4 (by decide +kernel) (by decide +kernel) rfl aVr).trans (iX (by decide +kernel) (by decide +kernel))
abbrev NoX:Nat->Prop:=fun _=>False
theorem yJ {op a:Int}:∀(l:List Int) {T:aC} (_:dR T) (out:List Int),dR (kU T op a l out).2
 | [],_,h,_=>h
 |
  b :: l,T,h,out=>by
  unfold kU
  split
  ·exact yJ l (aBg h op a b).1 _
  ·exact(aBg h op a b).1
theorem aEt {op:Int}:∀(l:List Int) {T:aC} (_:dR T) (out:List Int),dR (pE T op l out).2
 | [],_,h,_=>h
 |
  a :: l,T,h,out=>by
  unfold pE;generalize (if op=9 then l else l.take 1)=m
  split
  ·exact aEt l (yJ _ h _) _
  ·exact yJ _ h _
theorem aEu {T:aC} (h:dR T) (id:Int):dR (nK T id).2:=by
 unfold nK
 split
 ·split
  ·exact h
  ·exact aEt _ h _
 ·exact h
theorem aEv {w0 w:World} {p:Nat} {T:aC} {X:Nat->Prop} (d:lF w0) (h:St w0 p { T with X:=X } w) (f:dR T) (nm:ByteArray) (g:nm.size<=1000000) :
  Calls prog 33 #[.pointer (some ⟨p,0,none⟩),.int .i64 12,.string nm,.agg #[.bool false,.slice none 0 0,.slice none 0 0],.slice none 0 0] w fun e w'=>
   e = .returned (.tuple #[.int .i64 (bQ T 12 nm eA []).1.1,.int .i64 (bQ T 12 nm eA []).1.2])/\St w0 p { (bQ T 12 nm eA []).2 with X:=X } w'/\dA p w w':=by
 have b:=sH w0.heap.size p { T with X:=X } 12 nm eA [] none none none 0 0 0 w h.t (f.ok.sm.X X) (h.env d) (aSq w nm g);unfold cZ at b;rw [wI] at b;refine b.mono ?_;rintro e w' ⟨rfl,t,s⟩;exact⟨rfl,h.step t s,s⟩
def mk3 (T:aC) (op a b c:Int):(Int × Int) × aC:=bQ T op ⟨#[]⟩ eA [a,b,c]
theorem aLg {T:aC} (h:dR T) (op a b c:Int):dR (mk3 T op a b c).2:=(h.make op (nm:=⟨#[]⟩) (val:=eA) [a,b,c] (by decide) (by decide) (by decide)).g
theorem aLh {w0 w:World} {p:Nat} {T:aC} {X:Nat->Prop} (j:lF w0) (h:St w0 p { T with X:=X } w) (m:dR T) (op a b c:Int) (o:eI op) (i:op≠11) (q:eI a) (r:eI b) (y:eI c) :
  Calls prog 33 #[.pointer (some ⟨p,0,none⟩),.int .i64 op,.string ⟨#[]⟩,.agg #[.bool false,.slice none 0 0,.slice none 0 0],.slice (some ⟨w.heap.size,0,none⟩) 3 3] (w.alloc (.cells #[.int .i64 a,.int .i64 b,.int .i64 c] 3)) fun e w'=>
   e = .returned (.tuple #[.int .i64 (mk3 T op a b c).1.1,.int .i64 (mk3 T op a b c).1.2])/\St w0 p { (mk3 T op a b c).2 with X:=X } w'/\dA p w w':=by
 have d:=h.lit (.cells #[.int .i64 a,.int .i64 b,.int .i64 c] 3);have f:=sH w0.heap.size p { T with X:=X } op ⟨#[]⟩ eA [a,b,c] none none (some ⟨w.heap.size,0,none⟩) 0 0 3 _ d.t (m.ok.sm.X X) (d.env j) (aD5 w op [a,b,c] o (by intro x g;simp at g;rcases g with rfl | rfl | rfl <;> assumption) (by show 3<=maxLen;decide) i);unfold cZ at f;rw [wI] at f;refine f.mono ?_;rintro e w' ⟨rfl,t,s⟩;exact⟨rfl,d.step t s,(dA.of_below h.t.plt (bJ)).trans s⟩
def W4:aC:=(mk3 P3 10 0 1 2).2
def W5:aC:=(uA W4 8 3 1).2
def W6:aC:=(mk3 W5 9 1 2 3).2
def W7:aC:=(mJ W6 [4]).2
def W8:aC:=(nK W7 5).2
theorem aYt:(mk3 P3 10 0 1 2).1=(3,0):=by decide +kernel
theorem aYu:(uA W4 8 3 1).1=(4,0):=by decide +kernel
theorem aYv:(mk3 W5 9 1 2 3).1=(5,0):=by decide +kernel
theorem aYw:(mJ W6 [4]).1.2.2=0/\(mJ W6 [4]).1.1.length=1/\(mJ W6 [4]).1.2.1.length=2:=by decide +kernel
theorem aYx:(nK W7 5).1.2=0/\(nK W7 5).1.1.length=3:=by decide +kernel
theorem aYy:vF W8 [1]=false:=by decide +kernel
theorem aYz:mJ W8 [1]=(([],[],1),W8):=by unfold mJ;rw [aYy];rfl
theorem aX0:(nK W8 4).1=([4],0):=by decide +kernel
theorem aO4:5<W7.nodes.length/\4<W8.nodes.length/\W6.fresh<=1000000000/\W8.fresh<=1000000000:=by decide +kernel
theorem aX1:dR A0:=⟨aXt,fun x b=>(by cases b)⟩
theorem aX2:dR P1:=by have:=(aX1.make 12 (nm:=sp) (val:=eA) [] (by decide) (by decide) (by decide)).g;rw [aXz] at this;exact this
theorem aX3:dR P2:=by have:=(aX2.make 12 (nm:=sx) (val:=eA) [] (by decide) (by decide) (by decide)).g;rw [aWd] at this;exact this
theorem aX4:dR P3:=by have:=(aX3.make 12 (nm:=sy) (val:=eA) [] (by decide) (by decide) (by decide)).g;rw [aWe] at this;exact this
theorem aX5:dR W4:=aLg aX4 _ _ _ _
theorem aX6:dR W5:=kN aX5 _ _ _
theorem aY0:dR W6:=aLg aX6 _ _ _ _
theorem aY1:mk3 P3 10 0 1 2=((3,0),W4):=qX aYt rfl
theorem aY2:uA W4 8 3 1=((4,0),W5):=qX aYu rfl
theorem aY3:mk3 W5 9 1 2 3=((5,0),W6):=qX aYv rfl
theorem uG {x:Int} (h:0<=x/\x<=100):eI x:=⟨by omega,by omega⟩
theorem aLi {w0 w:World} {p:Nat} {T:aC} (h:St w0 p T w) (o:Obj):0<1->∀x,some (⟨w.heap.size,0,none⟩:Addr)=some x->x.block<(w.alloc o).heap.size/\¬gR p (w.alloc o) x.block:=fun _ x e=>by
 injection e with e
 subst e;exact⟨by simp,h.free o⟩
theorem aLj (w:World) (M:lF w):Calls prog 14 #[] w fun e w'=>e = .returned (.bool true)/\Below w.heap.size w w':=by
 have d:=Z M;have az:=Z (aIj w M.env);clear M;go_enter func14,ntmps14
 go_wp2_with fail
 refine az.o.mono ?_;rintro e w1 ⟨p,r,rfl,aD,al⟩;have aa:=Z (show St w p { A0 with X:=NoX } w1 from⟨aD,al⟩);have G:=aEv d.o aa.o aX1 sp (by decide);rw [aXz] at G;have an:=Z G;clear aD al az G
 go_wp2_with fail
 refine an.o.mono ?_;rintro e aU ⟨rfl,a3,_⟩;have ab:=Z a3;have H:=aEv d.o ab.o aX2 sx (by decide);rw [aWd] at H;have ap:=Z H;clear a3 an H aa
 go_wp2_with fail
 refine ap.o.mono ?_;rintro e w3 ⟨rfl,a4,_⟩;have ad:=Z a4;have I:=aEv d.o ad.o aX3 sy (by decide);rw [aWe] at I;have aq:=Z I;clear a4 ap I ab
 go_wp2_with fail
 refine aq.o.mono ?_;rintro e w4 ⟨rfl,a5,_⟩;have ae:=Z a5;have J:=aLh d.o ae.o aX4 10 0 1 2 (uG (by decide)) (by decide) (uG (by decide)) (uG (by decide)) (uG (by decide));rw [aY1] at J;have ar:=Z J;clear a5 aq J ad
 go_wp2_with fail
 refine ar.o.mono ?_;rintro e aV ⟨rfl,a6,_⟩;have af:=Z a6;have K:=vH d.o af.o aX5 8 3 1 (uG (by decide)) (by decide) (uG (by decide)) (uG (by decide));rw [aY2] at K;have au:=Z K;clear a6 ar K ae
 go_wp2_with fail
 refine au.o.mono ?_;rintro e aX ⟨rfl,a7,_⟩;have ag:=Z a7;have L:=aLh d.o ag.o aX6 9 1 2 3 (uG (by decide)) (by decide) (uG (by decide)) (uG (by decide)) (uG (by decide));rw [aY3] at L;have av:=Z L;clear a7 au L af
 go_wp2_with fail
 refine av.o.mono ?_;rintro e Q ⟨rfl,a8,_⟩;have D:=Z a8;have ah:=D.o.lit (.cells #[.int .i64 4] 3);have y:=aBz d.o p NoX W6 (some ⟨Q.heap.size,0,none⟩) 1 1 [4] (Q.alloc (.cells #[.int .i64 4] 3)) ah aY0 aO4.2.2.1 (jQ.lit [4] 3 Q (by intro x f;simp at f;subst f;exact⟨by decide,by decide⟩)) (aLi D.o _) (by decide);obtain ⟨j,m,aE⟩:=aYw;unfold aC6 at y;rw [j,m,aE] at y;have aw:=Z y;clear a8 av y ag ah j m aE
 go_wp2_with fail
 refine aw.o.mono ?_;rintro e aH ⟨aP,c1,aQ,c2,rfl,_,_,_,a9,_,am⟩;have ai:=Z (show St w p { W7 with X:=NoX } aH from a9);have U:=Z (show dR W7 from am.g);have i:=aBh d.o p NoX W7 5 aH ai.o U.o aO4.1;obtain ⟨j,m⟩:=aYx;rw [show((5:Nat):Int)=5 from rfl] at i;unfold nV at i;rw [j,m] at i;have ax:=Z i;have V:=Z (show dR W8 from aEu U.o 5);clear a9 am aw i D j m
 go_wp2_with fail
 refine ax.o.mono ?_;rintro e C ⟨aR,c3,rfl,_,aB,_⟩;have E:=Z (show St w p { W8 with X:=NoX } C from aB);have aj:=E.o.lit (.cells #[.int .i64 1] 3);have A:=aBz d.o p NoX W8 (some ⟨C.heap.size,0,none⟩) 1 1 [1] (C.alloc (.cells #[.int .i64 1] 3)) aj V.o aO4.2.2.2 (jQ.lit [1] 3 C (by intro x f;simp at f;subst f;exact⟨by decide,by decide⟩)) (aLi E.o _) (by decide);unfold aC6 at A;rw [aYz] at A;have ay:=Z A;clear aB ax A ai aj
 go_wp2_with fail
 refine ay.o.mono ?_;rintro e aF ⟨aS,c4,aT,c5,rfl,_,_,_,a1,_,_⟩;have aL:=Z (show St w p { W8 with X:=NoX } aF from a1);have h:=aBh d.o p NoX W8 4 aF aL.o V.o aO4.2.1;rw [show((4:Nat):Int)=4 from rfl] at h;unfold nV at h;rw [aX0] at h;have ao:=Z h;clear a1 ay h E
 go_wp2_with fail
 refine ao.o.mono ?_;rintro e t ⟨aM,aN,rfl,aC,a2,_⟩;have aI:=Z a2.b;have P:∀x ∈ [(4:Int)],eI x:=by intro x f;simp at f;subst f;exact uG (by decide)
 have ak:=aW.rdX (n:=1) (xs:=[4]) aC P;have N:Below t.heap.size t (t.alloc (.cells #[.int .i64 4] 3)):=bJ;have O:=Z (aSr aM (some ⟨t.heap.size,0,none⟩) 1 1 aN 1 [(4:Int)] [(4:Int)] _ (ak.below N aA) (jQ.lit [(4:Int)] 3 t P) (by decide));rw [show aF4 [(4:Int)] [(4:Int)]=true from by decide] at O;have aJ:=Z (aG aI N);clear ao aC a2 ak N P
 go_wp2_with fail
 refine O.o.mono ?_;rintro e aO ⟨rfl,q,a0⟩;have aK:=Z (show Below w.heap.size w aO from by rw [a0];exact aJ.o.drewN q);clear a0 O;go_wp2;go_ret;exact⟨rfl,aK.o⟩
end Go.Proofs.YtgoojkiccdjplaaGreatDoor
