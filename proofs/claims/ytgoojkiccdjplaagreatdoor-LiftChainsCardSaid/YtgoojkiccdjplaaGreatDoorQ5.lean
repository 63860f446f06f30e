/-
  Parts of this claim's texts, one behind the other: FC EJ FD FE FF FG FH FI FJ FK FL FM ZF RA SP RB. No condition.
-/
import Derived.Test.YtgoojkiccdjplaaGreatDoorQ4
import Derived.Test.YtgoojkiccdjplaaGreatDoorQ1
set_option linter.unusedVariables false
set_option linter.unusedSimpArgs false
set_option maxRecDepth 100000
set_option maxHeartbeats 16000000
namespace Go.Proofs.YtgoojkiccdjplaaGreatDoor
open Go.RowKit Go.Sort Go.Lib Go.Proofs.Tryz
def aJx (v:bS) (w:World) (e:Ending) (w':World):Prop:=∃a c b d,e = .returned (oK v a c b d)/\gA (fH w.heap.size w') w' v a c b d/\Below w.heap.size w w'
theorem gA.setL {v:bS} {n:Nat} {W:World} {p:Nat} {cs:Array Value} {t:TypeId} {a b:Option Addr} {c d:Nat} (g:t≠3) (i:t≠177) (j:W.heap[p]? = some (.cells cs t (0,0))) (h:gA (fH n W) W v a c b d) (l:List (Nat × Value)):gA (fH n (setL p l W)) (setL p l W) v a c b d:=by
 obtain ⟨e,f,_⟩:=dQ g i l W cs j;exact⟨h.sort,h.el,h.num.move e (cD f.symm),h.nc,h.den.move e (cD f.symm),h.dc⟩
theorem aJx.set {v:bS} {w W:World} {p:Nat} {cs:Array Value} {t:TypeId} {a b:Option Addr} {c d:Nat} (e:t≠3) (f:t≠177) (g:W.heap[p]? = some (.cells cs t (0,0))) (j:w.heap.size<=p) (h:gA (fH w.heap.size W) W v a c b d) (i:Below w.heap.size w W) (l:List (Nat × Value)):aJx v w (.returned (oK v a c b d)) (setL p l W):=
 ⟨a,c,b,d,rfl,h.setL e f g l,(dQ e f l W cs g).2.2 _ _ j i⟩
theorem lR {p:Nat} {t:TypeId}:∀(l:List (Nat × Value)) (W:World) (cs:Array Value),W.heap[p]? = some (.cells cs t (0,0))->(setL p l W).heap[p]? = some (.cells (l.foldl (fun cs e=>cs.setIfInBounds e.1 e.2) cs) t (0,0))
 | [],_,_,h=>h
 | _ :: l,_,_,h=>lR l _ _ (by unfold World.setCell;rw [iN,if_pos rfl,h];rfl)
theorem eK {p k:Nat} (e:k≠p):∀(l:List (Nat × Value)) (W:World),(setL p l W).heap[k]? = W.heap[k]?
 | [],_=>rfl
 | _ :: l,_=>(eK e l _).trans (dZ _ _ _ _ e)
section
variable {S S' : Nat -> Prop}
theorem bT.from1 {α:Type} {R:cH α} {w:World} {a:Option Addr} {n c:Nat} {xs:List α} (h:bT R S w a n xs) (y:1<=n) (v:n<=c):bT R S w (kV a c 1 R.k) (n - 1) (xs.drop 1):=by
 refine⟨by rw [kQ,h.1],fun z=>?_⟩;obtain ⟨b,o,g,m,f,l⟩:=h.2 (by omega);refine⟨b,o+1 * R.k,?_,m,f,fun j x e=>?_⟩
 ·unfold kV;rw [if_neg (by omega),g];show some (Addr.add ⟨b,o,none⟩ (1 * R.k))=_;rw [lD]
 ·rw [tE] at e;obtain ⟨cs,s,t⟩:=l (1+j) x e;refine⟨cs,s,fun i u q=>?_⟩;have:=t i u q;rw [show o+1 * R.k+j * R.k+i=o+(1+j) * R.k+i from by rw [fC];omega];exact this
theorem aDt (w:World):(sizeOf 64).run prog w = .ok 6 w:=by kernel_rfl
theorem aPz {a:Option Addr} {n c:Nat} (f:1<=n) (e:n<=c) (W:World):(Instr.slice 78 (.slice a n c) (some (.int .i64 1)) none none).run prog W = .ok (.slice (kV a c 1 6) (n - 1) (c - 1)) W:=
 aAt (k:=1) underlying78 aDt f e W
theorem bT.valAt {w:World} {a:Option Addr} {n k:Nat} {xs:List bS} {x:bS} (h:bT iZ S w a n xs) (t:xs[k]? = some x) :
  ∃b o e g f j,a=some ⟨b,o,none⟩/\gA S w x e g f j/\∀i u,(aA2 x e g f j)[i]? = some u->w.cell? ⟨b,o+k * 6+i,none⟩=some u:=by
 obtain ⟨b,o,cs,l,_,q,m⟩:=h.at t;obtain ⟨e,g,f,j,rfl,s⟩:=qZ.1 q;exact⟨b,o,e,g,f,j,l,s,m⟩
theorem sJ (v:bS) (a b:Option Addr) (c d:Nat) (w:World) (h:gA S w v a c b d) (U:v.num.num.length<=1000000) (Q:v.num.den.length<=1000000) :
  Calls prog 91 #[oK v a c b d] w fun e w'=>aJx v w e w':=by
 have q:=Z h;obtain ⟨s,j,⟨g,i,f⟩,l⟩:=v;dsimp only at *;clear h;have N:=Z (eV w (.cells #[.int .i64 s,.bool j,.bool g,.slice a i.length c,.slice b f.length d,.int .i64 l] 64) (.cells #[.int .i64 0,.bool false,.bool false,.slice none 0 0,.slice none 0 0,.int .i64 0] 64));have C:=Z (fI w (.cells #[.int .i64 s,.bool j,.bool g,.slice a i.length c,.slice b f.length d,.int .i64 l] 64) (.cells #[.int .i64 0,.bool false,.bool false,.slice none 0 0,.slice none 0 0,.int .i64 0] 64));have z:=Z (cV w (.cells #[.int .i64 s,.bool j,.bool g,.slice a i.length c,.slice b f.length d,.int .i64 l] 64) (.cells #[.int .i64 0,.bool false,.bool false,.slice none 0 0,.slice none 0 0,.int .i64 0] 64));generalize V:(w.alloc (.cells #[.int .i64 s,.bool j,.bool g,.slice a i.length c,.slice b f.length d,.int .i64 l] 64)).alloc (.cells #[.int .i64 0,.bool false,.bool false,.slice none 0 0,.slice none 0 0,.int .i64 0] 64)=w0 at *;have al:w0.cell? ⟨w.heap.size,2,none⟩=some (.bool g):=E C.o 2;have am:w0.cell? ⟨w.heap.size,3,none⟩=some (.slice a i.length c):=E C.o 3;have an:w0.cell? ⟨w.heap.size,4,none⟩=some (.slice b f.length d):=E C.o 4;have G:=Z (aSi ⟨g,i,f⟩ a b c d w0 ⟨q.o.num.below z.o aA,q.o.nc,q.o.den.below z.o aA,q.o.dc⟩ U Q);go_enter func91,ntmps91
 go_wp2_with fail
 refine G.o.mono ?_;rintro e F ⟨t,c5,x,y,rfl,I,J,H,m5,D⟩;have K:=Z (aG z D);have m:=bD D C.o;have A:=bD D N.o;have Y:=Z m;have aa:=Z A;have L:=Z (show gA (fH w.heap.size F) F ⟨s,j,⟨g,i,f⟩,l⟩ t c5 x y from⟨q.o.sort,q.o.el,I.mono fun k _ h=>⟨h.1,aH z.o.size h.2⟩,H,J.mono fun k _ h=>⟨h.1,aH z.o.size h.2⟩,m5⟩);obtain ⟨y0,y1,y2,y3,y4,y5⟩:=gC m;have ai:=aQ m 2;have aj:=aQ m 3;have ak:=aQ m 4;obtain ⟨ao,z1,z2,z3,z4,z5⟩:=gC A;obtain ⟨ab,ad,ae,af,ag,ah⟩:=jC A;have P:=Z (show(setL w.heap.size [(2,.bool g),(3,.slice t i.length c5),(4,.slice x f.length y)] F).heap[w.heap.size+1]? = _ from(eK (by omega) _ _).trans A);have O:=Z ((dQ (by decide) (by decide) [(2,.bool g),(3,.slice t i.length c5),(4,.slice x f.length y)] F _ m).2.2 _ _ aA K.o);have M:=Z (L.o.setL (by decide) (by decide) m [(2,.bool g),(3,.slice t i.length c5),(4,.slice x f.length y)]);clear I J H m5 D m A G V;go_wp2;refine bodyPost_ret (v:=oK ⟨s,j,⟨g,i,f⟩,l⟩ t c5 x y) (by simp [results,results91,go_sem, *]) rfl ?_;exact aJx.set (v:=⟨s,j,⟨g,i,f⟩,l⟩) (by decide) (by decide) P.o (by omega) M.o O.o [(0,.int .i64 s),(1,.bool j),(2,.bool g),(3,.slice t i.length c5),(4,.slice x f.length y),(5,.int .i64 l)]
def fW (b:Bool):bS:=⟨0,b,eA,0⟩
theorem aMs (b:Bool) (w:World):Calls prog 139 #[.bool b] w fun e w'=>aJx (fW b) w e w':=by
 have g:=Z (cC w (.cells #[.int .i64 0,.bool false,.bool false,.slice none 0 0,.slice none 0 0,.int .i64 0] 64));have f:=Z (show Below w.heap.size w (w.alloc (.cells #[.int .i64 0,.bool false,.bool false,.slice none 0 0,.slice none 0 0,.int .i64 0] 64)) from bJ);go_enter func139,ntmps139
 go_wp2;refine bodyPost_ret (v:=oK (fW b) none 0 none 0) (by simp [results,results139,go_sem,fW,eA, *]) rfl ?_;refine⟨none,0,none,0,rfl,⟨(show eI 0 from⟨by decide,by decide⟩),(show eI 0 from⟨by decide,by decide⟩),.nil _ _ _ _,⟨aA,aN⟩,.nil _ _ _ _,⟨aA,aN⟩⟩,?_⟩
 first | exact bJ | exact f.o.setCell aA _
def aHz (l:List bS) (b:Bool):Bool:=l.foldl (fun o v=>o || !v.bool) b
def aWz (op:Int) (o b:Bool):Bool:=if op=4 then o && b else if op=5 then o || b else if op=7 then o != b else o
def aA3 (op:Int) (l:List bS) (b:Bool):Bool:=l.foldl (fun o v=>aWz op o v.bool) b
def bI (l:List bS) (k:Nat):bS:=l.getD k eZ
def xZ (op:Int) (l:List bS):Bool:=if op=3 then !(bI l 0).bool else if op=6 then aHz (l.take (l.length - 1)) (bI l (l.length - 1)).bool else aA3 op (l.drop 1) (bI l 0).bool
theorem dV {l:List bS} {k:Nat} (h:k<l.length):l[k]? = some (bI l k):=by unfold bI;rw [iW,cK h];rfl
theorem aDu {α e:Type} (f:e->α->e) {l:List α} {k:Nat} {x:α} (h:l[k]? = some x) (b:e):(l.take (k+1)).foldl f b=f ((l.take k).foldl f b) x:=by
 have g:=(gK.1 h).1;rw [jD g,vN];have:l[k]=x:=(gK.1 h).2;rw [this];rfl
theorem aP0 {a:Option Addr} {n c k:Nat} (f:k<=n) (e:n<=c) (W:World):(Instr.slice 78 (.slice a n c) none (some (.int .i64 k)) none).run prog W = .ok (.slice a k c) W:=
 aAs underlying78 aDt f e W
theorem aMt (op:Int) (a:Option Addr) (n c:Nat) (l:List bS) (w:World) (h:bT iZ S w a n l) (ao:1<=n) (ad:n<=c) (aS:n<=1000000) :
  Calls prog 140 #[.int .i64 op,.slice a n c] w fun e w'=>e = .returned (.bool (xZ op l))/\Below w.heap.size w w':=by
 have Y:=Z h;have ag:=Z h.1;have hd:=@Z (xZ op l=(if op=3 then !(bI l 0).bool else if op=6 then aHz (l.take (l.length - 1)) (bI l (l.length - 1)).bool else aA3 op (l.drop 1) (bI l 0).bool)) rfl;obtain ⟨ab,ak,a2,a4,a7,a5,U,_,V⟩:=h.valAt (dV (l:=l) (k:=0) (by rw [h.1];omega));obtain ⟨z,aq⟩:∃z,xZ op l=z:=⟨_,rfl⟩;rw [aq] at hd ⊢;clear aq;have aU:w.cell? ⟨ab,ak+1,none⟩=some (.bool (bI l 0).bool):=by have:=V 1 _ rfl;rwa [nW,cU] at this
 have aT:(0:Int)<n:=by omega
 by_cases M:op=3
 case pos=>
  subst M;have C:=Z (show(!(bI l 0).bool)=z from by rw [hd.o];rfl);clear hd h V;generalize (bI l 0).bool=b at *;subst U;go_enter func140,ntmps140
  go_wp2;go_ret;exact⟨aI C.o,aO _ _⟩
 case neg=>
  have a9:(op == 3)=false:=by simpa using M
  have aB:decide (op=3)=false:=aR M;by_cases P:op=6
  case pos=>
   subst P;have C:=Z (show aHz (l.take (n - 1)) (bI l (n - 1)).bool=z from by rw [hd.o,<-ag.o];rfl);obtain ⟨b2,az,a3,c2,a8,a6,au,_,aj⟩:=h.valAt (dV (l:=l) (k:=n - 1) (by rw [h.1];omega));obtain ⟨m,rfl⟩:∃m,n=m+1:=⟨n - 1,by omega⟩;rw [rH] at C aj;have aV:w.cell? ⟨b2,az+m * 6+1,none⟩=some (.bool (bI l m).bool):=aj 1 _ rfl;have ap:=fun W=>aP0 (a:=a) (n:=m+1) (c:=c) (k:=m) (by omega) ad W
   have aM:(((m+1:Nat):Int) - 1)=m:=by omega
   have aL:(0:Int)<=m:=by omega
   have aP:(m:Int)<((m+1:Nat):Int):=by omega
   clear hd h V aj;subst U;cases au;generalize aw:(bI l m).bool=f at *;generalize (bI l 0).bool=b at *;clear aw;go_enter func140,ntmps140
   go_wp2
   go_loopw [5,34] (fun an al wr=>∃k:Nat,k<=m/\al = .int .i64 k/\an = .bool (aHz (l.take k) f)/\Hid (Below w.heap.size w wr)) (fun _ al _=>m - (intOf al).toNat)
   case atStart=>exact⟨0,aN,rfl,rfl,aO _ _⟩
   case round=>
    obtain ⟨k,ax,rfl,rfl,j⟩:=hrel;by_cases ay:k<m
    case neg=>
     obtain rfl:k=m:=by omega
     have af:¬(k:Int)<k:=by omega
     have ai:=Z (show aHz (l.take k) f=z from by rw [<-C.o]);generalize aHz (l.take k) f=o at *;go_wp2;go_ret;exact⟨aI ai.o,j.o⟩
    case pos=>
     have af:(k:Int)<m:=by omega
     have x:=dV (l:=l) (k:=k) (by rw [ag.o];omega);obtain ⟨ar,a0,F,c3,I,G,av,_,g⟩:=(Y.o.below j.o aA).valAt x;cases av;have A:=Z (show aHz (l.take (k+1)) f=(aHz (l.take k) f || !(bI l k).bool) from aDu _ x f);have y0:=g 0 _ rfl;have y1:=g 1 _ rfl;have y2:=g 2 _ rfl;have y3:=g 3 _ rfl;have y4:=g 4 _ rfl;have y5:=g 5 _ rfl;rw [cU] at y0;clear x g;generalize bI l k=v at *;obtain ⟨s,q,⟨K,L,H⟩,J⟩:=v;dsimp only at *;generalize aHz (l.take k) f=o at *;have t:=Z (j.o.trans (((aO wr.heap.size wr).alloc aA (.cells #[.int .i64 s,.bool q,.bool K,.slice F L.length c3,.slice I H.length G,.int .i64 J] 64)).mono j.o.size));have aa:=Z (cC wr (.cells #[.int .i64 s,.bool q,.bool K,.slice F L.length c3,.slice I H.length G,.int .i64 J] 64));have z1:=E aa.o 1;simp only [dW,fF,dS] at z1;cases o
     case true=>
      go_wp2
      go_roundw
      case rel=>exact⟨k+1,by omega,by go_num,by rw [A.o];rfl,t.o⟩
      case measure=>first | (simp [intOf];done) | (simp [intOf];omega)
     case false=>
      go_wp2
      go_roundw
      case rel=>exact⟨k+1,by omega,by go_num,by rw [A.o];rfl,t.o⟩
      case measure=>first | (simp [intOf];done) | (simp [intOf];omega)
  case neg=>
   have aG:(op == 6)=false:=by simpa using P
   have aH:decide (op=6)=false:=aR P;have C:=Z (show aA3 op (l.drop 1) (bI l 0).bool=z from by rw [hd.o,if_neg M,if_neg P]);have ap:=fun W=>aPz (a:=some ⟨ab,ak,none⟩) (n:=n) (c:=c) ao ad W
   have D:=Z (Y.o.from1 ao ad);rw [U] at D;rw [show iZ.k=6 from rfl] at D;have ae:=Z D.o.1;obtain ⟨m,ah⟩:∃m,n - 1=m:=⟨_,rfl⟩;rw [ah] at D ae;simp only [ah] at ap;have aQ:m<=1000000:=by omega
   clear hd h V ah;subst U;generalize (bI l 0).bool=f at *;generalize l.drop 1=i at *;clear Y ag;generalize kV (some ⟨ab,ak,none⟩) c 1 6=a1 at *;go_enter func140,ntmps140
   go_wp2
   go_loopw [5,49] (fun an am wr=>∃k:Nat,k<=m/\am = .int .i64 k/\an = .bool (aA3 op (i.take k) f)/\Hid (Below w.heap.size w wr)) (fun _ am _=>m - (intOf am).toNat)
   case atStart=>exact⟨0,aN,rfl,rfl,aO _ _⟩
   case round=>
    obtain ⟨k,ax,rfl,rfl,j⟩:=hrel;by_cases ay:k<m
    case neg=>
     obtain rfl:k=m:=by omega
     have af:¬(k:Int)<k:=by omega
     have ai:=Z (show aA3 op (i.take k) f=z from by rw [<-C.o,fL (by rw [ae.o];exact aA)]);generalize aA3 op (i.take k) f=o at *;go_wp2;go_ret;exact⟨aI ai.o,j.o⟩
    case pos=>
     have af:(k:Int)<m:=by omega
     have x:=dV (l:=i) (k:=k) (by rw [ae.o];omega);obtain ⟨ar,a0,F,c3,I,G,rfl,_,g⟩:=(D.o.below j.o aA).valAt x;have A:=Z (show aA3 op (i.take (k+1)) f=aWz op (aA3 op (i.take k) f) (bI i k).bool from aDu _ x f);have y0:=g 0 _ rfl;have y1:=g 1 _ rfl;have y2:=g 2 _ rfl;have y3:=g 3 _ rfl;have y4:=g 4 _ rfl;have y5:=g 5 _ rfl;rw [cU] at y0;clear x g;generalize bI i k=v at *;obtain ⟨s,q,⟨K,L,H⟩,J⟩:=v;dsimp only at *;generalize aA3 op (i.take k) f=o at *;have t:=Z (j.o.trans (((aO wr.heap.size wr).alloc aA (.cells #[.int .i64 s,.bool q,.bool K,.slice F L.length c3,.slice I H.length G,.int .i64 J] 64)).mono j.o.size));have aa:=Z (cC wr (.cells #[.int .i64 s,.bool q,.bool K,.slice F L.length c3,.slice I H.length G,.int .i64 J] 64));have z1:=E aa.o 1;simp only [dW,fF,dS] at z1;by_cases N:op=4
     case pos=>
      subst N;have y:=Z (show aA3 4 (i.take (k+1)) f=(o && q) from A.o);cases o <;> (
       go_wp2
       go_roundw
       case rel=>exact⟨k+1,by omega,by go_num,by rw [y.o];rfl,t.o⟩
       case measure=>first | (simp [intOf];done) | (simp [intOf];omega))
     case neg=>
      have aC:(op == 4)=false:=by simpa using N
      have aD:decide (op=4)=false:=aR N;by_cases O:op=5
      case pos=>
       subst O;have y:=Z (show aA3 5 (i.take (k+1)) f=(o || q) from A.o);cases o <;> (
        go_wp2
        go_roundw
        case rel=>exact⟨k+1,by omega,by go_num,by rw [y.o];rfl,t.o⟩
        case measure=>first | (simp [intOf];done) | (simp [intOf];omega))
      case neg=>
       have aE:(op == 5)=false:=by simpa using O
       have aF:decide (op=5)=false:=aR O;by_cases Q:op=7
       case pos=>
        subst Q;have y:=Z (show aA3 7 (i.take (k+1)) f=(o != q) from A.o);go_wp2
        go_roundw
        case rel=>exact⟨k+1,by omega,by go_num,by rw [y.o];rfl,t.o⟩
        case measure=>first | (simp [intOf];done) | (simp [intOf];omega)
       case neg=>
        have aJ:(op == 7)=false:=by simpa using Q
        have aK:decide (op=7)=false:=aR Q;have y:=Z (show aA3 op (i.take (k+1)) f=o from by rw [A.o];unfold aWz;rw [if_neg N,if_neg O,if_neg Q]);go_wp2
        go_roundw
        case rel=>exact⟨k+1,by omega,by go_num,by rw [y.o],t.o⟩
        case measure=>first | (simp [intOf];done) | (simp [intOf];omega)
end
section
variable {S S' : Nat -> Prop}
theorem aP1 (r s:cJ) (a b J K:Option Addr) (c d L M:Nat) (w:World) (h:jI S w r a c b d) (k:jI S' w s J L K M) (aW:r.num.length<=1000000) (aT:r.den.length<=1000000) (aZ:s.num.length<=1000000) (aX:s.den.length<=1000000) :
  Calls prog 180 #[fA r a c b d,fA s J L K M] w fun e w'=>e = .returned (.int .i64 (uS r s))/\Below w.heap.size w w':=by
 have a8:=fun a3=>lP (r:=r) h.num.us64 h.den.us64 a3
 have aC:=fun a3=>lP (r:=s) k.num.us64 k.den.us64 a3
 have ai:=Z h;have i:=Z k;obtain ⟨q,G,C⟩:=r;obtain ⟨m,F,D⟩:=s;dsimp only at *;have a9:=Z a8;have aD:=Z aC;clear h k a8 aC;have av:=fI w (.cells #[.bool q,.slice a G.length c,.slice b C.length d] 36) (.cells #[.bool m,.slice J F.length L,.slice K D.length M] 36);have aw:=eV w (.cells #[.bool q,.slice a G.length c,.slice b C.length d] 36) (.cells #[.bool m,.slice J F.length L,.slice K D.length M] 36);have I:=Z (cV w (.cells #[.bool q,.slice a G.length c,.slice b C.length d] 36) (.cells #[.bool m,.slice J F.length L,.slice K D.length M] 36));generalize a4:(w.alloc (.cells #[.bool q,.slice a G.length c,.slice b C.length d] 36)).alloc (.cells #[.bool m,.slice J F.length L,.slice K D.length M] 36)=w0 at *;have ap:=Z (show ∀W,Below w0.heap.size w0 W->W.cell? ⟨w.heap.size,0,none⟩=some (.bool q)/\W.cell? ⟨w.heap.size,1,none⟩=some (.slice a G.length c)/\W.cell? ⟨w.heap.size,2,none⟩=some (.slice b C.length d)/\W.cell? ⟨w.heap.size+1,0,none⟩=some (.bool m)/\W.cell? ⟨w.heap.size+1,1,none⟩=some (.slice J F.length L)/\W.cell? ⟨w.heap.size+1,2,none⟩=some (.slice K D.length M) from fun W l=>
  ⟨aB l (E av 0),aB l (E av 1),aB l (E av 2),aB l (E aw 0),aB l (E aw 1),aB l (E aw 2)⟩)
 have al:=Z (show ∀W,Below w0.heap.size w0 W->True/\Below w.heap.size w W from fun W l=>⟨trivial,aG I l⟩);have Q:=Z (fX ⟨q,G,C⟩ a b c d w0 (ai.o.num.below I.o aA) (ai.o.den.below I.o aA) aW aT ai.o.nc ai.o.dc);have am:=Z (fun W (l:Below w0.heap.size w0 W)=>fX ⟨m,F,D⟩ J K L M W (i.o.num.below (al.o W l).2 aA) (i.o.den.below (al.o W l).2 aA) aZ aX i.o.nc i.o.dc);obtain ⟨U,V,Y,aa,ab,ad⟩:=ap.o w0 (aO _ _);clear av aw;cases O:iR ⟨q,G,C⟩
 case false=>
  have az:=Z (show uS ⟨q,G,C⟩ ⟨m,F,D⟩=0 from by unfold uS fN;rw [O];rfl);rw [O] at Q;rw [az.o];clear O;go_enter func180,ntmps180
  go_wp2_with fail
  refine Q.o.mono ?_;rintro e ae ⟨rfl,N⟩;obtain ⟨ah,v⟩:=al.o ae N;have aI:=Z ah;have ax:=Z v;clear a4 ah v N Q;go_wp2;go_ret;exact⟨rfl,ax.o⟩
 case true=>
  rw [O] at Q;cases ag:iR ⟨m,F,D⟩
  case false=>
   have az:=Z (show uS ⟨q,G,C⟩ ⟨m,F,D⟩=0 from by unfold uS fN;rw [O,ag];rfl);rw [ag] at am;rw [az.o];clear O ag;go_enter func180,ntmps180
   go_wp2_with fail
   refine Q.o.mono ?_;rintro e ae ⟨rfl,N⟩;have P:=Z N;clear U V Y aa ab ad;obtain ⟨U,V,Y,aa,ab,ad⟩:=ap.o ae N;clear a4 Q
   go_wp2_with fail
   refine(am.o ae P.o).mono ?_;rintro e ar ⟨rfl,ao⟩;obtain ⟨ah,v⟩:=al.o ar (P.o.trans (ao.mono P.o.size));have aI:=Z ah;have ax:=Z v;clear ah v N ao am;go_wp2;go_ret;exact⟨rfl,ax.o⟩
  case true=>
   have R:=Z (a9.o O);have aj:=Z (aD.o ag);rw [ag] at am;have a6:=Z (show uS ⟨q,G,C⟩ ⟨m,F,D⟩=uR (aU ⟨q,aJ G⟩ ⟨false,aJ D⟩) (aU ⟨m,aJ F⟩ ⟨false,aJ C⟩) from by unfold uS fN;rw [O,ag];rfl);clear a9 aD O ag;obtain ⟨x,y,aP,aQ,be,bg,bj⟩:∃x y,G=limbs x/\C=limbs y/\G.length<=64/\C.length<=64/\0<y:=⟨_,_,R.o.num,R.o.den,R.o.nl,R.o.dl,R.o.pos⟩;obtain ⟨x',y',aR,aS,bf,bh,bk⟩:∃x y,F=limbs x/\D=limbs y/\F.length<=64/\D.length<=64/\0<y:=⟨_,_,aj.o.num,aj.o.den,aj.o.nl,aj.o.dl,aj.o.pos⟩;subst aP aQ aR aS;rw [aY,aY,aY,aY] at a6;rw [a6.o];clear R aj;go_enter func180,ntmps180
   go_wp2_with fail
   refine Q.o.mono ?_;rintro e ae ⟨rfl,N⟩;have P:=Z N;clear U V Y aa ab ad;obtain ⟨U,V,Y,aa,ab,ad⟩:=ap.o ae N;clear a4 Q N
   go_wp2_with fail
   refine(am.o ae P.o).mono ?_;rintro e ar ⟨rfl,ao⟩;have ay:=Z (P.o.trans (ao.mono P.o.size));clear U V Y aa ab ad I;obtain ⟨U,V,Y,aa,ab,ad⟩:=ap.o ar ay.o;obtain ⟨ah,v⟩:=al.o ar ay.o;have I:=Z v;clear ap al ay P ao am ah v;clear ae w0;obtain ⟨w0,rfl⟩:∃W,W=ar:=⟨_,rfl⟩;have bi:=Z I.o.size;have bc:=Z (show(limbs (aU ⟨q,x⟩ ⟨false,y'⟩).n).length<=274877906944 from aH (fY be bh) (by decide));have bd:=Z (show(limbs (aU ⟨m,x'⟩ ⟨false,y⟩).n).length<=274877906944 from aH (fY bf bg) (by decide));have ba:=Z (fun W (v:Below w0.heap.size w0 W)=>tW q false a K (limbs x).length (limbs y').length c M x y' W (ai.o.num.below (aG I v) aA) (i.o.den.below (aG I v) aA) (by omega) (by omega));have bb:=Z (fun W (v:Below w0.heap.size w0 W)=>tW m false J b (limbs x').length (limbs y).length L d x' y W (i.o.num.below (aG I v) aA) (ai.o.den.below (aG I v) aA) (by omega) (by omega));have au:=Z (show ∀W,Below w0.heap.size w0 W->(W.cell? ⟨w.heap.size,0,none⟩=some (.bool q)/\W.cell? ⟨w.heap.size,1,none⟩=some (.slice a (limbs x).length c)/\W.cell? ⟨w.heap.size,2,none⟩=some (.slice b (limbs y).length d))/\(W.cell? ⟨w.heap.size+1,0,none⟩=some (.bool m)/\W.cell? ⟨w.heap.size+1,1,none⟩=some (.slice J (limbs x').length L)/\W.cell? ⟨w.heap.size+1,2,none⟩=some (.slice K (limbs y').length M)) from fun W l=>⟨⟨aB l U,aB l V,aB l Y⟩,aB l aa,aB l ab,aB l ad⟩);go_wp2;clear U V Y aa ab ad;refine bF (S:=fun W=>Below w0.heap.size w0 W) 11 (by kernel_rfl) (by kernel_rfl) (aF w0) (fun hdr=>?_);have g:=Z (aF w0);clear hdr;generalize w0.drew=wc at *;refine aE 0 (hy:=(Or.inl ⟨by rfl,by(intro W af;have t:=(au.o W af).1;have a0:=t.1;have a1:=t.2.1;have a2:=t.2.2;go_simp <;> with_reducible rfl)⟩)) ?_;refine aE 2 (hy:=(Or.inl ⟨by rfl,by(intro W af;have t:=(au.o W af).2;have a0:=t.1;have a1:=t.2.1;have a2:=t.2.2;go_simp <;> with_reducible rfl)⟩)) ?_;refine aE 5 (hy:=(Or.inl ⟨by rfl,by(intro W af;have t:=(au.o W af).2;have a0:=t.1;have a1:=t.2.1;have a2:=t.2.2;go_simp <;> with_reducible rfl)⟩)) ?_;refine aE 7 (hy:=(Or.inl ⟨by rfl,by(intro W af;have t:=(au.o W af).1;have a0:=t.1;have a1:=t.2.1;have a2:=t.2.2;go_simp <;> with_reducible rfl)⟩)) ?_;refine aV 1 fun i j=>?_;go_simp
   go_at_call 212
   refine(nH _ _ _ _ _ _ _ wc).mono ?_;rintro ak H ⟨rfl,f⟩;have g:=Z (aG g f);(try have z:=Z (z.o.below f aA));(try have A:=Z (A.o.below f aA));clear f;obtain ⟨wc,rfl⟩:∃W,W=H:=⟨_,rfl⟩;(try dsimp only);refine j.out _ _ (by(exact g.o)) (fun hHeld2=>?_);clear j i;refine aV 3 fun i j=>?_;go_simp
   go_at_call 213
   refine(lJ _ _ _ _ _ _ _ wc).mono ?_;rintro ak H ⟨rfl,f⟩;have g:=Z (aG g f);(try have z:=Z (z.o.below f aA));(try have A:=Z (A.o.below f aA));clear f;obtain ⟨wc,rfl⟩:∃W,W=H:=⟨_,rfl⟩;(try dsimp only);refine j.out _ _ (by(exact g.o)) (fun hHeld3=>?_);clear j i;refine aV 4 fun i j=>?_;go_simp
   go_at_call 211
   refine(ba.o wc g.o).mono ?_;rintro ak H ⟨aK,aM,rfl,aq,a5,f⟩;have an:=Z (aq.mono (S':=fun _=>True) fun _ _ _=>trivial);clear aq a5;have g:=Z (aG g f);(try have z:=Z (z.o.below f aA));(try have A:=Z (A.o.below f aA));clear f;obtain ⟨wc,rfl⟩:∃W,W=H:=⟨_,rfl⟩;(try dsimp only);have z:=an;clear an;refine j.out _ _ (by(exact g.o)) (fun hHeld4=>?_);clear j i;refine aV 6 fun i j=>?_;go_simp
   go_at_call 212
   refine(nH _ _ _ _ _ _ _ wc).mono ?_;rintro ak H ⟨rfl,f⟩;have g:=Z (aG g f);(try have z:=Z (z.o.below f aA));(try have A:=Z (A.o.below f aA));clear f;obtain ⟨wc,rfl⟩:∃W,W=H:=⟨_,rfl⟩;(try dsimp only);refine j.out _ _ (by(exact g.o)) (fun hHeld5=>?_);clear j i;refine aV 8 fun i j=>?_;go_simp
   go_at_call 213
   refine(lJ _ _ _ _ _ _ _ wc).mono ?_;rintro ak H ⟨rfl,f⟩;have g:=Z (aG g f);(try have z:=Z (z.o.below f aA));(try have A:=Z (A.o.below f aA));clear f;obtain ⟨wc,rfl⟩:∃W,W=H:=⟨_,rfl⟩;(try dsimp only);refine j.out _ _ (by(exact g.o)) (fun hHeld6=>?_);clear j i;refine aV 9 fun i j=>?_;go_simp
   go_at_call 211
   refine(bb.o wc g.o).mono ?_;rintro ak H ⟨aL,aN,rfl,aq,a5,f⟩;have an:=Z (aq.mono (S':=fun _=>True) fun _ _ _=>trivial);clear aq a5;have g:=Z (aG g f);(try have z:=Z (z.o.below f aA));(try have A:=Z (A.o.below f aA));clear f;obtain ⟨wc,rfl⟩:∃W,W=H:=⟨_,rfl⟩;(try dsimp only);have A:=an;clear an;refine j.out _ _ (by(exact g.o)) (fun hHeld7=>?_);clear j i;refine aV 10 fun i j=>?_;have a7:=Z (aMo (aU ⟨q,x⟩ ⟨false,y'⟩).neg (aU ⟨m,x'⟩ ⟨false,y⟩).neg aK aL (limbs (aU ⟨q,x⟩ ⟨false,y'⟩).n).length (limbs (aU ⟨m,x'⟩ ⟨false,y⟩).n).length aM aN (aU ⟨q,x⟩ ⟨false,y'⟩).n (aU ⟨m,x'⟩ ⟨false,y⟩).n wc z.o A.o bc.o bd.o);go_simp
   go_at_call 210
   refine a7.o.mono ?_;rintro ak H ⟨rfl,f⟩;have g:=Z (aG g f);clear f a7;dsimp only;refine j.out _ _ (by(exact g.o)) (fun hHeld8=>?_);clear j i;(try simp only [Act.put,sA,sB,sC]);refine cF (by decide +kernel) ?_;simp only [dL,cW];go_wp2;go_ret;exact⟨rfl,aG I g.o⟩
end
def sK (p:Bool) (x:bS) (l:List bS):Bool:=l.all fun y=>jJ x y == p
def iQ (p:Bool):List bS->Bool
 | []=>true
 | x :: l=>sK p x l && iQ p l
def nL (op c:Int):Bool:=if c<0 then decide (op=17) || decide (op=18) else if 0<c then decide (op=19) || decide (op=20) else decide (op=17) || decide (op=19)
def mN (op:Int):List bS->Bool
 | x :: y :: l=>nL op (uS x.num y.num) && mN op (y :: l)
 | _=>true
def eB (v:bS):Prop:=v.num.num.length<=1000000/\v.num.den.length<=1000000
theorem aU8 (x y:Nat):-1<=fZ x y/\fZ x y<=1:=by unfold fZ;split;omega;split <;> omega
theorem aU9 (r s:cJ):-1<=uS r s/\uS r s<=1:=by
 unfold uS
 split
 ·unfold uR
  split
  ·split <;> exact aU8 _ _
  ·split <;> omega
 ·omega
theorem aJy {p:Bool} {l:List bS} {k:Nat} (e:k<l.length):iQ p (l.drop k)=(sK p (bI l k) (l.drop (k+1)) && iQ p (l.drop (k+1))):=by
 rw [kY e];have:l[k]=bI l k:=by have:=dV e;rw [cK e] at this;injection this
 rw [this];rfl
theorem aJz {op:Int} {l:List bS} {k:Nat} (e:k+1<l.length):mN op (l.drop k)=(nL op (uS (bI l k).num (bI l (k+1)).num) && mN op (l.drop (k+1))):=by
 rw [kY (show k<l.length by omega),kY e];have f:l[k]=bI l k:=by have:=dV (l:=l) (k:=k) (by omega);rw [cK (by omega)] at this;injection this
 have g:l[k+1]=bI l (k+1):=by have:=dV e;rw [cK e] at this;injection this
 rw [f,g];rfl
theorem aJ0 {op:Int} {l:List bS} {k:Nat} (e:l.length<=k+1):mN op (l.drop k)=true:=by
 have:(l.drop k).length<=1:=by rw [kQ];omega
 cases h:l.drop k with
 | nil=>rfl
 |
  cons x t=>
  cases t with
  | nil=>rfl
  | cons y t=>rw [h] at this;simp at this
theorem aMu {p:Bool} {x:bS} {l:List bS} {k:Nat} (e:k<l.length):sK p x (l.drop k)=((jJ x (bI l k) == p) && sK p x (l.drop (k+1))):=by
 rw [kY e];have:l[k]=bI l k:=by have:=dV e;rw [cK e] at this;injection this
 rw [this];rfl
theorem aJ1 {l:List bS} {i k:Nat}:bI (l.drop i) k=bI l (i+k):=by
 unfold bI;rw [iW,iW,tE]
section
variable {S S' : Nat -> Prop}
theorem bT.fromK {α:Type} {R:cH α} {w:World} {a:Option Addr} {n c k:Nat} {xs:List α} (h:bT R S w a n xs) (y:k<=n) (v:n<=c):bT R S w (kV a c k R.k) (n - k) (xs.drop k):=by
 refine⟨by rw [kQ,h.1],fun z=>?_⟩;obtain ⟨b,o,g,m,f,l⟩:=h.2 (by omega);refine⟨b,o+k * R.k,?_,m,f,fun j x e=>?_⟩
 ·unfold kV;rw [if_neg (by omega),g];show some (Addr.add ⟨b,o,none⟩ (k * R.k))=_;rw [lD]
 ·rw [tE] at e;obtain ⟨cs,s,t⟩:=l (k+j) x e;refine⟨cs,s,fun i u q=>?_⟩;have:=t i u q;rw [show o+k * R.k+j * R.k+i=o+(k+j) * R.k+i from by rw [fC];omega];exact this
theorem aA4 {a:Option Addr} {n c k:Nat} (f:k<=n) (e:n<=c) (W:World):(Instr.slice 78 (.slice a n c) (some (.int .i64 k)) none none).run prog W = .ok (.slice (kV a c k 6) (n - k) (c - k)) W:=
 aAt (k:=k) underlying78 aDt f e W
theorem aMv (op:Int) (a:Option Addr) (n c:Nat) (l:List bS) (w:World) (h:bT iZ S w a n l) (a1:n<=c) (bc:n<=1000000) (a4:∀v∈l,eB v) :
  Calls prog 141 #[.int .i64 op,.slice a n c] w fun e w'=>e = .returned (.bool (iQ (decide (op=8)) l))/\Below w.heap.size w w':=by
 have aq:=Z h;have ai:=Z h.1;have a5:=Z a4;have bd:(op == 8)=decide (op=8):=by rw [zC];simp
 generalize a3:decide (op=8)=p at *;obtain ⟨z,al⟩:∃z,iQ p l=z:=⟨_,rfl⟩;have aT:=Z al;rw [al];have be:=Z a3;clear al h a4 a3;go_enter func141,ntmps141
 go_wp2
 go_loopw [11,5,21] (fun am _ _ wr=>∃k:Nat,k<=n/\am = .int .i64 k/\Hid (iQ p (l.drop k)=z)/\Hid (Below w.heap.size w wr)) (fun am _ _ _=>n - (intOf am).toNat)
 case atStart=>exact⟨0,aN,rfl,by show iQ p (l.drop 0)=z;rw [cW];exact aT.o,aO _ _⟩
 case round=>
  obtain ⟨k,ba,rfl,af,Y⟩:=hrel;obtain ⟨D,rfl⟩:∃D,D=wr:=⟨_,rfl⟩;by_cases aS:k<n
  case neg=>
   obtain rfl:k=n:=by omega
   have aR:¬(k:Int)<k:=by omega
   have C:=Z (show true=z from by rw [<-af.o,pU (by rw [ai.o];exact aA)];rfl);go_wp2;go_ret;exact⟨aI C.o,Y.o⟩
  case pos=>
   have aR:(k:Int)<n:=by omega
   have ah:=dV (l:=l) (k:=k) (by rw [ai.o];omega);obtain ⟨av,a9,H,c3,K,J,rfl,ar,E⟩:=(aq.o.below Y.o aA).valAt ah;have a8:=Z (a5.o _ (fP ah));have a0:=Z (show(sK p (bI l k) (l.drop (k+1)) && iQ p (l.drop (k+1)))=z from by rw [<-aJy (by rw [ai.o];exact aS)];exact af.o);have y0:=E 0 _ rfl;have y1:=E 1 _ rfl;have y2:=E 2 _ rfl;have y3:=E 3 _ rfl;have y4:=E 4 _ rfl;have y5:=E 5 _ rfl;rw [cU] at y0;have G:=Z (aq.o.fromK (k:=k+1) (by omega) a1);rw [show iZ.k=6 from rfl] at G;have M:=Z G.o.1;have a7:=fun W=>aA4 (a:=some ⟨av,a9,none⟩) (n:=n) (c:=c) (k:=k+1) (by omega) a1 W
   rw [show((k+1:Nat):Int)=(k:Int)+1 by simp] at a7;obtain ⟨m,aj⟩:∃m,n - (k+1)=m:=⟨_,rfl⟩;rw [aj] at G M;simp only [aj] at a7;have bb:m<=1000000:=by omega
   have aD:=Z ar;clear ah E af ar aj;generalize bI l k=x at *;obtain ⟨s,f,⟨q,A,g⟩,i⟩:=x;dsimp only at *;have az:=Z (Y.o.trans (((aO D.heap.size D).alloc aA (.cells #[.int .i64 s,.bool f,.bool q,.slice H A.length c3,.slice K g.length J,.int .i64 i] 64)).mono Y.o.size));have aF:=Z (cC D (.cells #[.int .i64 s,.bool f,.bool q,.slice H A.length c3,.slice K g.length J,.int .i64 i] 64));have aK:=Z ((aO D.heap.size D).alloc aA (.cells #[.int .i64 s,.bool f,.bool q,.slice H A.length c3,.slice K g.length J,.int .i64 i] 64));obtain ⟨T,ab⟩:∃T,l.drop (k+1)=T:=⟨_,rfl⟩;have bf:=Z (show ∀v∈T,eB v from fun v C=>a5.o v (by rw [<-ab] at C;exact pV C));have aM:=Z ab;rw [ab] at G M a0;clear ab;generalize kV (some ⟨av,a9,none⟩) c (k+1) 6=aX at *
   go_upto_region 4 with fail
   generalize (D.alloc (.cells #[.int .i64 s,.bool f,.bool q,.slice H A.length c3,.slice K g.length J,.int .i64 i] 64))=aB at *;clear y0 y1 y2 y3 y4 y5;go_wp2
   go_loopw [21] (fun an wr=>∃j:Nat,j<=m/\an = .int .i64 j/\Hid ((sK p ⟨s,f,⟨q,A,g⟩,i⟩ (T.drop j) && iQ p T)=z)/\Hid (Below aB.heap.size aB wr)) (fun an _=>m - (intOf an).toNat)
   case atStart=>exact⟨0,aN,rfl,by show(sK p _ (T.drop 0) && iQ p T)=z;rw [cW];exact a0.o,aO _ _⟩
   case round=>
    obtain ⟨j,aZ,rfl,ag,ay⟩:=hrel;have ap:=Z (aG az ay.o);by_cases aQ:j<m
    case neg=>
     obtain rfl:j=m:=by omega
     have aP:¬(j:Int)<j:=by omega
     have C:=Z (show iQ p T=z from by
      have:=ag.o;rw [pU (by rw [M.o];exact aA)] at this;exact this)
     go_wp2
     go_roundw
     case rel=>exact⟨k+1,by omega,by go_num,by show iQ p (l.drop (k+1))=z;rw [aM.o];exact C.o,ap.o⟩
     case measure=>first | (simp [intOf];done) | (simp [intOf];omega)
    case pos=>
     have aP:(j:Int)<m:=by omega
     have a2:=dV (l:=T) (k:=j) (by rw [M.o];omega);obtain ⟨aY,bg,Q,c4,V,U,rfl,au,F⟩:=(G.o.below ap.o aA).valAt a2;have aa:=Z (show(((jJ ⟨s,f,⟨q,A,g⟩,i⟩ (bI T j) == p) && sK p ⟨s,f,⟨q,A,g⟩,i⟩ (T.drop (j+1))) && iQ p T)=z from by rw [<-aMu (by rw [M.o];exact aQ)];exact ag.o);have y0:=F 0 _ rfl;have y1:=F 1 _ rfl;have y2:=F 2 _ rfl;have y3:=F 3 _ rfl;have y4:=F 4 _ rfl;have y5:=F 5 _ rfl;rw [cU] at y0;have aE:=Z au;clear a2 F ag au;generalize bI T j=y at *;obtain ⟨t,I,⟨O,P,N⟩,L⟩:=y;dsimp only at *;have aw:=Z ((aO wr.heap.size wr).alloc aA (.cells #[.int .i64 t,.bool I,.bool O,.slice Q P.length c4,.slice V N.length U,.int .i64 L] 64));have ae:=Z (aG ay aw.o);have aJ:=Z (cC wr (.cells #[.int .i64 t,.bool I,.bool O,.slice Q P.length c4,.slice V N.length U,.int .i64 L] 64));have a6:=Z (aF2 ⟨s,f,⟨q,A,g⟩,i⟩ ⟨t,I,⟨O,P,N⟩,L⟩ H K Q V c3 J c4 U _ ((aD.o.below aK.o aA).below ae.o aA) (aE.o.below aw.o aA) a8.o.1 a8.o.2);have aH:=Z (bD ae.o aF.o)
     go_upto_region 7 with fail
     generalize (wr.alloc (.cells #[.int .i64 t,.bool I,.bool O,.slice Q P.length c4,.slice V N.length U,.int .i64 L] 64))=bh at *;clear y0 y1 y2 y3 y4 y5;obtain ⟨u0,u1,u2,u3,u4,u5⟩:=gC aH.o;obtain ⟨aU,v1,v2,v3,aV,aW⟩:=gC aJ.o;generalize jJ ⟨s,f,⟨q,A,g⟩,i⟩ ⟨t,I,⟨O,P,N⟩,L⟩=ad at *
     go_wp2_with fail
     refine a6.o.mono ?_;rintro e bi ⟨rfl,ax⟩;have ao:=Z (aG ae ax);have aC:=Z (aG az ao.o);clear ax a6 u0 u1 u2 u3 u4 u5 aU v1 v2 v3 aV aW;cases ak:(ad == p)
     case true=>
      obtain rfl:ad=p:=by simpa using ak
      have aL:=Z (show(sK ad ⟨s,f,⟨q,A,g⟩,i⟩ (T.drop (j+1)) && iQ ad T)=z from by rw [<-aa.o,ak];rfl);clear aa;go_wp2
      go_roundw
      case rel=>exact⟨j+1,by omega,by go_num,aL.o,ao.o⟩
      case measure=>first | (simp [intOf];done) | (simp [intOf];omega)
     case false=>
      have C:=Z (show false=z from by rw [<-aa.o,ak];rfl);clear aa;go_wp2;go_ret;exact⟨aI C.o,aC.o⟩
end
section
variable {S S' : Nat -> Prop}
theorem aMw (op:Int) (a:Option Addr) (n c:Nat) (l:List bS) (w:World) (h:bT iZ S w a n l) (bg:1<=n) (a0:n<=c) (bk:n<=1000000) (a1:∀v∈l,eB v) :
  Calls prog 142 #[.int .i64 op,.slice a n c] w fun e w'=>e = .returned (.bool (mN op l))/\Below w.heap.size w w':=by
 have ao:=Z h;have ak:=Z h.1;have a2:=Z a1;obtain ⟨z,am⟩:∃z,mN op l=z:=⟨_,rfl⟩;have aU:=Z am;rw [am];obtain ⟨m,rfl⟩:∃m,n=m+1:=⟨n - 1,by omega⟩;have ad:=Z (ao.o.fromK (k:=1) (by omega) a0);rw [show iZ.k=6 from rfl,rH] at ad;have aL:=Z ad.o.1;have aT:=fun W=>aA4 (a:=a) (n:=m+1) (c:=c) (k:=1) (by omega) a0 W
 rw [show((1:Nat):Int)=1 from rfl,rH] at aT;generalize kV a c 1 6=ba at *;clear am h a1;go_enter func142,ntmps142
 go_wp2
 go_loopw [11,5,7] (fun an _ _ wr=>∃k:Nat,k<=m/\an = .int .i64 k/\Hid (mN op (l.drop k)=z)/\Hid (Below w.heap.size w wr)) (fun an _ _ _=>m - (intOf an).toNat)
 case atStart=>exact⟨0,aN,rfl,by show mN op (l.drop 0)=z;rw [cW];exact aU.o,aO _ _⟩
 case round=>
  obtain ⟨k,bh,rfl,ag,Q⟩:=hrel;by_cases bj:k<m
  case neg=>
   obtain rfl:k=m:=by omega
   have aM:¬(k:Int)<k:=by omega
   have al:=Z (show true=z from by rw [<-ag.o,aJ0 (by rw [ak.o];omega)]);go_wp2;go_ret;exact⟨aI al.o,Q.o⟩
  case pos=>
   have aM:(k:Int)<m:=by omega
   have bi:(k:Int)<(m:Int)+1:=by omega
   have ai:=dV (l:=l) (k:=k) (by rw [ak.o];omega);have aj:=dV (l:=l.drop 1) (k:=k) (by rw [aL.o];omega);have a3:=Z (a2.o _ (fP ai));have a4:=Z (a2.o _ (pV (fP aj)));have U:=Z (show(nL op (uS (bI l k).num (bI (l.drop 1) k).num) && mN op (l.drop (k+1)))=z from by
    rw [aJ1,oB 1 k,<-aJz (by rw [ak.o];omega)];exact ag.o)
   obtain ⟨bb,bl,aC,c3,aH,aD,rfl,ap,V⟩:=(ao.o.below Q.o aA).valAt ai;obtain ⟨bc,bm,M,c4,P,N,rfl,aq,D⟩:=(ad.o.below Q.o aA).valAt aj;have y0:=D 0 _ rfl;have y1:=D 1 _ rfl;have y2:=D 2 _ rfl;have y3:=D 3 _ rfl;have y4:=D 4 _ rfl;have y5:=D 5 _ rfl;rw [cU] at y0;have a5:=V 2 _ rfl;have a6:=V 3 _ rfl;have a7:=V 4 _ rfl;have J:=Z ap.rat;have K:=Z aq.rat;clear ai aj V D ag ap aq;generalize bI l k=x at *;generalize bI (l.drop 1) k=y at *;obtain ⟨s,bd,⟨Y,aa,O⟩,bf⟩:=x;obtain ⟨t,ae,⟨G,H,F⟩,af⟩:=y;dsimp only at *;have q:=Z ((aO wr.heap.size wr).alloc aA (.cells #[.int .i64 t,.bool ae,.bool G,.slice M H.length c4,.slice P F.length N,.int .i64 af] 64));have ay:=Z (aG Q q.o);have L:=Z (cC wr (.cells #[.int .i64 t,.bool ae,.bool G,.slice M H.length c4,.slice P F.length N,.int .i64 af] 64));have u2:=aB q.o a5;have u3:=aB q.o a6;have u4:=aB q.o a7
   go_upto_region 4 with fail
   generalize (wr.alloc (.cells #[.int .i64 t,.bool ae,.bool G,.slice M H.length c4,.slice P F.length N,.int .i64 af] 64))=j at *;have ah:=Z (fun W (C:Below j.heap.size j W)=>aP1 ⟨Y,aa,O⟩ ⟨G,H,F⟩ aC aH M P c3 aD c4 N W ⟨(J.o.num.below q.o aA).below C aA,J.o.nc,(J.o.den.below q.o aA).below C aA,J.o.dc⟩ ⟨(K.o.num.below q.o aA).below C aA,K.o.nc,(K.o.den.below q.o aA).below C aA,K.o.dc⟩ a3.o.1 a3.o.2 a4.o.1 a4.o.2);have z2:=E L.o 2;have z3:=E L.o 3;have z4:=E L.o 4;simp only [dW,fF,dS] at z2 z3 z4;clear y0 y1 y2 y3 y4 y5 a5 a6 a7 L;have aK:=Z (show -1<=uS ⟨Y,aa,O⟩ ⟨G,H,F⟩/\uS ⟨Y,aa,O⟩ ⟨G,H,F⟩<=1 from aU9 _ _);generalize uS ⟨Y,aa,O⟩ ⟨G,H,F⟩=I at *
   go_cut [7] from 16 to 23 (fun aX wc=>aX = .int .i64 I/\Hid (Below w.heap.size w wc))
   case first=>
    refine bF (S:=fun W=>Below j.heap.size j W) 8 (by kernel_rfl) (by kernel_rfl) (aF j) (fun _=>?_);refine aE 0 ?_;refine aE 1 ?_;refine aE 2 ?_;refine aE 3 ?_;refine aE 4 (hy:=(Or.inl ⟨by rfl,by(intro W A;have aP:=aB A u2;have aQ:=aB A u3;have aS:=aB A u4;go_simp <;> with_reducible rfl)⟩)) ?_;refine aE 5 ?_;refine aE 6 (hy:=(Or.inl ⟨by rfl,by(intro W A;have aP:=aB A z2;have aQ:=aB A z3;have aS:=aB A z4;go_simp <;> with_reducible rfl)⟩)) ?_;refine aV 7 fun a9 az=>?_;go_simp
    go_at_call 180
    refine(ah.o _ (aF j)).mono ?_;rintro be aY ⟨rfl,ar⟩;have ab:Below j.heap.size j aY:=(aF j).trans (ar.mono (aF j).size);clear ar ah;dsimp only;refine az.out _ _ (by(exact ab)) (fun hHeld2=>?_);clear az a9;(try simp only [Act.put,sA,sB,sC]);refine cF (by decide +kernel) ?_;simp only [dL,cW];have a8:=Z (aG ay ab);clear ab u2 u3 u4 z2 z3 z4;go_wp2;go_meet
    case rel=>exact⟨rfl,a8.o⟩
   case rest=>
    obtain ⟨rfl,C⟩:=hcut;clear ah u2 u3 u4 z2 z3 z4 ay q
    go_upto_region 5 with fail
    go_cut [57] from 24 to 57 (fun aW aZ=>aW = .bool (!nL op I)/\aZ=wc)
    case first=>
     rcases (show I = -1\/I=0\/I=1 from by have:=aK.o;omega) with rfl | rfl | rfl
     ·by_cases g:op=17
      ·subst g;have f:=Z (show nL 17 (-1)=true from by decide);go_wp2;go_meet
       case rel=>exact⟨by rw [f.o];rfl,rfl⟩
      ·have au:(op != 17)=true:=by simpa using g
       have av:decide (op=17)=false:=aR g;by_cases i:op=18
       ·subst i;have f:=Z (show nL 18 (-1)=true from by decide);go_wp2;go_meet
        case rel=>exact⟨by rw [f.o];rfl,rfl⟩
       ·have aw:(op != 18)=true:=by simpa using i
        have ax:decide (op=18)=false:=aR i;have f:=Z (show nL op (-1)=false from by unfold nL;simp [g,i]);go_wp2;go_meet
        case rel=>exact⟨by rw [f.o];rfl,rfl⟩
     ·by_cases g:op=17
      ·subst g;have f:=Z (show nL 17 (0)=true from by decide);go_wp2;go_meet
       case rel=>exact⟨by rw [f.o];rfl,rfl⟩
      ·have au:(op != 17)=true:=by simpa using g
       have av:decide (op=17)=false:=aR g;by_cases i:op=19
       ·subst i;have f:=Z (show nL 19 (0)=true from by decide);go_wp2;go_meet
        case rel=>exact⟨by rw [f.o];rfl,rfl⟩
       ·have aw:(op != 19)=true:=by simpa using i
        have ax:decide (op=19)=false:=aR i;have f:=Z (show nL op (0)=false from by unfold nL;simp [g,i]);go_wp2;go_meet
        case rel=>exact⟨by rw [f.o];rfl,rfl⟩
     ·by_cases g:op=19
      ·subst g;have f:=Z (show nL 19 (1)=true from by decide);go_wp2;go_meet
       case rel=>exact⟨by rw [f.o];rfl,rfl⟩
      ·have au:(op != 19)=true:=by simpa using g
       have av:decide (op=19)=false:=aR g;by_cases i:op=20
       ·subst i;have f:=Z (show nL 20 (1)=true from by decide);go_wp2;go_meet
        case rel=>exact⟨by rw [f.o];rfl,rfl⟩
       ·have aw:(op != 20)=true:=by simpa using i
        have ax:decide (op=20)=false:=aR i;have f:=Z (show nL op (1)=false from by unfold nL;simp [g,i]);go_wp2;go_meet
        case rel=>exact⟨by rw [f.o];rfl,rfl⟩
    case rest=>
     obtain ⟨rfl,rfl⟩:=hcut;cases f:nL op I
     case true=>
      have aJ:=Z (show mN op (l.drop (k+1))=z from by rw [<-U.o,f];rfl);clear U f;go_wp2
      go_roundw
      case rel=>exact⟨k+1,by omega,by go_num,aJ.o,C.o⟩
      case measure=>first | (simp [intOf];done) | (simp [intOf];omega)
     case false=>
      have al:=Z (show false=z from by rw [<-U.o,f];rfl);clear U f;go_wp2;go_ret;exact⟨aI al.o,C.o⟩
end
def jZ (S:Nat->Prop) (w W:World) (k:Nat):Prop:=(k<w.heap.size/\S k)\/fH w.heap.size W k
def tX (op:Int) (a b:cJ):cJ × Int:=if op=13 then rL a b else if op=14 then wQ a b else if op=15 then uH a b else if op=16 then rM a b else(a,0)
def gI (op:Int):cJ->List bS->cJ × Int
 | a,[]=>(a,0)
 | a,v :: l=>if (tX op a v.num).2=0 then gI op (tX op a v.num).1 l else tX op a v.num
def pC (op:Int) (l:List bS):cJ × Int:=if op=14/\l.length=1 then(oG (bI l 0).num,0) else gI op (bI l 0).num (l.drop 1)
def lK (r:cJ):Prop:=r.num.length<=1000000/\r.den.length<=1000000
theorem oM:lK mW:=⟨by decide,by decide⟩
theorem rP (e:Bool) (n d:Nat):lK (fJ e n d).1:=by
 unfold fJ
 split
 ·exact oM
 case isFalse h=>
  unfold aL9 at h;simp only [aG6,lA,not_or] at h;exact⟨by show(wP e n d).num.length<=_;omega,by show(wP e n d).den.length<=_;omega⟩
theorem yA (a b:cJ):lK (rL a b).1:=by
 unfold rL
 split
 ·exact rP _ _ _
 ·exact oM
theorem aDv (a b:cJ):lK (wQ a b).1:=by
 unfold wQ
 split
 ·exact yA _ _
 ·exact oM
theorem tY (a b:cJ):lK (uH a b).1:=by
 unfold uH
 split
 ·exact rP _ _ _
 ·exact oM
theorem aDw (a b:cJ):lK (rM a b).1:=by
 unfold rM
 split
 ·exact rP _ _ _
 ·exact oM
theorem aJ2 {op:Int} {r:cJ} {l:List bS} {k:Nat} (e:k<l.length):gI op r (l.drop k)=if (tX op r (bI l k).num).2=0 then gI op (tX op r (bI l k).num).1 (l.drop (k+1)) else tX op r (bI l k).num:=by
 rw [kY e];have:l[k]=bI l k:=by have:=dV e;rw [cK e] at this;injection this
 rw [this];rfl
section
variable {S S' : Nat -> Prop} {w W W' : World} {r : cJ} {a b : Option Addr} {c d : Nat}
theorem jI.keep (h:jI S W r a c b d) (e:∀k,k<W.heap.size->S k->W'.heap[k]? = W.heap[k]?) (f:W.heap.size<=W'.heap.size):jI S W' r a c b d:=⟨h.num.keep e f,h.nc,h.den.keep e f,h.dc⟩
theorem jI.mono (h:jI S W r a c b d) (e:∀k,k<W.heap.size->S k->S' k):jI S' W r a c b d:=⟨h.num.mono e,h.nc,h.den.mono e,h.dc⟩
theorem jI.below {B:Nat} (h:jI S W r a c b d) (f:Below B W W') (e:W.heap.size<=B):jI S W' r a c b d:=⟨h.num.below f e,h.nc,h.den.below f e,h.dc⟩
theorem jI.old (h:jI S w r a c b d):jI (jZ S w w) w r a c b d:=h.mono fun _ f e=>.inl ⟨f,e⟩
theorem jI.move (h:jI (jZ S w W) W r a c b d) (f:∀k,k<w.heap.size\/dU W k->W'.heap[k]? = W.heap[k]?) (g:W.heap.size<=W'.heap.size):jI (jZ S w W') W' r a c b d:=
 (h.keep (fun k _ e=>f k (e.elim (fun h=>.inl h.1) fun h=>.inr h.1)) g).mono fun k _ e=>e.elim .inl fun h=>.inr ⟨h.1.same (f k (.inr h.1)),h.2⟩
theorem jI.moveBelow {B:Nat} (h:jI (jZ S w W) W r a c b d) (e:Below B W W') (f:W.heap.size<=B) (i:w.heap.size<=W.heap.size):jI (jZ S w W') W' r a c b d:=
 h.move (fun k g=>e.block k (bG (g.elim (fun h=>bG h i) dU.lt) f)) e.size
theorem jI.moveSet {p:Nat} {cs:Array Value} {t:TypeId} (h:jI (jZ S w W) W r a c b d) (e:t≠3) (f:t≠177) (i:W.heap[p]? = some (.cells cs t (0,0))) (o:w.heap.size<=p) (l:List (Nat × Value)):jI (jZ S w (setL p l W)) (setL p l W) r a c b d:=by
 obtain ⟨j,m,_⟩:=dQ e f l W cs i;exact h.move (fun k g=>g.elim (fun h=>eK (by omega) _ _) (j k)) (cD m.symm)
structure pP (S:Nat->Prop) (w W:World) (r:cJ) (a:Option Addr) (c:Nat) (b:Option Addr) (d:Nat):Prop where
 x:W.heap[w.heap.size]? = some (.cells #[.bool r.neg,.slice a r.num.length c,.slice b r.den.length d] 36 (0,0))
 v:jI (jZ S w W) W r a c b d
 b:Below w.heap.size w W
 s:lK r
def aXo (S:Nat->Prop) (r:cJ × Int) (w:World) (e:Ending) (w':World):Prop:=∃a c b d,e = .returned (.tuple #[fA r.1 a c b d,.int .i64 r.2])/\jI (jZ S w w') w' r.1 a c b d/\Below w.heap.size w w'
theorem pP.set {g v1 v2:Value} (e:W.heap[w.heap.size]? = some (.cells #[g,v1,v2] 36 (0,0))) (v:jI (jZ S w W) W r a c b d) (f:Below w.heap.size w W) (s:lK r):pP S w (setL w.heap.size [(0,.bool r.neg),(1,.slice a r.num.length c),(2,.slice b r.den.length d)] W) r a c b d:=
 ⟨(lR _ W _ e).trans rfl,v.moveSet (by decide) (by decide) e aA _,(dQ (by decide) (by decide) _ W _ e).2.2 _ _ aA f,s⟩
theorem pP.o {R:cJ × Int} (h:pP S w W R.1 a c b d) (l:List (Nat × Value)):aXo S R w (.returned (.tuple #[fA R.1 a c b d,.int .i64 R.2])) (setL w.heap.size l W):=
 ⟨a,c,b,d,rfl,h.v.moveSet (by decide) (by decide) h.x aA l,(dQ (by decide) (by decide) l W _ h.x).2.2 _ _ aA h.b⟩
theorem aMx (op:Int) (a:Option Addr) (n c:Nat) (l:List bS) (w:World) (h:bT iZ S w a n l) (bP:1<=n) (b0:n<=c) (cd:n<=1000000) (aV:∀v∈l,eB v) :
  Calls prog 143 #[.int .i64 op,.slice a n c] w fun e w'=>aXo S (pC op l) w e w':=by
 have bs:=Z h;have b9:=Z h.1;have bB:=Z aV;obtain ⟨z,bk⟩:∃z,pC op l=z:=⟨_,rfl⟩;have bl:=Z (show(if op=14/\n=1 then(oG (bI l 0).num,0) else gI op (bI l 0).num (l.drop 1))=z from by rw [<-bk,<-h.1];rfl);rw [bk];have bf:=dV (l:=l) (k:=0) (by rw [h.1];omega);obtain ⟨a9,aI,a8,aC,aE,aD,rfl,bu,aW⟩:=h.valAt bf;have aF:lK (bI l 0).num:=aV _ (fP bf);have bm:w.cell? ⟨a9,aI+2,none⟩=some (.bool (bI l 0).num.neg):=by have:=aW 2 _ rfl;rwa [nW,cU] at this
 have bn:w.cell? ⟨a9,aI+3,none⟩=some (.slice a8 (bI l 0).num.num.length aC):=by have:=aW 3 _ rfl;rwa [nW,cU] at this
 have bo:w.cell? ⟨a9,aI+4,none⟩=some (.slice aE (bI l 0).num.den.length aD):=by have:=aW 4 _ rfl;rwa [nW,cU] at this
 have bv:=Z bu.rat;obtain ⟨m,rfl⟩:∃m,n=m+1:=⟨n - 1,by omega⟩;have aY:=Z (bs.o.fromK (k:=1) (by omega) b0);rw [show iZ.k=6 from rfl,rH] at aY;have be:=Z aY.o.1;have bE:=fun W=>aA4 (a:=some ⟨a9,aI,none⟩) (n:=m+1) (c:=c) (k:=1) (by omega) b0 W
 rw [show((1:Nat):Int)=1 from rfl,rH] at bE;have bC:=Z (show ∀v∈l.drop 1,eB v from fun v aq=>aV v (pV aq));generalize kV (some ⟨a9,aI,none⟩) c 1 6=bN at *;clear bk h aV aW bf bu bB;generalize (bI l 0).num=bJ at *;generalize l.drop 1=ad at *;clear bs b9;obtain ⟨q,t,j⟩:=bJ;dsimp only at *;have aL:=Z (cC w (.cells #[.bool false,.slice none 0 0,.slice none 0 0] 36));have Q:=Z (show Below w.heap.size w (w.alloc (.cells #[.bool false,.slice none 0 0,.slice none 0 0] 36)) from(aO w.heap.size w).alloc aA _);generalize b4:w.alloc (.cells #[.bool false,.slice none 0 0,.slice none 0 0] 36)=w0 at *;replace bm:=aB Q.o bm;replace bn:=aB Q.o bn;replace bo:=aB Q.o bo;obtain ⟨U,V,Y⟩:=gB aL.o;obtain ⟨H,z1,z2⟩:=eH aL.o;have bt:=Z (pP.set (S:=S) (r:=⟨q,t,j⟩) aL.o (bv.o.old.moveBelow Q.o aA aA) Q.o aF);have bF:=Z b4;go_enter func143,ntmps143
 go_upto_region 2 with fail
 have am:Hid (pP S w (((w0.setCell ⟨w.heap.size,0,none⟩ (.bool q)).setCell ⟨w.heap.size,1,none⟩ (.slice a8 t.length aC)).setCell ⟨w.heap.size,2,none⟩ (.slice aE j.length aD)) ⟨q,t,j⟩ a8 aC aE aD):=bt;generalize ((w0.setCell ⟨w.heap.size,0,none⟩ (.bool q)).setCell ⟨w.heap.size,1,none⟩ (.slice a8 t.length aC)).setCell ⟨w.heap.size,2,none⟩ (.slice aE j.length aD)=bM at *;clear bt b4 bF bm bn bo H z1 z2 U V Y aL
 go_cut [18] from 12 to 18 (fun bK wc=>bK = .bool (decide (op=14/\m=0))/\wc=bM)
 case first=>
  by_cases ae:op=14
  ·subst ae;by_cases b1:m=0
   ·subst b1;go_wp2;go_meet
    case rel=>exact⟨rfl,rfl⟩
   ·have ca:((m:Int)+1 == 1)=false:=by simp;omega
    have cb:decide ((m:Int)+1=1)=false:=by simp;omega
    have cc:¬(m:Int)+1=1:=by omega
    have aq:=Z (show decide ((14:Int)=14/\m=0)=false from aR fun h=>b1 h.2);go_wp2;go_meet
    case rel=>exact⟨by rw [aq.o],rfl⟩
  ·have b5:(op == 14)=false:=by simpa using ae
   have b6:decide (op=14)=false:=aR ae;have aq:=Z (show decide (op=14/\m=0)=false from aR fun h=>ae h.1);go_wp2;go_meet
   case rel=>exact⟨by rw [aq.o],rfl⟩
 case rest=>
  obtain ⟨rfl,rfl⟩:=hcut;by_cases ae:op=14/\m=0
  ·obtain ⟨rfl,rfl⟩:=ae;have aq:=Z (show decide ((14:Int)=14/\(0:Nat)=0)=true from rfl);have aX:=Z (show(oG ⟨q,t,j⟩,(0:Int))=z from bl.o);have b3:=Z (am.o.b.size);have b2:=Z (aJv ⟨q,t,j⟩ a8 aE aC aD wc am.o.v aF.1 aF.2);have bA:=Z (show lK (oG ⟨q,t,j⟩) from by unfold oG;split <;> first | exact aF | exact oM);generalize oG ⟨q,t,j⟩=bG at *;obtain ⟨f,g,i⟩:=bG;have H:=E am.o.x 0;have z1:=E am.o.x 1;have z2:=E am.o.x 2;simp only [dW,fF,dS] at H z1 z2
   go_wp2_with fail
   refine b2.o.mono ?_;rintro aP M ⟨C,F,D,G,rfl,af,ag,ah,ai,bd⟩;have y:=(bd.block _ (bH am.o.x).1).trans am.o.x;have bz:jI (jZ S w M) M ⟨f,g,i⟩ C F D G:=⟨af.mono fun k _ h=>.inr ⟨h.1,aH b3.o h.2⟩,ah,ag.mono fun k _ h=>.inr ⟨h.1,aH b3.o h.2⟩,ai⟩;have P:=Z (pP.set y bz (am.o.b.trans (bd.mono am.o.b.size)) bA.o);have U:=aQ y 0;have V:=aQ y 1;have Y:=aQ y 2;replace H:=E y 0;replace z1:=E y 1;replace z2:=E y 2;simp only [dW,fF,dS] at H z1 z2;clear y bz af ag ah ai bd b2 am;go_wp2;refine bodyPost_ret (v:=.tuple #[fA ⟨f,g,i⟩ C F D G,.int .i64 0]) (by simp [results,results143,go_sem, *]) rfl ?_;rw [<-aX.o];exact pP.o (R:=(⟨f,g,i⟩,0)) P.o []
  ·have aq:=Z (show decide (op=14/\m=0)=false from aR ae);rw [aq.o];have aX:=Z (show gI op ⟨q,t,j⟩ ad=z from by rw [<-bl.o,if_neg (fun h=>ae ⟨h.1,by omega⟩)]);clear bl aq ae;go_wp2
   go_loopw [24,5] (fun bp bL wr=>∃(k:Nat) (r:cJ) (au:Option Addr) (c3:Nat) (aw:Option Addr) (av:Nat),k<=m/\bp = .int .i64 k/\bL = .int .i64 0/\Hid (gI op r (ad.drop k)=z)/\Hid (pP S w wr r au c3 aw av)) (fun bp _ _=>m - (intOf bp).toNat)
   case atStart=>exact⟨0,_,_,_,_,_,aN,rfl,rfl,by show gI op _ (ad.drop 0)=z;rw [cW];exact aX.o,am⟩
   case round=>
    obtain ⟨k,r,ay,c1,a0,az,bY,rfl,rfl,bc,ak⟩:=hrel;clear am aX aF bv;obtain ⟨q,t,j⟩:=r;have ax:=ak.o.s;have aZ:=Z ak.o.v;have aK:=Z ak.o.b;have H:=E ak.o.x 0;have z1:=E ak.o.x 1;have z2:=E ak.o.x 2;simp only [dW,fF,dS] at H z1 z2;by_cases bZ:k<m
    case neg=>
     obtain rfl:k=m:=by omega
     have b8:¬(k:Int)<k:=by omega
     have aq:=Z (show((⟨q,t,j⟩:cJ),(0:Int))=z from by rw [<-bc.o,pU (by rw [be.o];exact aA)];rfl);have U:=aQ ak.o.x 0;have V:=aQ ak.o.x 1;have Y:=aQ ak.o.x 2;go_wp2;refine bodyPost_ret (v:=.tuple #[fA ⟨q,t,j⟩ ay c1 a0 az,.int .i64 0]) (by simp [results,results143,go_sem, *]) rfl ?_;rw [<-aq.o];exact pP.o (R:=(⟨q,t,j⟩,0)) ak.o [(0,.bool q),(1,.slice ay t.length c1),(2,.slice a0 j.length az)]
    case pos=>
     have b8:(k:Int)<m:=by omega
     have bi:=dV (l:=ad) (k:=k) (by rw [be.o];omega);have a3:=bC.o _ (fP bi);have ar:=Z ((aJ2 (op:=op) (r:=⟨q,t,j⟩) (l:=ad) (k:=k) (by rw [be.o];omega)).symm.trans bc.o);obtain ⟨bO,ce,au,c3,aw,av,rfl,bw,a4⟩:=(aY.o.below aK.o aA).valAt bi;have y0:=a4 0 _ rfl;have y1:=a4 1 _ rfl;have y2:=a4 2 _ rfl;have y3:=a4 3 _ rfl;have y4:=a4 4 _ rfl;have y5:=a4 5 _ rfl;rw [cU] at y0;have bx:=Z bw.rat;clear bi a4 bc bw;generalize bI ad k=x at *;obtain ⟨s,ba,⟨J,K,I⟩,bb⟩:=x;dsimp only at *;have Q:=Z ((aO wr.heap.size wr).alloc aA (.cells #[.int .i64 s,.bool ba,.bool J,.slice au K.length c3,.slice aw I.length av,.int .i64 bb] 64));have aM:=Z (cC wr (.cells #[.int .i64 s,.bool ba,.bool J,.slice au K.length c3,.slice aw I.length av,.int .i64 bb] 64));have aJ:=Z ((Q.o.block _ (bH ak.o.x).1).trans ak.o.x)
     go_upto_region 7 with fail
     generalize (wr.alloc (.cells #[.int .i64 s,.bool ba,.bool J,.slice au K.length c3,.slice aw I.length av,.int .i64 bb] 64))=N at *;have a1:=Z (fun W (ab:Below N.heap.size N W)=>(aZ.o.below Q.o aA).below ab aA);have a2:=Z (fun W (ab:Below N.heap.size N W)=>(bx.o.below Q.o aA).below ab aA);have u2:=E aM.o 2;have u3:=E aM.o 3;have u4:=E aM.o 4;simp only [dW,fF,dS] at u2 u3 u4;replace H:=aB Q.o H;replace z1:=aB Q.o z1;replace z2:=aB Q.o z2;have aj:=Z (aG aK Q.o);have a7:=Z (show pP S w N ⟨q,t,j⟩ ay c1 a0 az from⟨aJ.o,aZ.o.moveBelow Q.o aA aK.o.size,aj.o,ax⟩);clear y0 y1 y2 y3 y4 y5 aM ak aZ bx aK Q;by_cases aS:op=13
     case pos=>
      subst aS;have al:=Z (show(if (rL ⟨q,t,j⟩ ⟨J,K,I⟩).2=0 then gI 13 (rL ⟨q,t,j⟩ ⟨J,K,I⟩).1 (ad.drop (k+1)) else rL ⟨q,t,j⟩ ⟨J,K,I⟩)=z from ar.o);have ap:=Z (yA ⟨q,t,j⟩ ⟨J,K,I⟩);have ao:=Z (fun W (ab:Below N.heap.size N W)=>aJu ⟨q,t,j⟩ ⟨J,K,I⟩ ay a0 au aw c1 az c3 av W (a1.o W ab) (a2.o W ab) ax.1 ax.2 a3.1 a3.2);generalize rL ⟨q,t,j⟩ ⟨J,K,I⟩=a6 at *;obtain ⟨⟨f,g,i⟩,er⟩:=a6;clear ar
      go_wp2_with fail
      refine(ao.o N (aO _ _)).mono ?_;rintro aP M ⟨bq,rfl,C,F,D,G,a5,af,ag,ah,ai,O⟩;cases a5;have an:=Z (show jI (jZ S w M) M ⟨f,g,i⟩ C F D G from⟨af.mono fun k _ h=>.inr ⟨h.1,aH aj.o.size h.2⟩,ah,ag.mono fun k _ h=>.inr ⟨h.1,aH aj.o.size h.2⟩,ai⟩);clear af ag ah ai ao;dsimp only;have y:=bD O aJ.o;have P:=Z (pP.set y an.o (aG aj O) ap.o);have U:=aQ y 0;have V:=aQ y 1;have Y:=aQ y 2;replace H:=E y 0;replace z1:=E y 1;replace z2:=E y 2;simp only [dW,fF,dS] at H z1 z2;clear y an O u2 u3 u4 a1 a2 ap a7
      go_upto_region 16 with fail
      have A:Hid (pP S w (((M.setCell ⟨w.heap.size,0,none⟩ (.bool f)).setCell ⟨w.heap.size,1,none⟩ (.slice C g.length F)).setCell ⟨w.heap.size,2,none⟩ (.slice D i.length G)) ⟨f,g,i⟩ C F D G):=P;generalize ((M.setCell ⟨w.heap.size,0,none⟩ (.bool f)).setCell ⟨w.heap.size,1,none⟩ (.slice C g.length F)).setCell ⟨w.heap.size,2,none⟩ (.slice D i.length G)=br at *;clear P H z1 z2 U V Y;have H:=E A.o.x 0;have z1:=E A.o.x 1;have z2:=E A.o.x 2;have U:=aQ A.o.x 0;have V:=aQ A.o.x 1;have Y:=aQ A.o.x 2;simp only [dW,fF,dS] at H z1 z2;by_cases L:er=0
      case pos=>
       subst L;have aa:=Z (show gI 13 ⟨f,g,i⟩ (ad.drop (k+1))=z from al.o);go_wp2
       go_roundw
       case rel=>exact⟨k+1,⟨f,g,i⟩,_,_,_,_,by omega,by go_num,rfl,aa.o,A.o⟩
       case measure=>first | (simp [intOf];done) | (simp [intOf];omega)
      case neg=>
       have bg:(er == 0)=false:=by simpa using L
       have bj:(er != 0)=true:=by simpa using L
       have bh:decide (er=0)=false:=aR L;have aa:=Z (show((⟨f,g,i⟩:cJ),er)=z from by rw [<-al.o];exact(if_neg L).symm);go_wp2;refine bodyPost_ret (v:=.tuple #[fA ⟨f,g,i⟩ C F D G,.int .i64 er]) (by simp [results,results143,go_sem, *]) rfl ?_;rw [<-aa.o];exact pP.o (R:=(⟨f,g,i⟩,er)) A.o [(0,.bool f),(1,.slice C g.length F),(2,.slice D i.length G)]
     case neg=>
      have bQ:(op == 13)=false:=by simpa using aS
      have bR:decide (op=13)=false:=aR aS;by_cases ae:op=14
      case pos=>
       subst ae;have al:=Z (show(if (wQ ⟨q,t,j⟩ ⟨J,K,I⟩).2=0 then gI 14 (wQ ⟨q,t,j⟩ ⟨J,K,I⟩).1 (ad.drop (k+1)) else wQ ⟨q,t,j⟩ ⟨J,K,I⟩)=z from ar.o);have ap:=Z (aDv ⟨q,t,j⟩ ⟨J,K,I⟩);have ao:=Z (fun W (ab:Below N.heap.size N W)=>aPy ⟨q,t,j⟩ ⟨J,K,I⟩ ay a0 au aw c1 az c3 av W (a1.o W ab) (a2.o W ab) ax.1 ax.2 a3.1 a3.2);generalize wQ ⟨q,t,j⟩ ⟨J,K,I⟩=a6 at *;obtain ⟨⟨f,g,i⟩,er⟩:=a6;clear ar
       go_wp2_with fail
       refine(ao.o N (aO _ _)).mono ?_;rintro aP M ⟨bq,rfl,C,F,D,G,a5,af,ag,ah,ai,O⟩;cases a5;have an:=Z (show jI (jZ S w M) M ⟨f,g,i⟩ C F D G from⟨af.mono fun k _ h=>.inr ⟨h.1,aH aj.o.size h.2⟩,ah,ag.mono fun k _ h=>.inr ⟨h.1,aH aj.o.size h.2⟩,ai⟩);clear af ag ah ai ao;dsimp only;have y:=bD O aJ.o;have P:=Z (pP.set y an.o (aG aj O) ap.o);have U:=aQ y 0;have V:=aQ y 1;have Y:=aQ y 2;replace H:=E y 0;replace z1:=E y 1;replace z2:=E y 2;simp only [dW,fF,dS] at H z1 z2;clear y an O u2 u3 u4 a1 a2 ap a7
       go_upto_region 16 with fail
       have A:Hid (pP S w (((M.setCell ⟨w.heap.size,0,none⟩ (.bool f)).setCell ⟨w.heap.size,1,none⟩ (.slice C g.length F)).setCell ⟨w.heap.size,2,none⟩ (.slice D i.length G)) ⟨f,g,i⟩ C F D G):=P;generalize ((M.setCell ⟨w.heap.size,0,none⟩ (.bool f)).setCell ⟨w.heap.size,1,none⟩ (.slice C g.length F)).setCell ⟨w.heap.size,2,none⟩ (.slice D i.length G)=br at *;clear P H z1 z2 U V Y;have H:=E A.o.x 0;have z1:=E A.o.x 1;have z2:=E A.o.x 2;have U:=aQ A.o.x 0;have V:=aQ A.o.x 1;have Y:=aQ A.o.x 2;simp only [dW,fF,dS] at H z1 z2;by_cases L:er=0
       case pos=>
        subst L;have aa:=Z (show gI 14 ⟨f,g,i⟩ (ad.drop (k+1))=z from al.o);go_wp2
        go_roundw
        case rel=>exact⟨k+1,⟨f,g,i⟩,_,_,_,_,by omega,by go_num,rfl,aa.o,A.o⟩
        case measure=>first | (simp [intOf];done) | (simp [intOf];omega)
       case neg=>
        have bg:(er == 0)=false:=by simpa using L
        have bj:(er != 0)=true:=by simpa using L
        have bh:decide (er=0)=false:=aR L;have aa:=Z (show((⟨f,g,i⟩:cJ),er)=z from by rw [<-al.o];exact(if_neg L).symm);go_wp2;refine bodyPost_ret (v:=.tuple #[fA ⟨f,g,i⟩ C F D G,.int .i64 er]) (by simp [results,results143,go_sem, *]) rfl ?_;rw [<-aa.o];exact pP.o (R:=(⟨f,g,i⟩,er)) A.o [(0,.bool f),(1,.slice C g.length F),(2,.slice D i.length G)]
      case neg=>
       have b5:(op == 14)=false:=by simpa using ae
       have b6:decide (op=14)=false:=aR ae;by_cases aT:op=15
       case pos=>
        subst aT;have al:=Z (show(if (uH ⟨q,t,j⟩ ⟨J,K,I⟩).2=0 then gI 15 (uH ⟨q,t,j⟩ ⟨J,K,I⟩).1 (ad.drop (k+1)) else uH ⟨q,t,j⟩ ⟨J,K,I⟩)=z from ar.o);have ap:=Z (tY ⟨q,t,j⟩ ⟨J,K,I⟩);have ao:=Z (fun W (ab:Below N.heap.size N W)=>aSf ⟨q,t,j⟩ ⟨J,K,I⟩ ay a0 au aw c1 az c3 av W (a1.o W ab) (a2.o W ab) ax.1 ax.2 a3.1 a3.2);generalize uH ⟨q,t,j⟩ ⟨J,K,I⟩=a6 at *;obtain ⟨⟨f,g,i⟩,er⟩:=a6;clear ar
        go_wp2_with fail
        refine(ao.o N (aO _ _)).mono ?_;rintro aP M ⟨bq,rfl,C,F,D,G,a5,af,ag,ah,ai,O⟩;cases a5;have an:=Z (show jI (jZ S w M) M ⟨f,g,i⟩ C F D G from⟨af.mono fun k _ h=>.inr ⟨h.1,aH aj.o.size h.2⟩,ah,ag.mono fun k _ h=>.inr ⟨h.1,aH aj.o.size h.2⟩,ai⟩);clear af ag ah ai ao;dsimp only;have y:=bD O aJ.o;have P:=Z (pP.set y an.o (aG aj O) ap.o);have U:=aQ y 0;have V:=aQ y 1;have Y:=aQ y 2;replace H:=E y 0;replace z1:=E y 1;replace z2:=E y 2;simp only [dW,fF,dS] at H z1 z2;clear y an O u2 u3 u4 a1 a2 ap a7
        go_upto_region 16 with fail
        have A:Hid (pP S w (((M.setCell ⟨w.heap.size,0,none⟩ (.bool f)).setCell ⟨w.heap.size,1,none⟩ (.slice C g.length F)).setCell ⟨w.heap.size,2,none⟩ (.slice D i.length G)) ⟨f,g,i⟩ C F D G):=P;generalize ((M.setCell ⟨w.heap.size,0,none⟩ (.bool f)).setCell ⟨w.heap.size,1,none⟩ (.slice C g.length F)).setCell ⟨w.heap.size,2,none⟩ (.slice D i.length G)=br at *;clear P H z1 z2 U V Y;have H:=E A.o.x 0;have z1:=E A.o.x 1;have z2:=E A.o.x 2;have U:=aQ A.o.x 0;have V:=aQ A.o.x 1;have Y:=aQ A.o.x 2;simp only [dW,fF,dS] at H z1 z2;by_cases L:er=0
        case pos=>
         subst L;have aa:=Z (show gI 15 ⟨f,g,i⟩ (ad.drop (k+1))=z from al.o);go_wp2
         go_roundw
         case rel=>exact⟨k+1,⟨f,g,i⟩,_,_,_,_,by omega,by go_num,rfl,aa.o,A.o⟩
         case measure=>first | (simp [intOf];done) | (simp [intOf];omega)
        case neg=>
         have bg:(er == 0)=false:=by simpa using L
         have bj:(er != 0)=true:=by simpa using L
         have bh:decide (er=0)=false:=aR L;have aa:=Z (show((⟨f,g,i⟩:cJ),er)=z from by rw [<-al.o];exact(if_neg L).symm);go_wp2;refine bodyPost_ret (v:=.tuple #[fA ⟨f,g,i⟩ C F D G,.int .i64 er]) (by simp [results,results143,go_sem, *]) rfl ?_;rw [<-aa.o];exact pP.o (R:=(⟨f,g,i⟩,er)) A.o [(0,.bool f),(1,.slice C g.length F),(2,.slice D i.length G)]
       case neg=>
        have bU:(op == 15)=false:=by simpa using aT
        have bV:decide (op=15)=false:=aR aT;by_cases aU:op=16
        case pos=>
         subst aU;have al:=Z (show(if (rM ⟨q,t,j⟩ ⟨J,K,I⟩).2=0 then gI 16 (rM ⟨q,t,j⟩ ⟨J,K,I⟩).1 (ad.drop (k+1)) else rM ⟨q,t,j⟩ ⟨J,K,I⟩)=z from ar.o);have ap:=Z (aDw ⟨q,t,j⟩ ⟨J,K,I⟩);have ao:=Z (fun W (ab:Below N.heap.size N W)=>aSg ⟨q,t,j⟩ ⟨J,K,I⟩ ay a0 au aw c1 az c3 av W (a1.o W ab) (a2.o W ab) ax.1 ax.2 a3.1 a3.2);generalize rM ⟨q,t,j⟩ ⟨J,K,I⟩=a6 at *;obtain ⟨⟨f,g,i⟩,er⟩:=a6;clear ar
         go_wp2_with fail
         refine(ao.o N (aO _ _)).mono ?_;rintro aP M ⟨bq,rfl,C,F,D,G,a5,af,ag,ah,ai,O⟩;cases a5;have an:=Z (show jI (jZ S w M) M ⟨f,g,i⟩ C F D G from⟨af.mono fun k _ h=>.inr ⟨h.1,aH aj.o.size h.2⟩,ah,ag.mono fun k _ h=>.inr ⟨h.1,aH aj.o.size h.2⟩,ai⟩);clear af ag ah ai ao;dsimp only;have y:=bD O aJ.o;have P:=Z (pP.set y an.o (aG aj O) ap.o);have U:=aQ y 0;have V:=aQ y 1;have Y:=aQ y 2;replace H:=E y 0;replace z1:=E y 1;replace z2:=E y 2;simp only [dW,fF,dS] at H z1 z2;clear y an O u2 u3 u4 a1 a2 ap a7
         go_upto_region 16 with fail
         have A:Hid (pP S w (((M.setCell ⟨w.heap.size,0,none⟩ (.bool f)).setCell ⟨w.heap.size,1,none⟩ (.slice C g.length F)).setCell ⟨w.heap.size,2,none⟩ (.slice D i.length G)) ⟨f,g,i⟩ C F D G):=P;generalize ((M.setCell ⟨w.heap.size,0,none⟩ (.bool f)).setCell ⟨w.heap.size,1,none⟩ (.slice C g.length F)).setCell ⟨w.heap.size,2,none⟩ (.slice D i.length G)=br at *;clear P H z1 z2 U V Y;have H:=E A.o.x 0;have z1:=E A.o.x 1;have z2:=E A.o.x 2;have U:=aQ A.o.x 0;have V:=aQ A.o.x 1;have Y:=aQ A.o.x 2;simp only [dW,fF,dS] at H z1 z2;by_cases L:er=0
         case pos=>
          subst L;have aa:=Z (show gI 16 ⟨f,g,i⟩ (ad.drop (k+1))=z from al.o);go_wp2
          go_roundw
          case rel=>exact⟨k+1,⟨f,g,i⟩,_,_,_,_,by omega,by go_num,rfl,aa.o,A.o⟩
          case measure=>first | (simp [intOf];done) | (simp [intOf];omega)
         case neg=>
          have bg:(er == 0)=false:=by simpa using L
          have bj:(er != 0)=true:=by simpa using L
          have bh:decide (er=0)=false:=aR L;have aa:=Z (show((⟨f,g,i⟩:cJ),er)=z from by rw [<-al.o];exact(if_neg L).symm);go_wp2;refine bodyPost_ret (v:=.tuple #[fA ⟨f,g,i⟩ C F D G,.int .i64 er]) (by simp [results,results143,go_sem, *]) rfl ?_;rw [<-aa.o];exact pP.o (R:=(⟨f,g,i⟩,er)) A.o [(0,.bool f),(1,.slice C g.length F),(2,.slice D i.length G)]
        case neg=>
         have bW:(op == 16)=false:=by simpa using aU
         have bX:decide (op=16)=false:=aR aU;have b7:tX op ⟨q,t,j⟩ ⟨J,K,I⟩=(⟨q,t,j⟩,0):=by unfold tX;rw [if_neg aS,if_neg ae,if_neg aT,if_neg aU]
         rw [b7] at ar;have al:=Z (show gI op ⟨q,t,j⟩ (ad.drop (k+1))=z from ar.o);have P:=Z (show pP S w N ⟨q,t,j⟩ ay c1 a0 az from a7.o);go_wp2
         go_roundw
         case rel=>exact⟨k+1,⟨q,t,j⟩,_,_,_,_,by omega,by go_num,rfl,al.o,P.o⟩
         case measure=>first | (simp [intOf];done) | (simp [intOf];omega)
end
theorem aF3:∀(l m:List bS),l.length≠m.length->sI l m=false
 | [],[],h=>absurd rfl h
 | [],_ :: _,_=>rfl
 | _ :: _,[],_=>rfl
 |
  _ :: l,_ :: m,h=>by
  show(jJ _ _ && sI l m)=false;rw [aF3 l m (fun e=>h (by simp only [fQ,e])),zE]
theorem aMy {l m:List bS} {k:Nat} (e:k<l.length) (f:k<m.length):sI (l.drop k) (m.drop k)=(jJ (bI l k) (bI m k) && sI (l.drop (k+1)) (m.drop (k+1))):=by
 rw [kY e,kY f];have g:l[k]=bI l k:=by have:=dV e;rw [cK e] at this;injection this
 have h:m[k]=bI m k:=by have:=dV f;rw [cK f] at this;injection this
 rw [g,h];rfl
section
variable {S S' : Nat -> Prop}
theorem aJ3 (a b:Option Addr) (n c m d:Nat) (l f:List bS) (w:World) (h:bT iZ S w a n l) (k:bT iZ S' w b m f) (aT:n<=1000000) (aS:m<=1000000) (ax:∀v∈l,eB v) :
  Calls prog 93 #[.slice a n c,.slice b m d,.func (.func 43) #[] #[]] w fun e w'=>e = .returned (.bool (sI l f))/\Below w.heap.size w w':=by
 have a2:=Z h;have a3:=Z k;have ab:=Z h.1;have aa:=Z k.1;have aE:=Z ax;obtain ⟨z,ah⟩:∃z,sI l f=z:=⟨_,rfl⟩;have a0:=Z ah;rw [ah];clear ah h k ax;by_cases aw:n=m
 case neg=>
  have G:=Z (show false=z from by rw [<-a0.o];exact(aF3 l f (by rw [ab.o,aa.o];exact aw)).symm);have ag:¬(n:Int)=m:=by omega
  have aU:((n:Int) != m)=true:=by simpa using ag
  have aV:((n:Int) == m)=false:=by simpa using ag
  have aW:decide ((n:Int)=m)=false:=aR ag;go_enter func93,ntmps93
  go_wp2;go_ret;exact⟨aI G.o,aO _ _⟩
 case pos=>
  subst aw;go_enter func93,ntmps93
  go_wp2
  go_loopw [17] (fun an wr=>∃k:Nat,k<=n/\an = .int .i64 k/\Hid (sI (l.drop k) (f.drop k)=z)/\Hid (Below w.heap.size w wr)) (fun an _=>n - (intOf an).toNat)
  case atStart=>exact⟨0,aN,rfl,by show sI (l.drop 0) (f.drop 0)=z;rw [cW,cW];exact a0.o,aO _ _⟩
  case round=>
   obtain ⟨k,aP,rfl,ae,Y⟩:=hrel;obtain ⟨q,rfl⟩:∃q,q=wr:=⟨_,rfl⟩;by_cases aQ:k<n
   case neg=>
    obtain rfl:k=n:=by omega
    have aD:¬(k:Int)<k:=by omega
    have G:=Z (show true=z from by rw [<-ae.o,pU (by rw [ab.o];exact aA),pU (by rw [aa.o];exact aA)];rfl);go_wp2;go_ret;exact⟨aI G.o,Y.o⟩
   case pos=>
    have aD:(k:Int)<n:=by omega
    have af:=dV (l:=l) (k:=k) (by rw [ab.o];omega);have av:=dV (l:=f) (k:=k) (by rw [aa.o];omega);have az:=Z (aE.o _ (fP af));have au:=Z (show(jJ (bI l k) (bI f k) && sI (l.drop (k+1)) (f.drop (k+1)))=z from by rw [<-aMy (by rw [ab.o];omega) (by rw [aa.o];omega)];exact ae.o);obtain ⟨aL,aX,M,c3,U,P,rfl,ap,i⟩:=(a2.o.below Y.o aA).valAt af;obtain ⟨aM,aY,N,c4,V,Q,rfl,aq,j⟩:=(a3.o.below Y.o aA).valAt av;have y0:=i 0 _ rfl;have y1:=i 1 _ rfl;have y2:=i 2 _ rfl;have y3:=i 3 _ rfl;have y4:=i 4 _ rfl;have y5:=i 5 _ rfl;rw [cU] at y0;have ad:=j 0 _ rfl;have ai:=j 1 _ rfl;have aj:=j 2 _ rfl;have ak:=j 3 _ rfl;have al:=j 4 _ rfl;have am:=j 5 _ rfl;rw [cU] at ad;have a4:=Z ap;have a5:=Z aq;clear af av i j ae ap aq;generalize bI l k=x at *;generalize bI f k=y at *;obtain ⟨s,A,⟨K,L,D⟩,E⟩:=x;obtain ⟨t,C,⟨I,J,H⟩,F⟩:=y;dsimp only at *;have g:=Z ((aO q.heap.size q).alloc aA (.cells #[.int .i64 s,.bool A,.bool K,.slice M L.length c3,.slice U D.length P,.int .i64 E] 64));have a9:=Z (aG Y g.o);have a6:=Z (cC q (.cells #[.int .i64 s,.bool A,.bool K,.slice M L.length c3,.slice U D.length P,.int .i64 E] 64))
    go_upto_region 6 with fail
    generalize (q.alloc (.cells #[.int .i64 s,.bool A,.bool K,.slice M L.length c3,.slice U D.length P,.int .i64 E] 64))=wr at *;replace ad:=aB g.o ad;replace ai:=aB g.o ai;replace aj:=aB g.o aj;replace ak:=aB g.o ak;replace al:=aB g.o al;replace am:=aB g.o am;have O:=Z ((aO wr.heap.size wr).alloc aA (.cells #[.int .i64 t,.bool C,.bool I,.slice N J.length c4,.slice V H.length Q,.int .i64 F] 64));have a1:=Z (aG a9 O.o);have a8:=Z (cC wr (.cells #[.int .i64 t,.bool C,.bool I,.slice N J.length c4,.slice V H.length Q,.int .i64 F] 64));have a7:=Z (bD O.o a6.o);have ay:=Z (aF2 ⟨s,A,⟨K,L,D⟩,E⟩ ⟨t,C,⟨I,J,H⟩,F⟩ M U N V c3 P c4 Q _ ((a4.o.below g.o aA).below O.o aA) ((a5.o.below g.o aA).below O.o aA) az.o.1 az.o.2)
    go_upto_region 7 with fail
    generalize (wr.alloc (.cells #[.int .i64 t,.bool C,.bool I,.slice N J.length c4,.slice V H.length Q,.int .i64 F] 64))=aZ at *;clear y0 y1 y2 y3 y4 y5 ad ai aj ak al am;obtain ⟨u0,u1,u2,u3,u4,u5⟩:=gC a7.o;obtain ⟨aH,v1,v2,v3,aJ,aK⟩:=gC a8.o;generalize jJ ⟨s,A,⟨K,L,D⟩,E⟩ ⟨t,C,⟨I,J,H⟩,F⟩=aF at *
    go_wp2_with fail
    refine ay.o.mono ?_;rintro e ba ⟨rfl,ar⟩;have ao:=Z (aG a1 ar);clear ar ay u0 u1 u2 u3 u4 u5 aH v1 v2 v3 aJ aK;cases aF
    case true=>
     have aC:=Z (show sI (l.drop (k+1)) (f.drop (k+1))=z from by rw [<-au.o];rfl);go_wp2
     go_roundw
     case rel=>exact⟨k+1,by omega,by go_num,aC.o,ao.o⟩
     case measure=>first | (simp [intOf];done) | (simp [intOf];omega)
    case false=>
     have G:=Z (show false=z from by rw [<-au.o];rfl);go_wp2;go_ret;exact⟨aI G.o,ao.o⟩
end
def aP2 (r:qH) (g:Option Addr) (e:Nat) (a:Option Addr) (c:Nat) (b:Option Addr) (d:Nat):List Value:=.slice g r.args.length e :: aA2 r.val a c b d
structure aH0 (S:Nat->Prop) (w:World) (r:qH) (g:Option Addr) (e:Nat) (a:Option Addr) (c:Nat) (b:Option Addr) (d:Nat):Prop where
 args:bT iZ S w g r.args.length r.args
 ac:r.args.length<=e/\e<=maxLen
 val:gA S w r.val a c b d
def tbC (t:TbD) (ra:Option Addr) (rc:Nat) (a:Option Addr) (c:Nat) (b:Option Addr) (d:Nat):List Value:=.string t.name :: .slice ra t.rows.length rc :: aA2 t.els a c b d
abbrev tbV (t:TbD) (ra:Option Addr) (rc:Nat) (a:Option Addr) (c:Nat) (b:Option Addr) (d:Nat):Value:=.agg #[.string t.name,.slice ra t.rows.length rc,.int .i64 t.els.sort,.bool t.els.bool,.bool t.els.num.neg,.slice a t.els.num.num.length c,.slice b t.els.num.den.length d,.int .i64 t.els.el]
structure TbS (S:Nat->Prop) (w:World) (t:TbD) (ra:Option Addr) (rc:Nat) (a:Option Addr) (c:Nat) (b:Option Addr) (d:Nat):Prop where
 rows:bT gQ S w ra t.rows.length t.rows
 rcc:t.rows.length<=rc/\rc<=maxLen
 els:gA S w t.els a c b d
def aDx (r:qH):Prop:=(∀v∈r.args,eB v)/\eB r.val/\r.args.length<=1000000
def vC (t:TbD):Prop:=(∀r∈t.rows,aDx r)/\eB t.els/\t.rows.length<=1000000
def rowAt (l:List qH) (k:Nat):qH:=l.getD k ⟨[],eZ⟩
theorem aDy {l:List qH} {k:Nat} (h:k<l.length):l[k]? = some (rowAt l k):=by unfold rowAt;rw [iW,cK h];rfl
theorem aJ4 {nm:ByteArray} {r:qH} {l:List qH} {v:bS} {args:List bS}:jE ⟨nm,r :: l,v⟩ args=if rowIs args r=true then r.val else jE ⟨nm,l,v⟩ args:=by
 unfold jE;dsimp only;rw [yZ];cases rowIs args r <;> rfl
theorem aJ5 {nm:ByteArray} {l:List qH} {k:Nat} {v:bS} {args:List bS} (h:k<l.length):jE ⟨nm,l.drop k,v⟩ args=if rowIs args (rowAt l k)=true then(rowAt l k).val else jE ⟨nm,l.drop (k+1),v⟩ args:=by
 rw [kY h,aJ4];have e:l[k]=rowAt l k:=by have:=aDy h;rw [cK h] at this;injection this
 rw [e]
section
variable {S S' : Nat -> Prop} {w w' : World}
theorem wD {r:qH} {cs:List Value}:gQ.rd S w r cs↔∃g e a c b d,cs=aP2 r g e a c b d/\aH0 S w r g e a c b d:=by
 constructor
 ·rintro ⟨p,q,rfl,⟨g,n,e,rfl,i,j,f⟩,k⟩;obtain ⟨a,c,b,d,rfl,l⟩:=qZ.1 k;obtain rfl:=f.1;exact⟨g,e,a,c,b,d,rfl,f,⟨i,j⟩,l⟩
 ·rintro ⟨g,e,a,c,b,d,rfl,h⟩;exact⟨[.slice g r.args.length e],_,rfl,⟨g,_,e,rfl,h.ac.1,h.ac.2,h.args⟩,qZ.2 ⟨a,c,b,d,rfl,h.val⟩⟩
theorem aJ6 {t:TbD} {cs:List Value}:vB.rd S w t cs↔∃g e a c b d,cs=tbC t g e a c b d/\TbS S w t g e a c b d:=by
 constructor
 ·rintro ⟨p,q,rfl,f,o,s,rfl,⟨g,n,e,rfl,j,k,i⟩,l⟩;obtain ⟨a,c,b,d,rfl,m⟩:=qZ.1 l;have f:p = [.string t.name]:=f;subst f;obtain rfl:=i.1;exact⟨g,e,a,c,b,d,rfl,i,⟨j,k⟩,m⟩
 ·rintro ⟨g,e,a,c,b,d,rfl,h⟩;exact⟨[.string t.name],_,rfl,rfl,[.slice g t.rows.length e],_,rfl,⟨g,_,e,rfl,h.rcc.1,h.rcc.2,h.rows⟩,qZ.2 ⟨a,c,b,d,rfl,h.els⟩⟩
theorem bT.rowAt {a:Option Addr} {n k:Nat} {xs:List qH} {x:qH} (h:bT gQ S w a n xs) (y:xs[k]? = some x) :
  ∃b o g e f l j m,a=some ⟨b,o,none⟩/\aH0 S w x g e f l j m/\∀i u,(aP2 x g e f l j m)[i]? = some u->w.cell? ⟨b,o+k * 7+i,none⟩=some u:=by
 obtain ⟨b,o,cs,q,_,t,s⟩:=h.at y;obtain ⟨g,e,f,l,j,m,rfl,v⟩:=wD.1 t;exact⟨b,o,g,e,f,l,j,m,q,v,s⟩
theorem bT.tbAt {a:Option Addr} {n k:Nat} {xs:List TbD} {x:TbD} (h:bT vB S w a n xs) (y:xs[k]? = some x) :
  ∃b o g e f l j m,a=some ⟨b,o,none⟩/\TbS S w x g e f l j m/\∀i u,(tbC x g e f l j m)[i]? = some u->w.cell? ⟨b,o+k * 8+i,none⟩=some u:=by
 obtain ⟨b,o,cs,q,_,t,s⟩:=h.at y;obtain ⟨g,e,f,l,j,m,rfl,v⟩:=aJ6.1 t;exact⟨b,o,g,e,f,l,j,m,q,v,s⟩
theorem aMz (t:TbD) (N:Option Addr) (O:Nat) (a:Option Addr) (c:Nat) (b:Option Addr) (d:Nat) (g:Option Addr) (n f:Nat) (args:List bS) (w:World) (h:TbS S w t N O a c b d) (k:bT iZ S' w g n args) (ap:vC t) (bc:n<=1000000) :
  Calls prog 38 #[tbV t N O a c b d,.slice g n f] w fun e w'=>aJx (jE t args) w e w':=by
 obtain ⟨z,a0⟩:∃z,jE t args=z:=⟨_,rfl⟩;have aJ:=Z a0;rw [a0];have a6:=Z h;have aM:=Z k;have bd:=Z ap.1;have aI:=Z ap.2.1;have bm:=ap.2.2;obtain ⟨nm,i,⟨s,j,⟨q,y,l⟩,m⟩⟩:=t;dsimp only at *;clear a0 h k ap;have aP:=Z (eV w (.cells #[.string nm,.slice N i.length O,.int .i64 s,.bool j,.bool q,.slice a y.length c,.slice b l.length d,.int .i64 m] 67) (.cells #[.int .i64 0,.bool false,.bool false,.slice none 0 0,.slice none 0 0,.int .i64 0] 64));have a3:=fI w (.cells #[.string nm,.slice N i.length O,.int .i64 s,.bool j,.bool q,.slice a y.length c,.slice b l.length d,.int .i64 m] 67) (.cells #[.int .i64 0,.bool false,.bool false,.slice none 0 0,.slice none 0 0,.int .i64 0] 64);have aC:=Z (cV w (.cells #[.string nm,.slice N i.length O,.int .i64 s,.bool j,.bool q,.slice a y.length c,.slice b l.length d,.int .i64 m] 67) (.cells #[.int .i64 0,.bool false,.bool false,.slice none 0 0,.slice none 0 0,.int .i64 0] 64));have aQ:=Z a3;generalize be:(w.alloc (.cells #[.string nm,.slice N i.length O,.int .i64 s,.bool j,.bool q,.slice a y.length c,.slice b l.length d,.int .i64 m] 67)).alloc (.cells #[.int .i64 0,.bool false,.bool false,.slice none 0 0,.slice none 0 0,.int .i64 0] 64)=w0 at *;have bl:=Z aC.o.size;have bo:w0.cell? ⟨w.heap.size,1,none⟩=some (.slice N i.length O):=E a3 1;clear a3;go_enter func38,ntmps38
 go_wp2;clear be
 go_loopw [10] (fun a1 wr=>∃k:Nat,k<=i.length/\a1 = .int .i64 k/\Hid (jE ⟨nm,i.drop k,⟨s,j,⟨q,y,l⟩,m⟩⟩ args=z)/\Hid (Below w0.heap.size w0 wr)) (fun a1 _=>i.length - (intOf a1).toNat)
 case atStart=>exact⟨0,aN,rfl,by show jE ⟨nm,i.drop 0,_⟩ args=z;rw [cW];exact aJ.o,aO _ _⟩
 case round=>
  obtain ⟨k,bk,rfl,aw,am⟩:=hrel;clear aJ;have U:=Z (aG aC am.o);have aB:=Z (bD am.o aP.o);have P:=Z (bD am.o aQ.o);by_cases aF:k<i.length
  case neg=>
   have bb:¬(k:Int)<i.length:=by omega
   have az:=Z (show(⟨s,j,⟨q,y,l⟩,m⟩:bS)=z from by rw [<-aw.o,pU (by omega)];rfl);have y2:=E P.o 2;have y3:=E P.o 3;have y4:=E P.o 4;have y5:=E P.o 5;have ag:=E P.o 6;have bh:=E P.o 7;simp only [dW,fF,dS] at y2 y3 y4 y5 ag bh;have af:=Z (sJ ⟨s,j,⟨q,y,l⟩,m⟩ a b c d wr (a6.o.els.below U.o aA) aI.o.1 aI.o.2)
   go_wp2_with fail
   refine af.o.mono ?_;rintro aT a2 ⟨Y,ad,aa,ae,rfl,V,M⟩;have ar:=Z (aG U M);have I:=bD M aB.o;have au:=Z (V.mono (S':=fH w.heap.size a2) fun k _ h=>⟨h.1,aH U.o.size h.2⟩);have av:=Z I;obtain ⟨bi,z1,z2,z3,z4,z5⟩:=gC I;obtain ⟨aU,aV,aW,aX,aY,aZ⟩:=jC I;clear I V M af;go_wp2;refine bodyPost_ret (v:=oK ⟨s,j,⟨q,y,l⟩,m⟩ Y ad aa ae) (by simp [results,results38,go_sem, *]) rfl ?_;rw [<-az.o];exact aJx.set (v:=⟨s,j,⟨q,y,l⟩,m⟩) (by decide) (by decide) av.o (by omega) au.o ar.o [(0,.int .i64 s),(1,.bool j),(2,.bool q),(3,.slice Y y.length ad),(4,.slice aa l.length ae),(5,.int .i64 m)]
  case pos=>
   have bb:(k:Int)<i.length:=by omega
   have ax:=aDy aF;have ao:=Z (bd.o _ (fP ax));have aD:=Z (show(if rowIs args (rowAt i k)=true then(rowAt i k).val else jE ⟨nm,i.drop (k+1),⟨s,j,⟨q,y,l⟩,m⟩⟩ args)=z from(aJ5 aF).symm.trans aw.o);obtain ⟨bj,bn,al,ak,ah,c3,ai,aj,rfl,a7,K⟩:=(a6.o.rows.below U.o aA).rowAt ax;have y0:=K 0 _ rfl;have y1:=K 1 _ rfl;have y2:=K 2 _ rfl;have y3:=K 3 _ rfl;have y4:=K 4 _ rfl;have y5:=K 5 _ rfl;have ag:=K 6 _ rfl;rw [cU] at y0;have a8:=Z a7;clear ax K aw a7;generalize rowAt i k=x at *;obtain ⟨Q,⟨H,A,⟨F,G,D⟩,C⟩⟩:=x;dsimp only at *;have ab:=Z ((aO wr.heap.size wr).alloc aA (.cells #[.slice al Q.length ak,.int .i64 H,.bool A,.bool F,.slice ah G.length c3,.slice ai D.length aj,.int .i64 C] 80));have a9:=Z (cC wr (.cells #[.slice al Q.length ak,.int .i64 H,.bool A,.bool F,.slice ah G.length c3,.slice ai D.length aj,.int .i64 C] 80))
   go_upto_region 4 with fail
   generalize (wr.alloc (.cells #[.slice al Q.length ak,.int .i64 H,.bool A,.bool F,.slice ah G.length c3,.slice ai D.length aj,.int .i64 C] 80))=bf at *;have a4:=Z (aG U ab.o);have aK:=Z (aG am ab.o);have aR:=Z (bD ab.o aB.o);clear y0 y1 y2 y3 y4 y5 ag;have u0:=E a9.o 0;simp only [dW,dS] at u0;have an:=Z (aJ3 al g Q.length ak n f Q args bf (a8.o.args.below ab.o aA) (aM.o.below a4.o aA) ao.o.2.2 bc ao.o.1);obtain ⟨aq,ay⟩:∃aq,sI Q args=aq:=⟨_,rfl⟩;have aE:=Z (show(if aq=true then(⟨H,A,⟨F,G,D⟩,C⟩:bS) else jE ⟨nm,i.drop (k+1),⟨s,j,⟨q,y,l⟩,m⟩⟩ args)=z from by rw [<-ay];exact aD.o);rw [ay] at an;clear ay aD
   go_wp2_with fail
   refine an.o.mono ?_;rintro e bg ⟨rfl,L⟩;have aL:=Z (aG aK L);have a5:=Z (aG a4 L);have aS:=Z (bD L aR.o);have J:=bD L a9.o;cases aq
   case false=>
    have ba:=Z (show jE ⟨nm,i.drop (k+1),⟨s,j,⟨q,y,l⟩,m⟩⟩ args=z from aE.o);clear L an u0 J;go_wp2
    go_roundw
    case rel=>exact⟨k+1,by omega,by go_num,ba.o,aL.o⟩
    case measure=>first | (simp [intOf];done) | (simp [intOf];omega)
   case true=>
    have az:=Z (show(⟨H,A,⟨F,G,D⟩,C⟩:bS)=z from aE.o);have y1:=E J 1;have y2:=E J 2;have y3:=E J 3;have y4:=E J 4;have y5:=E J 5;have ag:=E J 6;simp only [dW,fF,dS] at y1 y2 y3 y4 y5 ag;have af:=Z (sJ ⟨H,A,⟨F,G,D⟩,C⟩ ah ai c3 aj bg ((a8.o.val.below ab.o aA).below L aA) ao.o.2.1.1 ao.o.2.1.2);clear L an u0 J
    go_wp2_with fail
    refine af.o.mono ?_;rintro aT a2 ⟨Y,ad,aa,ae,rfl,V,M⟩;have ar:=Z (aG a5 M);have I:=bD M aS.o;have au:=Z (V.mono (S':=fH w.heap.size a2) fun k _ h=>⟨h.1,aH a5.o.size h.2⟩);have av:=Z I;obtain ⟨bi,z1,z2,z3,z4,z5⟩:=gC I;obtain ⟨aU,aV,aW,aX,aY,aZ⟩:=jC I;clear I V M af;go_wp2;refine bodyPost_ret (v:=oK ⟨H,A,⟨F,G,D⟩,C⟩ Y ad aa ae) (by simp [results,results38,go_sem, *]) rfl ?_;rw [<-az.o];exact aJx.set (v:=⟨H,A,⟨F,G,D⟩,C⟩) (by decide) (by decide) av.o (by omega) au.o ar.o [(0,.int .i64 H),(1,.bool A),(2,.bool F),(3,.slice Y G.length ad),(4,.slice aa D.length ae),(5,.int .i64 C)]
end
theorem vD {k:Nat}:∀ {css:List (List Value)} (_:∀cs∈css,cs.length=k),css.flatten.length=css.length * k
 | [],_=>by simp
 |
  c :: css,hl=>by
  rw [yV,dM,vD (fun cs h=>hl cs (by simp [h])),hl c (by simp),fQ,aCw,oB]
theorem aDz {k:Nat} (f:0<k):∀ {css:List (List Value)} (_:∀cs∈css,cs.length=k) {j:Nat} {u:Value},css.flatten[j]? = some u->∃cs,css[j / k]? = some cs/\cs[j % k]? = some u
 | [],_,j,u,h=>by simp at h
 |
  c :: css,hl,j,u,h=>by
  have l:=hl c (by simp);rw [yV] at h;by_cases e:j<k
  ·rw [mY (by omega)] at h;exact⟨c,by rw [nM e];rfl,by rw [lY e];exact h⟩
  ·rw [oS (by omega),l] at h;obtain ⟨cs,g,i⟩:=aDz f (fun cs h=>hl cs (by simp [h])) h;refine⟨cs,?_,?_⟩
   ·rw [Nat.div_eq_sub_div f (by omega),fF];exact g
   ·rw [Nat.mod_eq_sub_mod (by omega)];exact i
section
variable {α : Type} {R : cH α} {S S' : Nat -> Prop} {w w' : World} {a : Option Addr} {n : Nat} {xs : List α}
theorem bT.src (h:bT R S w a n xs) (E:0<R.k):∃css:List (List Value),Src w R.k a n css.flatten/\css.length=xs.length/\(∀u∈css.flatten,u.oneCell'=true)/\∀(j:Nat) (x:α),xs[j]? = some x->∃cs,css[j]? = some cs/\R.rd S w x cs:=by
 rcases gD n with rfl | F
 ·have m:xs = []:=jR h.1;subst m;exact⟨[],Src.nothing,rfl,by simp,fun j x h=>by simp at h⟩
 obtain ⟨b,o,z,_,_,C⟩:=h.2 F;have D:∀j:Fin xs.length,∃cs,R.rd S w xs[j] cs/\∀i u,cs[i]? = some u->w.cell? ⟨b,o+j.1 * R.k+i,none⟩=some u:=fun j=>C j.1 _ (cK j.2)
 obtain ⟨f,s⟩:=Classical.axiomOfChoice D;have A:∀(j:Nat) (x:α) (m:xs[j]? = some x),∃g:j<xs.length,(List.ofFn f)[j]? = some (f ⟨j,g⟩)/\xs[j]=x:=fun j x m=>by
  have g:=(gK.1 m).1;exact⟨g,by rw [List.getElem?_ofFn,dif_pos g],(gK.1 m).2⟩
 have v:∀cs∈List.ofFn f,cs.length=R.k:=fun cs t=>by
  obtain ⟨j,rfl⟩:=List.mem_ofFn.1 t;exact R.len (s j).1
 refine⟨List.ofFn f,⟨?_,fun _=>⟨_,z,fun j u q=>?_⟩⟩,by simp,fun u q=>?_,fun j x m=>?_⟩
 ·rw [vD v,List.length_ofFn,h.1]
 ·obtain ⟨cs,l,y⟩:=aDz E v q;have g:j / R.k<xs.length:=by
   have:=(gK.1 l).1
   rwa [List.length_ofFn] at this
  rw [List.getElem?_ofFn,dif_pos g] at l;injection l with l
  subst l;have:=(s ⟨j / R.k,g⟩).2 _ _ y;rw [lD];have e:o+j / R.k * R.k+j % R.k=o+j:=by rw [nB,aG4]
  rw [<-e];exact this
 ·obtain ⟨cs,t,q⟩:=List.mem_flatten.1 q;obtain ⟨j,rfl⟩:=List.mem_ofFn.1 t;exact R.one (s j).1 u q
 ·obtain ⟨g,l,rfl⟩:=A j x m;exact⟨_,l,(s ⟨j,g⟩).1⟩
theorem cA.ofC {e:TypeId} {v:Value} {css:List (List Value)} (h:aW w' w.heap.size e R.k v n css.flatten) (y:xs.length=n) (s:css.length=xs.length) (t:∀(j:Nat) (x:α),xs[j]? = some x->∃cs,css[j]? = some cs/\R.rd S w x cs) (g:Below w.heap.size w w'):cA R (fun q=>q<w.heap.size/\S q) w' w.heap.size e v xs:=by
 subst y;refine⟨css,h,s,fun j x o=>?_⟩;obtain ⟨cs,i,l⟩:=t j x o;exact⟨cs,i,R.keep (R.mono l fun b f m=>(⟨f,m⟩:b<w.heap.size/\S b)) (fun b f _=>g.block b f) g.size⟩
theorem cA.set {base g c j:Nat} {e:TypeId} {x:α} {cs:List Value} {cur o:Array Value} (v:0<R.k) (h:cA R S w base e (.slice (some ⟨g,0,none⟩) n c) xs) (aa:w.heap[g]? = some (.cells cur e (0,0))) (F:j<n) (J:R.rd S w' x cs) (Q:∀b,S b->b≠g)
  (U:w'.heap[g]? = some (.cells o e (0,0))) (ao:o.size=cur.size) (ad:∀i u,cs[i]? = some u->o[j * R.k+i]? = some u) (ag:∀q,q<j * R.k\/(j+1) * R.k<=q->o[q]? = cur[q]?)
  (af:∀k,k≠g->w'.heap[k]? = w.heap[k]?) (ai:w.heap.size<=w'.heap.size):cA R S w' base e (.slice (some ⟨g,0,none⟩) n c) (xs.set j x):=by
 obtain ⟨css,⟨am,M⟩,l,D⟩:=h;rcases M with ⟨C,_⟩ | ⟨ak,aj,K,C,N,s,O,P,an,L⟩
 ·cases C
 cases C;rw [aa] at s;obtain ⟨rfl⟩:cur=K:=by injection s with s;injection s
 have G:=cA.lens l D;have Y:=R.len J;have t:∀ds∈css.set j cs,ds.length=R.k:=fun ds Z=>by
  rcases List.mem_or_eq_of_mem_set Z with h | rfl
  ·exact G _ h
  ·exact Y
 refine⟨css.set j cs,⟨by rw [vD t,nN,nN,l],.inr ⟨g,c,o,by rw [nN],N,U,by rw [nN];exact O,P,by omega,?_⟩⟩,by rw [nN,nN,l],fun i y hy=>?_⟩
 ·rw [nN];refine List.ext_getElem? fun q=>?_
  by_cases z:q<xs.length * R.k
  ·rw [sS z,vI];have I:q<(css.set j cs).flatten.length:=by rw [vD t,nN,l];exact z
   obtain ⟨ds,f,m⟩:=aDz v t (cK I);rw [cK I,<-m];by_cases A:q / R.k=j
   ·have ae:j<css.length:=by rw [l,<-A];exact vK (by rwa [dK])
    rw [A,aCf ae] at f;injection f with f
    subst f;have e:q=j * R.k+q % R.k:=by rw [<-A,aG4]
    have H:=ad (q % R.k) _ m;rw [<-e] at H;rw [H,m]
   ·rw [List.getElem?_set_ne (by omega)] at f;have ah:q<j * R.k\/(j+1) * R.k<=q:=by
     rcases nZ q (j * R.k) with h | h
     ·exact .inl h
     ·right
      have al:j<=q / R.k:=(xI v).2 h;exact(xI v).1 (by omega)
    rw [ag q ah];have E:(cur.toList.take (xs.length * R.k))[q]? = ds[q % R.k]?:=by
     rw [L];have:=tM G f m;rw [aG4] at this;rw [this,m]
    rw [sS z,vI] at E;exact E
  ·rw [vJ (by rw [eS];omega),vJ (by rw [vD t,nN,l];omega)]
 ·by_cases ab:i=j
  ·subst ab;rw [aCf F] at hy;injection hy with hy
   subst hy;exact⟨cs,aCf (by rw [l];exact F),J⟩
  ·rw [List.getElem?_set_ne (by omega)] at hy ⊢;obtain ⟨ds,f,m⟩:=D i y hy;exact⟨ds,f,R.keep m (fun b _ V=>af b (Q b V)) ai⟩
theorem aM0:(Tryz.prog.info? 64).map (fun i=>(i.zero,i.size,i.bytes))=some (some (.agg #[.int .i64 0,.bool false,.bool false,.slice none 0 0,.slice none 0 0,.int .i64 0]),6,80):=by kernel_rfl
theorem aM1 (a:Option Addr) (n c:Nat) (xs:List bS) (w:World) (g:bT iZ S w a n xs) (V:n<=1000000) :
  Calls prog 187 #[.slice a n c] w fun e w'=>∃i f,e = .returned (.slice i n f)/\cA iZ (fun q=>q<w.heap.size/\S q) w' w.heap.size 64 (.slice i n f) xs/\Below w.heap.size w w':=by
 have D:=Z g.1;obtain ⟨Y,G,O,P,Q⟩:=info_parts aM0;have aa:∀(w:World) (a:Option Addr) (n c l f:Nat),(binOp .eql 78 (.slice a n c) (.slice none l f)).run prog w = .ok (.bool a.isNone) w:=fun w a n c l f=>aGq w _ _ a n c l f underlying78
 cases a with
 |
  none=>
  have m:n=0:=by
   rcases gD n with h | h
   ·exact h
   ·obtain ⟨b,o,E,_⟩:=g.2 h;cases E
  have N:xs = []:=jR (by rw [D.o,m]);subst m N;clear g;go_enter func187,ntmps187
  go_wp2;go_ret;exact⟨none,0,rfl,cA.nil _ _ _ _ _,aO _ _⟩
 |
  some a=>
  obtain ⟨css,C,x,z,A⟩:=g.src (show 0<iZ.k from by decide);have M:=Z C;have K:=Z z;have L:=Z A;have F:=Z x;clear g C z A x;go_enter func187,ntmps187
  go_wp2_with (at_builtin;refine cI (base:=w.heap.size) (v:=.slice (some ⟨w.heap.size,0,none⟩) 0 0) rfl _ _ rfl underlying78 G O P Q rfl (by decide) rfl rfl (aW.lit0 rfl aA) (M.o.keep (bJ)) ?c1 ?c2 ?c3 ?c4 ?_)
  case c1=>exact K.o
  case c2=>unfold maxLen;omega
  case c3=>omega
  case c4=>simp
  intro v' U j y I;have t:=Z (((aO w.heap.size w).alloc aA (.cells #[] 64)).grown y (by simp) (by intro k H;simp [Value.ownBlock] at H;omega));have J:=Z (cA.ofC (S:=S) (w:=w) (R:=iZ) (w':=U) (by first | exact j | (have s:=j;simp only [dT,iE] at s;exact s)) D.o F.o L.o t.o);obtain ⟨i,f,rfl,_⟩:=j.slice;clear j y I;go_wp2;go_ret;exact⟨i,f,by simp,by simpa using J.o,t.o⟩
theorem aJ7:(Tryz.prog.info? 80).map (fun i=>(i.zero,i.size,i.bytes))=some (some (.agg #[.slice none 0 0,.int .i64 0,.bool false,.bool false,.slice none 0 0,.slice none 0 0,.int .i64 0]),7,104):=by kernel_rfl
theorem aH2 (a:Option Addr) (n c:Nat) (xs:List qH) (w:World) (g:bT gQ S w a n xs) (V:n<=1000000) :
  Calls prog 150 #[.slice a n c] w fun e w'=>∃i f,e = .returned (.slice i n f)/\cA gQ (fun q=>q<w.heap.size/\S q) w' w.heap.size 80 (.slice i n f) xs/\Below w.heap.size w w':=by
 have D:=Z g.1;obtain ⟨Y,G,O,P,Q⟩:=info_parts aJ7;have aa:∀(w:World) (a:Option Addr) (n c l f:Nat),(binOp .eql 65 (.slice a n c) (.slice none l f)).run prog w = .ok (.bool a.isNone) w:=fun w a n c l f=>aGq w _ _ a n c l f underlying65
 cases a with
 |
  none=>
  have m:n=0:=by
   rcases gD n with h | h
   ·exact h
   ·obtain ⟨b,o,E,_⟩:=g.2 h;cases E
  have N:xs = []:=jR (by rw [D.o,m]);subst m N;clear g;go_enter func150,ntmps150
  go_wp2;go_ret;exact⟨none,0,rfl,cA.nil _ _ _ _ _,aO _ _⟩
 |
  some a=>
  obtain ⟨css,C,x,z,A⟩:=g.src (show 0<gQ.k from by decide);have M:=Z C;have K:=Z z;have L:=Z A;have F:=Z x;clear g C z A x;go_enter func150,ntmps150
  go_wp2_with (at_builtin;refine cI (base:=w.heap.size) (v:=.slice (some ⟨w.heap.size,0,none⟩) 0 0) rfl _ _ rfl underlying65 G O P Q rfl (by decide) rfl rfl (aW.lit0 rfl aA) (M.o.keep (bJ)) ?c1 ?c2 ?c3 ?c4 ?_)
  case c1=>exact K.o
  case c2=>unfold maxLen;omega
  case c3=>omega
  case c4=>simp
  intro v' U j y I;have t:=Z (((aO w.heap.size w).alloc aA (.cells #[] 80)).grown y (by simp) (by intro k H;simp [Value.ownBlock] at H;omega));have J:=Z (cA.ofC (S:=S) (w:=w) (R:=gQ) (w':=U) (by first | exact j | (have s:=j;simp only [dT,iE] at s;exact s)) D.o F.o L.o t.o);obtain ⟨i,f,rfl,_⟩:=j.slice;clear j y I;go_wp2;go_ret;exact⟨i,f,by simp,by simpa using J.o,t.o⟩
end
theorem cA.form {α:Type} {R:cH α} {S:Nat->Prop} {w:World} {base:Nat} {e:TypeId} {v:Value} {xs:List α} (h:cA R S w base e v xs) (A:0<xs.length):∃g f cur,v = .slice (some ⟨g,0,none⟩) xs.length f/\base<=g/\w.heap[g]? = some (.cells cur e (0,0))/\xs.length * R.k<=cur.size:=by
 obtain ⟨css,⟨t,i⟩,x,y⟩:=h;rcases i with ⟨_,s⟩ | ⟨g,f,cur,q,j,m,o,z,l,_⟩
 ·omega
 ·exact⟨g,f,cur,q,j,m,aH (kF _ o) l⟩
theorem aYm {cur:Array Value} {o:Nat} (h:o+6<=cur.size) (e v1 v2 v3 f g:Value) :
  (((((((cur.setIfInBounds o e).setIfInBounds (o+1) v1).setIfInBounds (o+2) v2).setIfInBounds (o+3) v3).setIfInBounds (o+4) f).setIfInBounds (o+5) g).size=cur.size)/\(∀i u,[e,v1,v2,v3,f,g][i]? = some u->(((((((cur.setIfInBounds o e).setIfInBounds (o+1) v1).setIfInBounds (o+2) v2).setIfInBounds (o+3) v3).setIfInBounds (o+4) f).setIfInBounds (o+5) g)[o+i]? = some u)) /\
  ∀q,q<o\/o+6<=q->((((((cur.setIfInBounds o e).setIfInBounds (o+1) v1).setIfInBounds (o+2) v2).setIfInBounds (o+3) v3).setIfInBounds (o+4) f).setIfInBounds (o+5) g)[q]? = cur[q]?:=by
 refine⟨by simp,fun i u j=>?_,fun q l=>?_⟩
 ·have k:i<6:=by have:=(gK.1 j).1;simpa using this
  match i,k with
  |
   0,_ | 1,_ | 2,_ | 3,_ | 4,_ | 5,_=>
   simp only [fF,dS] at j;simp only [xH,yL]
   repeat first | rw [if_pos trivial] | rw [if_neg (by omega)] | rw [if_pos (by omega)]
   exact j
 ·simp only [xH,yL]
  repeat rw [if_neg (by omega)]
section
variable {S S' : Nat -> Prop} {w W W' : World}
theorem cA.moveOld {α:Type} {R:cH α} {base:Nat} {e:TypeId} {v:Value} {xs:List α} (h:cA R (jZ S w W) W base e v xs) (f:Below W.heap.size W W'):cA R (jZ S w W') W' base e v xs:=
 (h.below f aA).mono fun k _ g=>g.elim .inl fun h=>.inr ⟨h.1.same (f.block k h.1.lt),h.2⟩
theorem aM2 {p o:Nat} {t:TypeId} {cs:Array Value} (W:World) (h:W.heap[p]? = some (.cells cs t (0,0))) (e v1 v2 v3 f g:Value):(setL p [(o,e),(o+1,v1),(o+2,v2),(o+3,v3),(o+4,f),(o+5,g)] W).heap[p]? = some (.cells ((((((cs.setIfInBounds o e).setIfInBounds (o+1) v1).setIfInBounds (o+2) v2).setIfInBounds (o+3) v3).setIfInBounds (o+4) f).setIfInBounds (o+5) g) t (0,0)):=by
 rw [lR _ W cs h];simp only [tD,pJ]
theorem aP3 {g n c k:Nat} {cur m:Array Value} {l:List bS} {v:bS} {a b:Option Addr} {c1 o:Nat} (A:cA iZ (jZ S w W) W w.heap.size 64 (.slice (some ⟨g,0,none⟩) n c) l) (y:W.heap[g]? = some (.cells cur 64 (0,0))) (O:w.heap.size<=g) (G:k<n) (K:l[k]? = some v) (C:gA (fH w.heap.size W) W v a c1 b o)
  (E:W'.heap[g]? = some (.cells m 64 (0,0))) (L:m.size=cur.size) (M:∀i u,(aA2 v a c1 b o)[i]? = some u->m[k * 6+i]? = some u) (N:∀q,q<k * 6\/k * 6+6<=q->m[q]? = cur[q]?) (t:∀q,q≠g->W'.heap[q]? = W.heap[q]?) (z:W'.heap.size=W.heap.size) :
  cA iZ (jZ S w W') W' w.heap.size 64 (.slice (some ⟨g,0,none⟩) n c) l:=by
 have J:l.set k v=l:=by
  obtain ⟨H,rfl⟩:=gK.1 K;exact List.set_getElem_self H
 have s:∀b,dU W b->b≠g:=fun b f e=>by
  subst e;exact dU.ne f (by decide) (by decide) ⟨_,_,y⟩
 have F:∀b,jZ S w W b->b≠g:=fun b f=>by
  rcases f with f | f
  ·omega
  ·exact s b f.1
 have D:gA (jZ S w W) W' v a c1 b o:=(C.keep (fun b _ f=>t b (s b f.1)) (cD z.symm)).mono fun b _ f=>.inr f
 have:=cA.set (R:=iZ) (j:=k) (x:=v) (by decide) A y G (qZ.2 ⟨a,c1,b,o,rfl,D⟩) F E L M (fun q I=>N q (by have:iZ.k=6:=rfl;rw [this] at I;omega)) t (cD z.symm);rw [J] at this;exact this.mono fun b _ f=>f.elim .inl fun h=>.inr ⟨h.1.same (t b (s b h.1)),h.2⟩
theorem aSk {g n c k:Nat} {cur:Array Value} {l:List bS} {v:bS} {a b:Option Addr} {c1 e:Nat} (i:cA iZ (jZ S w W) W w.heap.size 64 (.slice (some ⟨g,0,none⟩) n c) l) (f:W.heap[g]? = some (.cells cur 64 (0,0))) (s:w.heap.size<=g) (t:k<n) (y:l[k]? = some v) (z:(k+1) * 6<=cur.size) (j:gA (fH w.heap.size W) W v a c1 b e) :
  cA iZ (jZ S w (setL g [(k * 6,.int .i64 v.sort),(k * 6+1,.bool v.bool),(k * 6+2,.bool v.num.neg),(k * 6+3,.slice a v.num.num.length c1),(k * 6+4,.slice b v.num.den.length e),(k * 6+5,.int .i64 v.el)] W)) (setL g [(k * 6,.int .i64 v.sort),(k * 6+1,.bool v.bool),(k * 6+2,.bool v.num.neg),(k * 6+3,.slice a v.num.num.length c1),(k * 6+4,.slice b v.num.den.length e),(k * 6+5,.int .i64 v.el)] W) w.heap.size 64 (.slice (some ⟨g,0,none⟩) n c) l:=by
 have h:=aYm (cur:=cur) (o:=k * 6) (by omega) (.int .i64 v.sort) (.bool v.bool) (.bool v.num.neg) (.slice a v.num.num.length c1) (.slice b v.num.den.length e) (.int .i64 v.el);have m:=aM2 (p:=g) (o:=k * 6) W f (.int .i64 v.sort) (.bool v.bool) (.bool v.num.neg) (.slice a v.num.num.length c1) (.slice b v.num.den.length e) (.int .i64 v.el);exact aP3 i f s t y j m h.1 h.2.1 h.2.2 (fun q x=>eK (p:=g) (k:=q) x [(k * 6,.int .i64 v.sort),(k * 6+1,.bool v.bool),(k * 6+2,.bool v.num.neg),(k * 6+3,.slice a v.num.num.length c1),(k * 6+4,.slice b v.num.den.length e),(k * 6+5,.int .i64 v.el)] W) (dQ (p:=g) (by decide) (by decide) [(k * 6,.int .i64 v.sort),(k * 6+1,.bool v.bool),(k * 6+2,.bool v.num.neg),(k * 6+3,.slice a v.num.num.length c1),(k * 6+4,.slice b v.num.den.length e),(k * 6+5,.int .i64 v.el)] W cur f).2.1
theorem aP4 (a:Option Addr) (n c:Nat) (l:List bS) (w:World) (h:bT iZ S w a n l) (ax:n<=1000000) (ag:∀v∈l,eB v) :
  Calls prog 151 #[.slice a n c] w fun e w'=>∃m q,e = .returned (.slice m n q)/\cA iZ (jZ S w w') w' w.heap.size 64 (.slice m n q) l/\Below w.heap.size w w':=by
 have C:=Z h.1;have ay:=Z ag;have Y:=Z (aM1 a n c l w h ax);clear ag h;go_enter func151,ntmps151
 go_wp2_with fail
 refine Y.o.mono ?_;rintro e al ⟨m,q,rfl,ak,V⟩;have K:=Z (show cA iZ (jZ S w al) al w.heap.size 64 (.slice m n q) l from ak.mono fun k _ h=>.inl h);have I:=Z V;clear ak V Y;go_wp2
 go_loopw [9,4] (fun G _ wr=>∃k:Nat,k<=n/\G = .int .i64 k/\Hid (cA iZ (jZ S w wr) wr w.heap.size 64 (.slice m n q) l)/\Hid (Below w.heap.size w wr)) (fun G _ _=>n - (intOf G).toNat)
 case atStart=>exact⟨0,aN,rfl,K,I⟩
 case round=>
  obtain ⟨k,a9,rfl,t,B⟩:=hrel;clear K I;by_cases aw:k<n
  case neg=>
   have av:¬(k:Int)<n:=by omega
   go_wp2;go_ret;exact⟨m,q,by simp,t.o,B.o⟩
  case pos=>
   have av:(k:Int)<n:=by omega
   have A:=dV (l:=l) (k:=k) (by rw [C.o];omega);have ah:=Z (ay.o _ (fP A));obtain ⟨g,a1,cur,aj,ae,aa,ai⟩:=t.o.form (by rw [C.o];omega);rw [C.o] at aj;cases aj;obtain ⟨a0,aA,ao,c3,aq,ap,ar,L,j⟩:=(t.o.read (S':=fun _=>True) (fun _ _ _=>trivial) (fun _ _=>trivial)).valAt A;cases ar;have y0:=j 0 _ rfl;have y1:=j 1 _ rfl;have y2:=j 2 _ rfl;have y3:=j 3 _ rfl;have y4:=j 4 _ rfl;have y5:=j 5 _ rfl;simp only [cU,dT] at y0 y1 y2 y3 y4 y5;have au:=Z A;have ab:=Z aa;have az:=Z (show(k+1) * 6<=cur.size from aH (kF 6 (show k+1<=l.length by rw [C.o];omega)) ai);clear j A aa ai;generalize bI l k=v at *;obtain ⟨s,x,⟨D,E,y⟩,z⟩:=v;dsimp only at *;have af:=Z (sJ ⟨s,x,⟨D,E,y⟩,z⟩ ao aq c3 ap wr L ah.o.1 ah.o.2);clear L
   go_wp2_with fail
   refine af.o.mono ?_;rintro a2 H ⟨O,Q,P,U,rfl,M,f⟩;have F:=B.o.size;have ad:=(bH ab.o).1;have i:=(f.block _ ad).trans ab.o;have N:gA (fH w.heap.size H) H ⟨s,x,⟨D,E,y⟩,z⟩ O Q P U:=M.mono fun k _ h=>⟨h.1,aH F h.2⟩
   have J:=B.o.trans (f.mono F);have an:=Z (aSk (v:=⟨s,x,⟨D,E,y⟩,z⟩) (t.o.moveOld f) i ae aw au.o az.o N);have am:=Z ((dQ (by decide) (by decide) [(k * 6,.int .i64 s),(k * 6+1,.bool x),(k * 6+2,.bool D),(k * 6+3,.slice O E.length Q),(k * 6+4,.slice P y.length U),(k * 6+5,.int .i64 z)] H _ i).2.2 _ _ ae J);replace y0:=aB f y0;replace y1:=aB f y1;replace y2:=aB f y2;replace y3:=aB f y3;replace y4:=aB f y4;replace y5:=aB f y5;have a3:=aQ i (k * 6);have a4:=aQ i (k * 6+1);have a5:=aQ i (k * 6+2);have a6:=aQ i (k * 6+3);have a7:=aQ i (k * 6+4);have a8:=aQ i (k * 6+5);clear i M N f af J ad F;go_wp2
   go_roundw
   case rel=>exact⟨k+1,by omega,by go_num,an.o,am.o⟩
   case measure=>first | (simp [intOf];done) | (simp [intOf];omega)
end
def Since (S:Nat->Prop) (w:World) (q:Nat):Prop:=(q<w.heap.size/\S q)\/w.heap.size<=q
theorem wE {p:Nat}:∀(l:List (Nat × Value)) (W:World),(setL p l W).heap.size=W.heap.size
 | [],_=>rfl
 | _ :: l,_=>(wE l _).trans eX
theorem cA.elem {α:Type} {R:cH α} {S:Nat->Prop} {w:World} {base g n c k:Nat} {e:TypeId} {xs:List α} {x:α} (h:cA R S w base e (.slice (some ⟨g,0,none⟩) n c) xs) (s:xs[k]? = some x):∃cs,R.rd S w x cs/\∀i u,cs[i]? = some u->w.cell? ⟨g,k * R.k+i,none⟩=some u:=by
 obtain ⟨css,j,l,f⟩:=h;obtain ⟨cs,m,o⟩:=f k x s;exact⟨cs,o,fun i u q=>j.cells (g:=g) rfl _ u (tM (cA.lens l f) m q)⟩
theorem aYn {cur:Array Value} {o:Nat} (h:o+7<=cur.size) (e v1 v2 v3 f g j:Value) :
  ((((((((cur.setIfInBounds o e).setIfInBounds (o+1) v1).setIfInBounds (o+2) v2).setIfInBounds (o+3) v3).setIfInBounds (o+4) f).setIfInBounds (o+5) g).setIfInBounds (o+6) j).size=cur.size)/\(∀i u,[e,v1,v2,v3,f,g,j][i]? = some u->((((((((cur.setIfInBounds o e).setIfInBounds (o+1) v1).setIfInBounds (o+2) v2).setIfInBounds (o+3) v3).setIfInBounds (o+4) f).setIfInBounds (o+5) g).setIfInBounds (o+6) j)[o+i]? = some u)) /\
  ∀q,q<o\/o+7<=q->(((((((cur.setIfInBounds o e).setIfInBounds (o+1) v1).setIfInBounds (o+2) v2).setIfInBounds (o+3) v3).setIfInBounds (o+4) f).setIfInBounds (o+5) g).setIfInBounds (o+6) j)[q]? = cur[q]?:=by
 refine⟨by simp,fun i u k=>?_,fun q m=>?_⟩
 ·have l:i<7:=by have:=(gK.1 k).1;simpa using this
  match i,l with
  |
   0,_ | 1,_ | 2,_ | 3,_ | 4,_ | 5,_ | 6,_=>
   simp only [fF,dS] at k;simp only [xH,yL]
   repeat first | rw [if_pos trivial] | rw [if_neg (by omega)] | rw [if_pos (by omega)]
   exact k
 ·simp only [xH,yL]
  repeat rw [if_neg (by omega)]
theorem aM3 {p o:Nat} {t:TypeId} {cs:Array Value} (W:World) (i:W.heap[p]? = some (.cells cs t (0,0))) (e v1 v2 v3 f g h:Value):(setL p [(o,e),(o+1,v1),(o+2,v2),(o+3,v3),(o+4,f),(o+5,g),(o+6,h)] W).heap[p]? = some (.cells (((((((cs.setIfInBounds o e).setIfInBounds (o+1) v1).setIfInBounds (o+2) v2).setIfInBounds (o+3) v3).setIfInBounds (o+4) f).setIfInBounds (o+5) g).setIfInBounds (o+6) h) t (0,0)):=by
 rw [lR _ W cs i];simp only [tD,pJ]
section
variable {S S' X : Nat -> Prop} {w W W' : World}
theorem aH0.keep {r:qH} {g:Option Addr} {e:Nat} {a:Option Addr} {c:Nat} {b:Option Addr} {d:Nat} (h:aH0 S W r g e a c b d) (f:∀k,k<W.heap.size->S k->W'.heap[k]? = W.heap[k]?) (i:W.heap.size<=W'.heap.size):aH0 S W' r g e a c b d:=⟨h.args.keep f i,h.ac,h.val.keep f i⟩
theorem aP5 {g n c k base:Nat} {cur f:Array Value} {l:List qH} {r:qH} {m:Option Addr} {e:Nat} {a b:Option Addr} {c1 h:Nat} (y:cA gQ X W base 80 (.slice (some ⟨g,0,none⟩) n c) l) (D:W.heap[g]? = some (.cells cur 80 (0,0))) (s:∀q,X q->q≠g) (E:k<n) (H:l[k]? = some r) (z:aH0 X W r m e a c1 b h)
  (C:W'.heap[g]? = some (.cells f 80 (0,0))) (I:f.size=cur.size) (J:∀i u,(aP2 r m e a c1 b h)[i]? = some u->f[k * 7+i]? = some u) (K:∀q,q<k * 7\/k * 7+7<=q->f[q]? = cur[q]?) (t:∀q,q≠g->W'.heap[q]? = W.heap[q]?) (v:W'.heap.size=W.heap.size) :
  cA gQ X W' base 80 (.slice (some ⟨g,0,none⟩) n c) l:=by
 have G:l.set k r=l:=by
  obtain ⟨F,rfl⟩:=gK.1 H;exact List.set_getElem_self F
 have A:aH0 X W' r m e a c1 b h:=z.keep (fun q _ o=>t q (s q o)) (cD v.symm);have:=cA.set (R:=gQ) (j:=k) (x:=r) (by decide) y D E (wD.2 ⟨m,e,a,c1,b,h,rfl,A⟩) s C I J (fun q o=>K q (by have:gQ.k=7:=rfl;rw [this] at o;omega)) t (cD v.symm)
 rwa [G] at this
theorem aSl {g n c k base:Nat} {cur:Array Value} {l:List qH} {r:qH} {h:Option Addr} {e:Nat} {a b:Option Addr} {c1 f:Nat} (m:cA gQ X W base 80 (.slice (some ⟨g,0,none⟩) n c) l) (j:W.heap[g]? = some (.cells cur 80 (0,0))) (v:∀q,X q->q≠g) (x:k<n) (z:l[k]? = some r) (A:(k+1) * 7<=cur.size) (s:aH0 X W r h e a c1 b f) :
  cA gQ X (setL g [(k * 7,.slice h r.args.length e),(k * 7+1,.int .i64 r.val.sort),(k * 7+2,.bool r.val.bool),(k * 7+3,.bool r.val.num.neg),(k * 7+4,.slice a r.val.num.num.length c1),(k * 7+5,.slice b r.val.num.den.length f),(k * 7+6,.int .i64 r.val.el)] W) base 80 (.slice (some ⟨g,0,none⟩) n c) l:=by
 have i:=aYn (cur:=cur) (o:=k * 7) (by omega) (.slice h r.args.length e) (.int .i64 r.val.sort) (.bool r.val.bool) (.bool r.val.num.neg) (.slice a r.val.num.num.length c1) (.slice b r.val.num.den.length f) (.int .i64 r.val.el);have t:=aM3 (p:=g) (o:=k * 7) W j (.slice h r.args.length e) (.int .i64 r.val.sort) (.bool r.val.bool) (.bool r.val.num.neg) (.slice a r.val.num.num.length c1) (.slice b r.val.num.den.length f) (.int .i64 r.val.el);exact aP5 m j v x z s t i.1 i.2.1 i.2.2 (fun q y=>eK (p:=g) (k:=q) y [(k * 7,.slice h r.args.length e),(k * 7+1,.int .i64 r.val.sort),(k * 7+2,.bool r.val.bool),(k * 7+3,.bool r.val.num.neg),(k * 7+4,.slice a r.val.num.num.length c1),(k * 7+5,.slice b r.val.num.den.length f),(k * 7+6,.int .i64 r.val.el)] W) (wE _ _)
theorem aXp {t:TbD} {p:Nat} {cs:Array Value} {i:Option Addr} {j:Nat} {a b:Option Addr} {c d:Nat} {l:List (Nat × Value)} (v:W.heap[p]? = some (.cells cs 67 (0,0))) (x:w.heap.size<=p) (g:cA gQ X W (p+1) 80 (.slice i t.rows.length j) t.rows) (k:∀q,X q->Since S w q/\q≠p) (o:gA (fH w.heap.size W) W t.els a c b d) (s:Below w.heap.size w W) :
  TbS (Since S w) (setL p l W) t i j a c b d/\Below w.heap.size w (setL p l W):=by
 obtain ⟨y,m,z⟩:=dQ (p:=p) (by decide) (by decide) l W cs v;refine⟨⟨?_,?_,?_⟩,z _ _ x s⟩
 ·refine(g.keep (fun q _ f=>eK (k q f).2 l W) (fun q f=>eK (by have:=(g.lt q f).1;omega) l W) (cD m.symm)).read (fun q _ f=>(k q f).1) (fun q f=>.inr (by have:=(g.lt q f).1;omega))
 ·obtain ⟨_,_,e,h⟩:=g.slice;cases e;exact h
 ·exact(o.keep (fun q _ f=>y q f.1) (cD m.symm)).mono fun q _ f=>.inr f.2
theorem aP6 (t:TbD) (M:Option Addr) (N:Nat) (a:Option Addr) (c:Nat) (b:Option Addr) (d:Nat) (w:World) (h:TbS S w t M N a c b d) (a2:vC t) :
  Calls prog 98 #[tbV t M N a c b d] w fun e w'=>∃b2 b3 A D bi bl,e = .returned (tbV t b2 b3 A D bi bl)/\TbS (Since S w) w' t b2 b3 A D bi bl/\Below w.heap.size w w':=by
 have aX:=Z h;have cb:=Z a2.1;have bz:=Z a2.2.1;have ca:=a2.2.2;obtain ⟨nm,f,⟨s,H,⟨K,L,I⟩,J⟩⟩:=t;dsimp only at *;clear h a2;have b7:=Z (eV w (.cells #[.string nm,.slice M f.length N,.int .i64 s,.bool H,.bool K,.slice a L.length c,.slice b I.length d,.int .i64 J] 67) (.cells #[.string ⟨#[]⟩,.slice none 0 0,.int .i64 0,.bool false,.bool false,.slice none 0 0,.slice none 0 0,.int .i64 0] 67));have aU:=fI w (.cells #[.string nm,.slice M f.length N,.int .i64 s,.bool H,.bool K,.slice a L.length c,.slice b I.length d,.int .i64 J] 67) (.cells #[.string ⟨#[]⟩,.slice none 0 0,.int .i64 0,.bool false,.bool false,.slice none 0 0,.slice none 0 0,.int .i64 0] 67);have bo:=Z (cV w (.cells #[.string nm,.slice M f.length N,.int .i64 s,.bool H,.bool K,.slice a L.length c,.slice b I.length d,.int .i64 J] 67) (.cells #[.string ⟨#[]⟩,.slice none 0 0,.int .i64 0,.bool false,.bool false,.slice none 0 0,.slice none 0 0,.int .i64 0] 67));have b8:=Z aU;have aD:=Z (show((w.alloc (.cells #[.string nm,.slice M f.length N,.int .i64 s,.bool H,.bool K,.slice a L.length c,.slice b I.length d,.int .i64 J] 67)).alloc (.cells #[.string ⟨#[]⟩,.slice none 0 0,.int .i64 0,.bool false,.bool false,.slice none 0 0,.slice none 0 0,.int .i64 0] 67)).heap.size=w.heap.size+1+1 from by simp);generalize cd:(w.alloc (.cells #[.string nm,.slice M f.length N,.int .i64 s,.bool H,.bool K,.slice a L.length c,.slice b I.length d,.int .i64 J] 67)).alloc (.cells #[.string ⟨#[]⟩,.slice none 0 0,.int .i64 0,.bool false,.bool false,.slice none 0 0,.slice none 0 0,.int .i64 0] 67)=w0 at *;have co:w0.cell? ⟨w.heap.size,1,none⟩=some (.slice M f.length N):=E aU 1;have br:=Z (aH2 M f.length N f w0 ((aX.o.rows.mono (S':=fun q=>q<w.heap.size/\S q) fun q i bN=>⟨i,bN⟩).below bo.o aA) ca);clear aU;go_enter func98,ntmps98
 go_wp2_with fail
 clear cd;refine br.o.mono ?_;rintro e ag ⟨A,D,rfl,aI,a9⟩;obtain ⟨X,ay⟩:∃X:Nat->Prop,X=fun q=>(q<w.heap.size/\S q)\/ag.heap.size<=q:=⟨_,rfl⟩
 have am:=Z (show(∀q,X q->(q<w.heap.size/\S q)\/ag.heap.size<=q)/\∀q,ag.heap.size<=q->X q from⟨fun q i=>by rw [ay] at i;exact i,fun q i=>by rw [ay];exact .inr i⟩);have aY:=Z (show cA gQ X ag w0.heap.size 80 (.slice A f.length D) f from aI.mono fun q _ h=>by rw [ay];exact .inl h.2);have aW:=Z a9;have bQ:=Z (show ∀q,X q->Since S w q/\q≠w.heap.size+1 from fun q i=>by
  have ce:=aD.o;have cn:=a9.size;rcases am.o.1 q i with h | h
  ·exact⟨.inl h,by omega⟩
  ·exact⟨.inr (by omega),by omega⟩)
 have bP:=Z (show ∀q g,X q->Value.ownBlock (.slice A f.length D)=some g->q≠g from fun q g i a0=>by
  have ce:=aD.o;have:=aI.lt g a0;rcases am.o.1 q i with h | h <;> omega)
 clear ay aI a9 br;go_wp2
 go_loopw [11,4,5] (fun aT _ _ wr=>∃k:Nat,k<=f.length/\aT = .int .i64 k/\Hid (cA gQ X wr w0.heap.size 80 (.slice A f.length D) f)/\Hid (Below w0.heap.size w0 wr)/\Hid (ag.heap.size<=wr.heap.size)) (fun aT _ _ _=>f.length - (intOf aT).toNat)
 case atStart=>exact⟨0,aN,rfl,aY,aW,aA⟩
 case round=>
  obtain ⟨k,ck,rfl,O,B,bq⟩:=hrel;clear aY aW;have a4:=Z (aG bo B.o);by_cases bt:k<f.length
  case neg=>
   have bT:¬(k:Int)<f.length:=by omega
   have bA:=Z (bD B.o b7.o);have V:=bD B.o b8.o;have aJ:=E V 0;have aK:=E V 2;have aL:=E V 3;have aM:=E V 4;have aP:=E V 5;have aR:=E V 6;have aS:=E V 7;simp only [dW,fF,dS] at aJ aK aL aM aP aR aS;have ao:=Z (fun W (al:Below wr.heap.size wr W)=>sJ ⟨s,H,⟨K,L,I⟩,J⟩ a b c d W ((aX.o.els.below a4.o aA).below al aA) bz.o.1 bz.o.2);have bp:=Z (show cA gQ X wr (w.heap.size+1+1) 80 (.slice A f.length D) f from by rw [<-aD.o];exact O.o);clear O V;obtain ⟨O,bM⟩:∃O:Hid (cA gQ X wr (w.heap.size+1+1) 80 (.slice A f.length D) f),True:=⟨bp,trivial⟩;clear bp bM
   go_upto_region 7 with fail
   refine bF (S:=fun W=>Below wr.heap.size wr W) 6 (by kernel_rfl) (by kernel_rfl) (aF wr) (fun _=>?_);refine aE 0 ?_;refine dF 1 (fun W h=>aB h aJ) ?_;refine aE 2 ?_;refine aE 3 ?_;refine aE 4 (hy:=(Or.inl ⟨by rfl,by(intro W y;have bU:=aB y aK;have bV:=aB y aL;have bW:=aB y aM;have bX:=aB y aP;have bY:=aB y aR;have cm:=aB y aS;go_simp <;> with_reducible rfl)⟩)) ?_;refine aV 5 fun aj Q=>?_;go_simp
   go_at_call 91
   refine(ao.o _ (aF wr)).mono ?_;rintro bn ap ⟨ah,ai,a7,a8,rfl,bf,an⟩;have z:Below wr.heap.size wr ap:=(aF wr).trans (an.mono (aF wr).size);have bg:=Z (bf.mono (S':=fH wr.heap.size ap) fun q _ i=>⟨i.1,aH (aF wr).size i.2⟩);clear bf an ao;dsimp only;refine Q.out _ _ (by(exact z)) (fun hHeld2=>?_);clear Q aj;(try simp only [Act.put,sA,sB,sC]);refine cF (by decide +kernel) ?_;simp only [dL,cW];have j:=bD z bA.o;have b5:=Z (aG a4 z);have bd:=Z (aXp (t:=⟨nm,f,⟨s,H,⟨K,L,I⟩,J⟩⟩) (l:=[(0,.string nm),(1,.slice A f.length D),(2,.int .i64 s),(3,.bool H),(4,.bool K),(5,.slice ah L.length ai),(6,.slice a7 I.length a8),(7,.int .i64 J)]) j (by omega) (O.o.below z aA) bQ.o (bg.o.mono fun q _ i=>⟨i.1,aH a4.o.size i.2⟩) b5.o);have cf:=E j 0;have z1:=E j 1;have z2:=E j 2;have z3:=E j 3;have z4:=E j 4;have z5:=E j 5;have cg:=E j 6;have ch:=E j 7;have bC:=aQ j 0;have bE:=aQ j 1;have bG:=aQ j 2;have bI:=aQ j 3;have bJ:=aQ j 4;have bK:=aQ j 5;have bL:=aQ j 6;have cj:=aQ j 7;simp only [dW,fF,dS] at cf z1 z2 z3 z4 z5 cg ch;clear j bg z aJ aK aL aM aP aR aS;go_wp2;refine bodyPost_ret (v:=tbV ⟨nm,f,⟨s,H,⟨K,L,I⟩,J⟩⟩ A D ah ai a7 a8) (by simp [results,results98,go_sem, *]) rfl ?_;exact⟨A,D,ah,ai,a7,a8,rfl,bd.o.1,bd.o.2⟩
  case pos=>
   have bT:(k:Int)<f.length:=by omega
   have az:=aDy bt;have a1:=Z (cb.o _ (fP az));obtain ⟨g,ci,cur,cc,bS,a0,bx⟩:=O.o.form (by omega);cases cc;obtain ⟨cs,bw,U⟩:=O.o.elem az;obtain ⟨ax,aw,ar,c3,au,av,rfl,bb⟩:=wD.1 bw;have y0:=U 0 _ rfl;have y1:=U 1 _ rfl;have y2:=U 2 _ rfl;have y3:=U 3 _ rfl;have y4:=U 4 _ rfl;have y5:=U 5 _ rfl;have aq:=U 6 _ rfl;simp only [cU,show gQ.k=7 from rfl] at y0 y1 y2 y3 y4 y5 aq;have bR:=Z az;have bs:=Z a0;have bZ:=Z (show(k+1) * 7<=cur.size from aH (kF 7 (show k+1<=f.length by omega)) bx);have bO:=Z (fun q i=>bP.o q g i rfl);have bc:=Z bb;clear U az a0 bx bw bb;generalize rowAt f k=x at *;obtain ⟨P,⟨af,Y,⟨ad,ae,ab⟩,aa⟩⟩:=x;dsimp only at *;have C:=Z ((aO wr.heap.size wr).alloc aA (.cells #[.slice ax P.length aw,.int .i64 af,.bool Y,.bool ad,.slice ar ae.length c3,.slice au ab.length av,.int .i64 aa] 80));have b9:=Z (cC wr (.cells #[.slice ax P.length aw,.int .i64 af,.bool Y,.bool ad,.slice ar ae.length c3,.slice au ab.length av,.int .i64 aa] 80))
   go_upto_region 5 with fail
   generalize (wr.alloc (.cells #[.slice ax P.length aw,.int .i64 af,.bool Y,.bool ad,.slice ar ae.length c3,.slice au ab.length av,.int .i64 aa] 80))=m at *;replace y0:=aB C.o y0;replace y1:=aB C.o y1;replace y2:=aB C.o y2;replace y3:=aB C.o y3;replace y4:=aB C.o y4;replace y5:=aB C.o y5;replace aq:=aB C.o aq;have b1:=Z (aH bq.o C.o.size);obtain ⟨u0,u1,u2,u3,u4,u5,u6⟩:=pT b9.o;have bu:=Z (fun W (al:Below m.heap.size m W)=>aP4 ax P.length aw P W ((bc.o.args.below C.o aA).below al aA) a1.o.2.2 a1.o.1);have ao:=Z (fun W (al:Below m.heap.size m W)=>sJ ⟨af,Y,⟨ad,ae,ab⟩,aa⟩ ar au c3 av W ((bc.o.val.below C.o aA).below al aA) a1.o.2.1.1 a1.o.2.1.2);refine bF (S:=fun W=>Below m.heap.size m W) 9 (by kernel_rfl) (by kernel_rfl) (aF m) (fun _=>?_);refine aE 0 ?_;refine aE 1 ?_;refine aE 2 ?_;refine dF 3 (fun W h=>aB h u0) ?_;refine aE 5 ?_;refine aE 6 (hy:=(Or.inl ⟨by rfl,by(intro W y;have cl:=aB y u1;have bU:=aB y u2;have bV:=aB y u3;have bW:=aB y u4;have bX:=aB y u5;have bY:=aB y u6;go_simp <;> with_reducible rfl)⟩)) ?_;refine aV 4 fun aj Q=>?_;go_simp
   go_at_call 151
   refine(bu.o _ (aF m)).mono ?_;rintro bn ap ⟨ah,ai,rfl,a5,an⟩;have z:Below m.heap.size m ap:=(aF m).trans (an.mono (aF m).size);have b0:=Z (aH b1.o (aF m).size);have a6:=Z (a5.mono (S':=X) fun q _ i=>i.elim (fun h=>h.2) fun h=>am.o.2 q (aH b0.o h.2));have aZ:=Z (fun q i=>am.o.2 q (aH b0.o (a5.lt q i).1));have bv:=Z (ao.o ap z);clear a5 an bu ao;dsimp only;refine Q.out _ _ (by(exact z)) (fun hHeld2=>?_);clear Q aj;refine aV 7 fun aj Q=>?_;go_simp
   go_at_call 91
   refine bv.o.mono ?_;rintro bn a3 ⟨bh,bk,bj,bm,rfl,be,aC⟩;have F:Below m.heap.size m a3:=z.trans (aC.mono z.size);have ba:=Z (show aH0 X a3 ⟨P,⟨af,Y,⟨ad,ae,ab⟩,aa⟩⟩ ah ai bh bk bj bm from⟨(a6.o.below aC aA).read (fun _ _ h=>h) aZ.o,by obtain ⟨_,_,e,h⟩:=a6.o.slice;cases e;exact h,be.mono fun q _ i=>am.o.2 q (aH (aH b1.o z.size) i.2)⟩);clear aC be a6 aZ bv;dsimp only;refine Q.out _ _ (by(exact F)) (fun hHeld3=>?_);clear Q aj;(try simp only [Act.put,sA,sB,sC]);refine aE 8 ?_;refine cF (by decide +kernel) ?_;simp only [dL,cW];have ak:=aG C F;have G:=(ak.block _ (bH bs.o).1).trans bs.o;have b6:=Z (aSl (r:=⟨P,⟨af,Y,⟨ad,ae,ab⟩,aa⟩⟩) (O.o.below ak aA) G bO.o bt bR.o bZ.o ba.o);have b4:=Z ((dQ (by decide) (by decide) [(k * 7,.slice ah P.length ai),(k * 7+1,.int .i64 af),(k * 7+2,.bool Y),(k * 7+3,.bool ad),(k * 7+4,.slice bh ae.length bk),(k * 7+5,.slice bj ab.length bm),(k * 7+6,.int .i64 aa)] a3 _ G).2.2 _ _ bS (aG B ak));have bB:=Z (show ag.heap.size<=a3.heap.size from aH bq.o ak.size);have bC:=aQ G (k * 7);have bE:=aQ G (k * 7+1);have bG:=aQ G (k * 7+2);have bI:=aQ G (k * 7+3);have bJ:=aQ G (k * 7+4);have bK:=aQ G (k * 7+5);have bL:=aQ G (k * 7+6);replace y0:=aB F y0;replace y1:=aB F y1;replace y2:=aB F y2;replace y3:=aB F y3;replace y4:=aB F y4;replace y5:=aB F y5;replace aq:=aB F aq;clear G z F u0 u1 u2 u3 u4 u5 u6 ak ba;go_wp2
   go_roundw
   case rel=>exact⟨k+1,by omega,by go_num,b6.o,b4.o,by show ag.heap.size<=_;(repeat rw [eX]);exact bB.o⟩
   case measure=>first | (simp [intOf];done) | (simp [intOf];omega)
end
def aD0 (l:gL) (k:Nat):TbD:=l.getD k wR
theorem aJ8 {l:gL} {k:Nat} (h:k<l.length):l[k]? = some (aD0 l k):=by unfold aD0;rw [iW,cK h];rfl
theorem aM4 {l:gL} {k:Nat} {nm:ByteArray} (h:k<l.length):jB (l.drop k) nm=if eqS (aD0 l k).name nm=true then some (aD0 l k) else jB (l.drop (k+1)) nm:=by
 unfold jB;rw [kY h,yZ];have e:l[k]=aD0 l k:=by have:=aJ8 h;rw [cK h] at this;injection this
 rw [e];cases eqS (aD0 l k).name nm <;> rfl
structure yB (S:Nat->Prop) (w:World) (m:gL) (ma:Option Addr) (mc:Nat):Prop where
 tbs:bT vB S w ma m.length m
 cap:m.length<=mc/\mc<=maxLen
def mO (m:gL):Prop:=(∀t∈m,vC t)/\m.length<=1000000
def TbP (S:Nat->Prop) (z:Option TbD) (w:World) (e:Ending) (w':World):Prop:=∃ra rc a c b d,e = .returned (.tuple #[tbV (z.getD wR) ra rc a c b d,.bool z.isSome])/\TbS (Since S w) w' (z.getD wR) ra rc a c b d/\Below w.heap.size w w'
section
variable {S S' X : Nat -> Prop} {w W W' : World}
theorem aSm {z:Option TbD} {p:Nat} {cs:Array Value} {g:Option Addr} {h:Nat} {a b:Option Addr} {c d:Nat} {l:List (Nat × Value)} (k:W.heap[p]? = some (.cells cs 67 (0,0))) (m:w.heap.size<=p) (T:TbS X W (z.getD wR) g h a c b d) (f:∀q,X q->Since S w q/\q≠p) (j:Below w.heap.size w W) :
  TbP S z w (.returned (.tuple #[tbV (z.getD wR) g h a c b d,.bool z.isSome])) (setL p l W):=by
 obtain ⟨s,i,o⟩:=dQ (p:=p) (by decide) (by decide) l W cs k;exact⟨g,h,a,c,b,d,rfl,⟨(T.rows.keep (fun q _ e=>eK (f q e).2 l W) (cD i.symm)).mono fun q _ e=>(f q e).1,T.rcc,(T.els.keep (fun q _ e=>eK (f q e).2 l W) (cD i.symm)).mono fun q _ e=>(f q e).1⟩,o _ _ m j⟩
theorem aP7 (f:gL) (H:Option Addr) (I:Nat) (nm:ByteArray) (w:World) (h:yB S w f H I) (ad:mO f) :
  Calls prog 41 #[.agg #[.slice H f.length I],.string nm] w fun e w'=>TbP S (jB f nm) w e w':=by
 obtain ⟨z,af⟩:∃z,jB f nm=z:=⟨_,rfl⟩;have av:=Z af;rw [af];have a3:=Z (h.tbs.mono (S':=fun q=>q<w.heap.size/\S q) fun q ae aK=>⟨ae,aK⟩);have aS:=Z ad.1;have bf:=ad.2;clear af h ad;have a5:=Z (eV w (.cells #[.slice H f.length I] 71) (.cells #[.string ⟨#[]⟩,.slice none 0 0,.int .i64 0,.bool false,.bool false,.slice none 0 0,.slice none 0 0,.int .i64 0] 67));have az:=fI w (.cells #[.slice H f.length I] 71) (.cells #[.string ⟨#[]⟩,.slice none 0 0,.int .i64 0,.bool false,.bool false,.slice none 0 0,.slice none 0 0,.int .i64 0] 67);have aI:=Z (cV w (.cells #[.slice H f.length I] 71) (.cells #[.string ⟨#[]⟩,.slice none 0 0,.int .i64 0,.bool false,.bool false,.slice none 0 0,.slice none 0 0,.int .i64 0] 67));have aW:=Z (show((w.alloc (.cells #[.slice H f.length I] 71)).alloc (.cells #[.string ⟨#[]⟩,.slice none 0 0,.int .i64 0,.bool false,.bool false,.slice none 0 0,.slice none 0 0,.int .i64 0] 67)).heap.size=w.heap.size+1+1 from by simp);generalize aV:(w.alloc (.cells #[.slice H f.length I] 71)).alloc (.cells #[.string ⟨#[]⟩,.slice none 0 0,.int .i64 0,.bool false,.bool false,.slice none 0 0,.slice none 0 0,.int .i64 0] 67)=w0 at *;have bh:w0.cell? ⟨w.heap.size,0,none⟩=some (.slice H f.length I):=E az 0;clear az;go_enter func41,ntmps41
 go_wp2;clear aV
 go_loopw [11,7] (fun ag _ wr=>∃k:Nat,k<=f.length/\ag = .int .i64 k/\Hid (jB (f.drop k) nm=z)/\Hid (Below w0.heap.size w0 wr)) (fun ag _ _=>f.length - (intOf ag).toNat)
 case atStart=>exact⟨0,aN,rfl,by show jB (f.drop 0) nm=z;rw [cW];exact av.o,aO _ _⟩
 case round=>
  obtain ⟨k,be,rfl,V,B⟩:=hrel;clear av;have Q:=Z (aG aI B.o);have g:=Z (bD B.o a5.o);by_cases au:k<f.length
  case neg=>
   have aR:¬(k:Int)<f.length:=by omega
   obtain rfl:none=z:=by rw [<-V.o,pU (by omega)];rfl
   have ah:=E g.o 0;have z1:=E g.o 1;have z2:=E g.o 2;have z3:=E g.o 3;have z4:=E g.o 4;have z5:=E g.o 5;have ai:=E g.o 6;have aj:=E g.o 7;have a8:=aQ g.o 0;have a9:=aQ g.o 1;have aB:=aQ g.o 2;have aC:=aQ g.o 3;have aD:=aQ g.o 4;have aE:=aQ g.o 5;have aF:=aQ g.o 6;have aH:=aQ g.o 7;simp only [dW,fF,dS] at ah z1 z2 z3 z4 z5 ai aj;have aq:TbS (fun _=>False) wr wR none 0 none 0 none 0:=⟨.nil _ _ _ _,⟨aA,aN⟩,⟨(show eI 0 from⟨by decide,by decide⟩),(show eI 0 from⟨by decide,by decide⟩),.nil _ _ _ _,⟨aA,aN⟩,.nil _ _ _ _,⟨aA,aN⟩⟩⟩;have aL:=Z aq;clear aq;go_wp2;refine bodyPost_ret (v:=.tuple #[tbV wR none 0 none 0 none 0,.bool false]) (by simp [results,results41,go_sem,wR,eZ,eA, *];rfl) rfl ?_;exact aSm (z:=none) g.o (by omega) aL.o (fun _ h=>h.elim) Q.o (l:=[(0,.string ⟨#[]⟩),(1,.slice none 0 0),(2,.int .i64 0),(3,.bool false),(4,.bool false),(5,.slice none 0 0),(6,.slice none 0 0),(7,.int .i64 0)])
  case pos=>
   have aR:(k:Int)<f.length:=by omega
   have ab:=aJ8 au;have aT:=Z (aS.o _ (fP ab));have Y:=Z ((aM4 (nm:=nm) au).symm.trans V.o);obtain ⟨aZ,bg,O,N,J,c3,K,M,rfl,ak,A⟩:=(a3.o.below Q.o aA).tbAt ab;have y0:=A 0 _ rfl;have y1:=A 1 _ rfl;have y2:=A 2 _ rfl;have y3:=A 3 _ rfl;have y4:=A 4 _ rfl;have y5:=A 5 _ rfl;have aX:=A 6 _ rfl;have aY:=A 7 _ rfl;rw [cU] at y0;have U:=Z ak;clear ab A V ak;generalize aD0 f k=x at *;obtain ⟨j,F,⟨s,m,⟨C,D,t⟩,y⟩⟩:=x;dsimp only at *;have L:=Z ((aO wr.heap.size wr).alloc aA (.cells #[.string j,.slice O F.length N,.int .i64 s,.bool m,.bool C,.slice J D.length c3,.slice K t.length M,.int .i64 y] 67));have G:=Z (cC wr (.cells #[.string j,.slice O F.length N,.int .i64 s,.bool m,.bool C,.slice J D.length c3,.slice K t.length M,.int .i64 y] 67));have aU:=Z (show(wr.alloc (.cells #[.string j,.slice O F.length N,.int .i64 s,.bool m,.bool C,.slice J D.length c3,.slice K t.length M,.int .i64 y] 67)).heap.size=wr.heap.size+1 from by simp)
   go_upto_region 4 with fail
   generalize (wr.alloc (.cells #[.string j,.slice O F.length N,.int .i64 s,.bool m,.bool C,.slice J D.length c3,.slice K t.length M,.int .i64 y] 67))=ay at *;have a1:=Z (aG Q L.o);have a2:=Z (aG B L.o);have a7:=Z (bD L.o g.o);clear y0 y1 y2 y3 y4 y5 aX aY;have u0:=E G.o 0;have u1:=E G.o 1;have u2:=E G.o 2;have u3:=E G.o 3;have u4:=E G.o 4;have u5:=E G.o 5;have u6:=E G.o 6;have u7:=E G.o 7;simp only [dW,fF,dS] at u0 u1 u2 u3 u4 u5 u6 u7;have hd:=@Z (eqS j nm=(j.toList == nm.toList)) rfl;cases P:eqS j nm
   case false=>
    have aP:(j.toList == nm.toList)=false:=by rw [<-hd.o];exact P
    have aJ:=Z (show jB (f.drop (k+1)) nm=z from by rw [<-Y.o,P];rfl);clear hd;go_wp2
    go_roundw
    case rel=>exact⟨k+1,by omega,by go_num,aJ.o,a2.o⟩
    case measure=>first | (simp [intOf];done) | (simp [intOf];omega)
   case true=>
    have aP:(j.toList == nm.toList)=true:=by rw [<-hd.o];exact P
    obtain rfl:some ⟨j,F,⟨s,m,⟨C,D,t⟩,y⟩⟩=z:=by rw [<-Y.o,P];rfl
    have ar:=Z (aP6 ⟨j,F,⟨s,m,⟨C,D,t⟩,y⟩⟩ O N J c3 K M ay ⟨U.o.rows.below L.o aA,U.o.rcc,U.o.els.below L.o aA⟩ aT.o);clear hd Y
    go_wp2_with fail
    refine ar.o.mono ?_;rintro ba bi ⟨aw,ax,am,ao,an,ap,rfl,al,aa⟩;have i:=bD aa a7.o;have a0:=Z (aG a1 aa);have a4:=Z al;have a6:=Z i;have aM:=Z (show ∀q,Since (fun q=>q<w.heap.size/\S q) ay q->Since S w q/\q≠w.heap.size+1 from fun q ae=>by
     have bb:=B.o.size;have bc:=aW.o;have bd:=aU.o;rcases ae with h | h
     ·exact⟨.inl h.2,by omega⟩
     ·exact⟨.inr (by omega),by omega⟩)
    have ah:=E i 0;have z1:=E i 1;have z2:=E i 2;have z3:=E i 3;have z4:=E i 4;have z5:=E i 5;have ai:=E i 6;have aj:=E i 7;have a8:=aQ i 0;have a9:=aQ i 1;have aB:=aQ i 2;have aC:=aQ i 3;have aD:=aQ i 4;have aE:=aQ i 5;have aF:=aQ i 6;have aH:=aQ i 7;simp only [dW,fF,dS] at ah z1 z2 z3 z4 z5 ai aj;clear i al aa ar u0 u1 u2 u3 u4 u5 u6 u7;go_wp2;refine bodyPost_ret (v:=.tuple #[tbV ⟨j,F,⟨s,m,⟨C,D,t⟩,y⟩⟩ aw ax am ao an ap,.bool true]) (by simp [results,results41,go_sem, *]) rfl ?_;exact aSm (z:=some ⟨j,F,⟨s,m,⟨C,D,t⟩,y⟩⟩) a6.o (by omega) a4.o aM.o a0.o (l:=[(0,.string j),(1,.slice aw F.length ax),(2,.int .i64 s),(3,.bool m),(4,.bool C),(5,.slice am D.length ao),(6,.slice an t.length ap),(7,.int .i64 y)])
end
set_option linter.unusedVariables false
def bN (m:gL) (x:aZ) (l:List bS):bS × Int:=
 if x.op=1\/x.op=2 then(fW (decide (x.op=1)),0)
 else if x.op=3\/x.op=4\/x.op=5\/x.op=6\/x.op=7 then(fW (xZ x.op l),0)
 else if x.op=8\/x.op=9 then(fW (iQ (decide (x.op=8)) l),0)
 else if x.op=17\/x.op=18\/x.op=19\/x.op=20 then(fW (mN x.op l),0)
 else if x.op=10 then(if (bI l 0).bool then bI l 1 else bI l 2,0)
 else if x.op=11 then(⟨1,false,x.val,0⟩,0)
 else if x.op=12 then match jB m x.name with
  | none=>(eZ,5)
  | some t=>(jE t l,0)
 else(⟨1,false,(pC x.op l).1,0⟩,(pC x.op l).2)
theorem aJ9 {m:gL} {nm:ByteArray} (h:mO m) (f:(jB m nm).isSome=true):vC ((jB m nm).getD wR):=by
 cases e:jB m nm with
 | none=>rw [e] at f;cases f
 | some t=>exact h.1 t (mK e)
def aD1 (op:Int) (n:Nat):Prop:=(op=1\/op=2\/op=8\/op=9\/op=11\/op=12\/1<=n)/\(op=10->3<=n)
def wY (S:Nat->Prop) (r:bS × Int) (w:World) (e:Ending) (w':World):Prop:=∃a c b d,e = .returned (.tuple #[oK r.1 a c b d,.int .i64 r.2])/\gA (jZ S w w') w' r.1 a c b d/\Below w.heap.size w w'
section
variable {S S' : Nat -> Prop} {w W W' : World}
theorem sM (b:Bool) (w:World):Calls prog 139 #[.bool b] w fun e w'=>∃a c f d,e = .returned (.agg #[.int .i64 0,.bool b,.bool false,.slice a 0 c,.slice f 0 d,.int .i64 0])/\gA (fH w.heap.size w') w' (fW b) a c f d/\Below w.heap.size w w':=aMs b w
theorem gA.old {v:bS} {a b:Option Addr} {c d:Nat} (h:gA S w v a c b d):gA (jZ S w w) w v a c b d:=h.mono fun _ f e=>.inl ⟨f,e⟩
theorem gA.moveBelow {v:bS} {a b:Option Addr} {c d:Nat} (h:gA (jZ S w W) W v a c b d) (e:Below W.heap.size W W'):gA (jZ S w W') W' v a c b d:=
 (h.below e aA).mono fun k _ f=>f.elim .inl fun h=>.inr ⟨h.1.same (e.block k h.1.lt),h.2⟩
theorem nI {v:bS} {er:Int} {a b:Option Addr} {c d p:Nat} {cs:Array Value} (j:W.heap[p]? = some (.cells cs 64 (0,0))) (m:w.heap.size<=p) (g:gA (jZ S w W) W v a c b d) (i:Below w.heap.size w W) (l:List (Nat × Value)):wY S (v,er) w (.returned (.tuple #[oK v a c b d,.int .i64 er])) (setL p l W):=by
 obtain ⟨f,o,q⟩:=dQ (p:=p) (by decide) (by decide) l W cs j;refine⟨a,c,b,d,rfl,(g.keep (fun k _ e=>e.elim (fun h=>eK (by omega) l W) fun h=>f k h.1) (cD o.symm)).mono fun k _ e=>e.elim .inl fun h=>.inr ⟨h.1.same (f k h.1),h.2⟩,q _ _ m i⟩
theorem aOs {m:gL} {x:aZ} {l:List bS} (h:x.op=12):bN m x l=if (jB m x.name).isSome=true then(jE ((jB m x.name).getD wR) l,(0:Int)) else(eZ,5):=by
 unfold bN;rw [h];rw [if_neg (by decide),if_neg (by decide),if_neg (by decide),if_neg (by decide),if_neg (by decide),if_neg (by decide),if_pos rfl];cases jB m x.name <;> rfl
structure aV6 (w0:World) (t:TbD) (p8:Nat) (ra:Option Addr) (rc:Nat) (a:Option Addr) (c:Nat) (b:Option Addr) (d:Nat) (W:World):Prop where
 x:W.heap[p8]? = some (.cells #[.string t.name,.slice ra t.rows.length rc,.int .i64 t.els.sort,.bool t.els.bool,.bool t.els.num.neg,.slice a t.els.num.num.length c,.slice b t.els.num.den.length d,.int .i64 t.els.el] 67 (0,0))
 t:TbS (fun q=>q≠p8) W t ra rc a c b d
 b:Below w0.heap.size w0 W
theorem TbS.below {t:TbD} {g:Option Addr} {i:Nat} {a b:Option Addr} {c d B:Nat} (h:TbS S W t g i a c b d) (f:Below B W W') (e:W.heap.size<=B):TbS S W' t g i a c b d:=⟨h.rows.below f e,h.rcc,h.els.below f e⟩
theorem TbS.mono {t:TbD} {f:Option Addr} {g:Nat} {a b:Option Addr} {c d:Nat} (h:TbS S W t f g a c b d) (e:∀q,q<W.heap.size->S q->S' q):TbS S' W t f g a c b d:=⟨h.rows.mono e,h.rcc,h.els.mono e⟩
theorem aV7 {w0:World} {t:TbD} {e:Nat} {o v1 v2 v3 s v x y:Value} {f:Option Addr} {g:Nat} {a b:Option Addr} {c d:Nat} (i:W.heap[e]? = some (.cells #[o,v1,v2,v3,s,v,x,y] 67 (0,0))) (T:TbS (fun q=>q≠e) W t f g a c b d) (k:Below w0.heap.size w0 W) (l:w0.heap.size<=e) :
  aV6 w0 t e f g a c b d (setL e [(0,.string t.name),(1,.slice f t.rows.length g),(2,.int .i64 t.els.sort),(3,.bool t.els.bool),(4,.bool t.els.num.neg),(5,.slice a t.els.num.num.length c),(6,.slice b t.els.num.den.length d),(7,.int .i64 t.els.el)] W):=by
 obtain ⟨_,j,m⟩:=dQ (p:=e) (by decide) (by decide) [(0,.string t.name),(1,.slice f t.rows.length g),(2,.int .i64 t.els.sort),(3,.bool t.els.bool),(4,.bool t.els.num.neg),(5,.slice a t.els.num.num.length c),(6,.slice b t.els.num.den.length d),(7,.int .i64 t.els.el)] W _ i;exact⟨(lR _ W _ i).trans (by simp only [tD,pJ];simp),⟨T.rows.keep (fun q _ h=>eK h _ W) (cD j.symm),T.rcc,T.els.keep (fun q _ h=>eK h _ W) (cD j.symm)⟩,m _ _ l k⟩
theorem aSn (p:Nat) (J:gL) (ak:Option Addr) (al:Nat) (x:aZ) (a:Option Addr) (c:Nat) (b:Option Addr) (d:Nat) (g:Option Addr) (e:Nat) (ai:Option Addr) (G aj:Nat) (l:List bS) (w:World)
  (ad:w.cell? ⟨p,1,none⟩=some (.slice ak J.length al)) (ab:yB S w J ak al) (af:mO J) (ag:eD S w x a c b d g e) (h:bT iZ S w ai G l) (a1:G<=aj) (a3:G<=1000000) (ae:∀v∈l,eB v) (P:aD1 x.op G) (K:x.op=1\/x.op=2) :
  Calls prog 90 #[.pointer (some ⟨p,0,none⟩),lI x a c b d g e,.slice ai G aj] w fun e w'=>wY S (bN J x l) w e w':=by
 obtain ⟨z,U⟩:∃z,bN J x l=z:=⟨_,rfl⟩;have ah:=Z U;rw [U];obtain ⟨op,nm,⟨H,I,A⟩,args,L⟩:=x;have ay:=Z ab;have az:=Z af;have a0:=Z ag;have ax:=Z h;have a6:=Z ae;have a2:=Z h.1;have a4:=Z P.1;have a5:=Z P.2;dsimp only at *;have Y:=Z K;clear K;clear U ab af ag h ae P;have aa:=Z (eV w (.cells #[.int .i64 op,.string nm,.bool H,.slice a I.length c,.slice b A.length d,.slice g args.length e,.int .i64 L] 38) (.cells #[.int .i64 0,.bool false,.bool false,.slice none 0 0,.slice none 0 0,.int .i64 0] 64));have j:=fI w (.cells #[.int .i64 op,.string nm,.bool H,.slice a I.length c,.slice b A.length d,.slice g args.length e,.int .i64 L] 38) (.cells #[.int .i64 0,.bool false,.bool false,.slice none 0 0,.slice none 0 0,.int .i64 0] 64);have C:=Z (cV w (.cells #[.int .i64 op,.string nm,.bool H,.slice a I.length c,.slice b A.length d,.slice g args.length e,.int .i64 L] 38) (.cells #[.int .i64 0,.bool false,.bool false,.slice none 0 0,.slice none 0 0,.int .i64 0] 64));generalize av:(w.alloc (.cells #[.int .i64 op,.string nm,.bool H,.slice a I.length c,.slice b A.length d,.slice g args.length e,.int .i64 L] 38)).alloc (.cells #[.int .i64 0,.bool false,.bool false,.slice none 0 0,.slice none 0 0,.int .i64 0] 64)=w0 at *;have a7:w0.cell? ⟨w.heap.size,0,none⟩=some (.int .i64 op):=E j 0;have a8:w0.cell? ⟨w.heap.size,1,none⟩=some (.string nm):=E j 1;have a9:w0.cell? ⟨w.heap.size,2,none⟩=some (.bool H):=E j 2;have aA:w0.cell? ⟨w.heap.size,3,none⟩=some (.slice a I.length c):=E j 3;have aC:w0.cell? ⟨w.heap.size,4,none⟩=some (.slice b A.length d):=E j 4;have aD:=aB C.o ad;clear j;go_enter func90,ntmps90
 go_upto_region 1 with fail
 clear av ad;have K:=Y.o;clear Y;rcases K with rfl | rfl
 ·have Q:=Z (show(fW true,(0:Int))=z from ah.o);have F:=Z (sM (true) w0)
  go_wp2_with fail
  refine F.o.mono ?_;rintro am V ⟨m,t,s,y,rfl,k,i⟩;have f:=Z (bD i aa.o);have M:=Z (aG C i);have O:=Z (k.mono (S':=jZ S w V) fun q _ D=>.inr ⟨D.1,aH C.o.size D.2⟩);clear k i F;have N:=Z (nI (v:=fW (true)) (er:=0) f.o (by omega) O.o M.o [(0,.int .i64 0),(1,.bool (true)),(2,.bool false),(3,.slice m 0 t),(4,.slice s 0 y),(5,.int .i64 0)]);obtain ⟨aw,z1,z2,z3,z4,z5⟩:=gC f.o;obtain ⟨an,ao,ap,aq,ar,au⟩:=jC f.o;go_wp2;refine bodyPost_ret (v:=.tuple #[.agg #[.int .i64 0,.bool (true),.bool false,.slice m 0 t,.slice s 0 y,.int .i64 0],.int .i64 0]) (by simp [results,results90,go_sem, *]) rfl ?_;rw [<-Q.o];exact N.o
 ·have Q:=Z (show(fW false,(0:Int))=z from ah.o);have F:=Z (sM (false) w0)
  go_wp2_with fail
  refine F.o.mono ?_;rintro am V ⟨m,t,s,y,rfl,k,i⟩;have f:=Z (bD i aa.o);have M:=Z (aG C i);have O:=Z (k.mono (S':=jZ S w V) fun q _ D=>.inr ⟨D.1,aH C.o.size D.2⟩);clear k i F;have N:=Z (nI (v:=fW (false)) (er:=0) f.o (by omega) O.o M.o [(0,.int .i64 0),(1,.bool (false)),(2,.bool false),(3,.slice m 0 t),(4,.slice s 0 y),(5,.int .i64 0)]);obtain ⟨aw,z1,z2,z3,z4,z5⟩:=gC f.o;obtain ⟨an,ao,ap,aq,ar,au⟩:=jC f.o;go_wp2;refine bodyPost_ret (v:=.tuple #[.agg #[.int .i64 0,.bool (false),.bool false,.slice m 0 t,.slice s 0 y,.int .i64 0],.int .i64 0]) (by simp [results,results90,go_sem, *]) rfl ?_;rw [<-Q.o];exact N.o
theorem aSo (p:Nat) (A:gL) (an:Option Addr) (ao:Nat) (x:aZ) (a:Option Addr) (c:Nat) (b:Option Addr) (d:Nat) (g:Option Addr) (e:Nat) (L:Option Addr) (i M:Nat) (l:List bS) (w:World)
  (ae:w.cell? ⟨p,1,none⟩=some (.slice an A.length ao)) (ad:yB S w A an ao) (ai:mO A) (ak:eD S w x a c b d g e) (h:bT iZ S w L i l) (ay:i<=M) (az:i<=1000000) (ah:∀v∈l,eB v) (G:aD1 x.op i) (m:¬(x.op=1\/x.op=2)) (s:x.op=3\/x.op=4\/x.op=5\/x.op=6\/x.op=7) :
  Calls prog 90 #[.pointer (some ⟨p,0,none⟩),lI x a c b d g e,.slice L i M] w fun e w'=>wY S (bN A x l) w e w':=by
 obtain ⟨z,K⟩:∃z,bN A x l=z:=⟨_,rfl⟩;have am:=Z K;rw [K];obtain ⟨op,nm,⟨t,y,k⟩,args,C⟩:=x;have a4:=Z ad;have a5:=Z ai;have a6:=Z ak;have aq:=Z h;have aI:=Z ah;have aF:=Z h.1;have ag:=Z G.1;have a0:=Z G.2;dsimp only at *;have O:=Z m;have P:=Z s;clear m s;clear K ad ai ak h ah G;have av:=Z (eV w (.cells #[.int .i64 op,.string nm,.bool t,.slice a y.length c,.slice b k.length d,.slice g args.length e,.int .i64 C] 38) (.cells #[.int .i64 0,.bool false,.bool false,.slice none 0 0,.slice none 0 0,.int .i64 0] 64));have j:=fI w (.cells #[.int .i64 op,.string nm,.bool t,.slice a y.length c,.slice b k.length d,.slice g args.length e,.int .i64 C] 38) (.cells #[.int .i64 0,.bool false,.bool false,.slice none 0 0,.slice none 0 0,.int .i64 0] 64);have F:=Z (cV w (.cells #[.int .i64 op,.string nm,.bool t,.slice a y.length c,.slice b k.length d,.slice g args.length e,.int .i64 C] 38) (.cells #[.int .i64 0,.bool false,.bool false,.slice none 0 0,.slice none 0 0,.int .i64 0] 64));generalize a1:(w.alloc (.cells #[.int .i64 op,.string nm,.bool t,.slice a y.length c,.slice b k.length d,.slice g args.length e,.int .i64 C] 38)).alloc (.cells #[.int .i64 0,.bool false,.bool false,.slice none 0 0,.slice none 0 0,.int .i64 0] 64)=w0 at *;have aJ:w0.cell? ⟨w.heap.size,0,none⟩=some (.int .i64 op):=E j 0;have aK:w0.cell? ⟨w.heap.size,1,none⟩=some (.string nm):=E j 1;have aL:w0.cell? ⟨w.heap.size,2,none⟩=some (.bool t):=E j 2;have aM:w0.cell? ⟨w.heap.size,3,none⟩=some (.slice a y.length c):=E j 3;have aN:w0.cell? ⟨w.heap.size,4,none⟩=some (.slice b k.length d):=E j 4;have aO:=aB F.o ae;clear j;go_enter func90,ntmps90
 go_upto_region 1 with fail
 clear a1 ae;have m:=O.o;clear O;have s:=P.o;clear P;have al:=Z (show(fW (xZ op l),(0:Int))=z from by rw [<-am.o];exact((if_neg m).trans (if_pos s)).symm);have J:=Z (aMt op L i M l w0 (aq.o.below F.o aA) (by have:=ag.o;omega) ay az);obtain ⟨f,ab⟩:∃f,xZ op l=f:=⟨_,rfl⟩;rw [ab] at J al;clear ab am m ag a0;rcases s with rfl | rfl | rfl | rfl | rfl <;> (
  go_wp2_with fail
  refine J.o.mono ?_;rintro ax a2 ⟨rfl,H⟩;have aw:=Z (bD H av.o);have N:=Z (aG F H);clear H J;have aj:=Z (sM (f) a2)
  go_wp2_with fail
  refine aj.o.mono ?_;rintro ax a3 ⟨U,Y,V,aa,rfl,Q,I⟩;have D:=Z (bD I aw.o);have ap:=Z (aG N I);have au:=Z (Q.mono (S':=jZ S w a3) fun q _ af=>.inr ⟨af.1,aH N.o.size af.2⟩);clear Q I aj;have ar:=Z (nI (v:=fW (f)) (er:=0) D.o (by omega) au.o ap.o [(0,.int .i64 0),(1,.bool (f)),(2,.bool false),(3,.slice U 0 Y),(4,.slice V 0 aa),(5,.int .i64 0)]);obtain ⟨aP,z1,z2,z3,z4,z5⟩:=gC D.o;obtain ⟨a7,a8,a9,aC,aD,aE⟩:=jC D.o;go_wp2;refine bodyPost_ret (v:=.tuple #[.agg #[.int .i64 0,.bool (f),.bool false,.slice U 0 Y,.slice V 0 aa,.int .i64 0],.int .i64 0]) (by simp [results,results90,go_sem, *]) rfl ?_;rw [<-al.o];exact ar.o)
theorem aSp (p:Nat) (C:gL) (ao:Option Addr) (ap:Nat) (x:aZ) (a:Option Addr) (c:Nat) (b:Option Addr) (d:Nat) (g:Option Addr) (e:Nat) (M:Option Addr) (i N:Nat) (l:List bS) (w:World)
  (ag:w.cell? ⟨p,1,none⟩=some (.slice ao C.length ap)) (af:yB S w C ao ap) (aj:mO C) (al:eD S w x a c b d g e) (h:bT iZ S w M i l) (az:i<=N) (a0:i<=1000000) (ai:∀v∈l,eB v) (H:aD1 x.op i) (m:¬(x.op=1\/x.op=2)) (s:¬(x.op=3\/x.op=4\/x.op=5\/x.op=6\/x.op=7)) (t:x.op=8\/x.op=9) :
  Calls prog 90 #[.pointer (some ⟨p,0,none⟩),lI x a c b d g e,.slice M i N] w fun e w'=>wY S (bN C x l) w e w':=by
 obtain ⟨z,L⟩:∃z,bN C x l=z:=⟨_,rfl⟩;have an:=Z L;rw [L];obtain ⟨op,nm,⟨y,A,k⟩,args,D⟩:=x;have a7:=Z af;have a8:=Z aj;have a9:=Z al;have ar:=Z h;have a3:=Z ai;have aK:=Z h.1;have a1:=Z H.1;have a2:=Z H.2;dsimp only at *;have P:=Z m;have Q:=Z s;have U:=Z t;clear m s t;clear L af aj al h ai H;have aw:=Z (eV w (.cells #[.int .i64 op,.string nm,.bool y,.slice a A.length c,.slice b k.length d,.slice g args.length e,.int .i64 D] 38) (.cells #[.int .i64 0,.bool false,.bool false,.slice none 0 0,.slice none 0 0,.int .i64 0] 64));have j:=fI w (.cells #[.int .i64 op,.string nm,.bool y,.slice a A.length c,.slice b k.length d,.slice g args.length e,.int .i64 D] 38) (.cells #[.int .i64 0,.bool false,.bool false,.slice none 0 0,.slice none 0 0,.int .i64 0] 64);have G:=Z (cV w (.cells #[.int .i64 op,.string nm,.bool y,.slice a A.length c,.slice b k.length d,.slice g args.length e,.int .i64 D] 38) (.cells #[.int .i64 0,.bool false,.bool false,.slice none 0 0,.slice none 0 0,.int .i64 0] 64));generalize a4:(w.alloc (.cells #[.int .i64 op,.string nm,.bool y,.slice a A.length c,.slice b k.length d,.slice g args.length e,.int .i64 D] 38)).alloc (.cells #[.int .i64 0,.bool false,.bool false,.slice none 0 0,.slice none 0 0,.int .i64 0] 64)=w0 at *;have aL:w0.cell? ⟨w.heap.size,0,none⟩=some (.int .i64 op):=E j 0;have aM:w0.cell? ⟨w.heap.size,1,none⟩=some (.string nm):=E j 1;have aN:w0.cell? ⟨w.heap.size,2,none⟩=some (.bool y):=E j 2;have aO:w0.cell? ⟨w.heap.size,3,none⟩=some (.slice a A.length c):=E j 3;have aP:w0.cell? ⟨w.heap.size,4,none⟩=some (.slice b k.length d):=E j 4;have aQ:=aB G.o ag;clear j;go_enter func90,ntmps90
 go_upto_region 1 with fail
 clear a4 ag;have m:=P.o;clear P;have s:=Q.o;clear Q;have t:=U.o;clear U;have am:=Z (show(fW (iQ (decide (op=8)) l),(0:Int))=z from by rw [<-an.o];exact((if_neg m).trans ((if_neg s).trans (if_pos t))).symm);have K:=Z (aMv op M i N l w0 (ar.o.below G.o aA) az a0 a3.o);obtain ⟨f,ae⟩:∃f,iQ (decide (op=8)) l=f:=⟨_,rfl⟩;rw [ae] at K am;clear ae an m s a1 a2;rcases t with rfl | rfl <;> (
  go_wp2_with fail
  refine K.o.mono ?_;rintro ay a5 ⟨rfl,I⟩;have ax:=Z (bD I aw.o);have O:=Z (aG G I);clear I K;have ak:=Z (sM (f) a5)
  go_wp2_with fail
  refine ak.o.mono ?_;rintro ay a6 ⟨Y,ab,aa,ad,rfl,V,J⟩;have F:=Z (bD J ax.o);have aq:=Z (aG O J);have av:=Z (V.mono (S':=jZ S w a6) fun q _ ah=>.inr ⟨ah.1,aH O.o.size ah.2⟩);clear V J ak;have au:=Z (nI (v:=fW (f)) (er:=0) F.o (by omega) av.o aq.o [(0,.int .i64 0),(1,.bool (f)),(2,.bool false),(3,.slice Y 0 ab),(4,.slice aa 0 ad),(5,.int .i64 0)]);obtain ⟨aR,z1,z2,z3,z4,z5⟩:=gC F.o;obtain ⟨aC,aD,aE,aF,aI,aJ⟩:=jC F.o;go_wp2;refine bodyPost_ret (v:=.tuple #[.agg #[.int .i64 0,.bool (f),.bool false,.slice Y 0 ab,.slice aa 0 ad,.int .i64 0],.int .i64 0]) (by simp [results,results90,go_sem, *]) rfl ?_;rw [<-am.o];exact au.o)
theorem aP8 (p:Nat) (D:gL) (ar:Option Addr) (au:Nat) (x:aZ) (a:Option Addr) (c:Nat) (b:Option Addr) (d:Nat) (g:Option Addr) (e:Nat) (N:Option Addr) (i O:Nat) (l:List bS) (w:World)
  (ai:w.cell? ⟨p,1,none⟩=some (.slice ar D.length au)) (ah:yB S w D ar au) (am:mO D) (ao:eD S w x a c b d g e) (h:bT iZ S w N i l) (a2:i<=O) (a3:i<=1000000) (al:∀v∈l,eB v) (I:aD1 x.op i) (m:¬(x.op=1\/x.op=2)) (t:¬(x.op=3\/x.op=4\/x.op=5\/x.op=6\/x.op=7)) (y:¬(x.op=8\/x.op=9)) (s:x.op=17\/x.op=18\/x.op=19\/x.op=20) :
  Calls prog 90 #[.pointer (some ⟨p,0,none⟩),lI x a c b d g e,.slice N i O] w fun e w'=>wY S (bN D x l) w e w':=by
 obtain ⟨z,M⟩:∃z,bN D x l=z:=⟨_,rfl⟩;have aq:=Z M;rw [M];obtain ⟨op,nm,⟨A,C,k⟩,args,F⟩:=x;have a9:=Z ah;have aC:=Z am;have aD:=Z ao;have aw:=Z h;have a5:=Z al;have aM:=Z h.1;have ak:=Z I.1;have a4:=Z I.2;dsimp only at *;have Q:=Z m;have V:=Z t;have Y:=Z y;have U:=Z s;clear m t y s;clear M ah am ao h al I;have az:=Z (eV w (.cells #[.int .i64 op,.string nm,.bool A,.slice a C.length c,.slice b k.length d,.slice g args.length e,.int .i64 F] 38) (.cells #[.int .i64 0,.bool false,.bool false,.slice none 0 0,.slice none 0 0,.int .i64 0] 64));have j:=fI w (.cells #[.int .i64 op,.string nm,.bool A,.slice a C.length c,.slice b k.length d,.slice g args.length e,.int .i64 F] 38) (.cells #[.int .i64 0,.bool false,.bool false,.slice none 0 0,.slice none 0 0,.int .i64 0] 64);have H:=Z (cV w (.cells #[.int .i64 op,.string nm,.bool A,.slice a C.length c,.slice b k.length d,.slice g args.length e,.int .i64 F] 38) (.cells #[.int .i64 0,.bool false,.bool false,.slice none 0 0,.slice none 0 0,.int .i64 0] 64));generalize a6:(w.alloc (.cells #[.int .i64 op,.string nm,.bool A,.slice a C.length c,.slice b k.length d,.slice g args.length e,.int .i64 F] 38)).alloc (.cells #[.int .i64 0,.bool false,.bool false,.slice none 0 0,.slice none 0 0,.int .i64 0] 64)=w0 at *;have aN:w0.cell? ⟨w.heap.size,0,none⟩=some (.int .i64 op):=E j 0;have aO:w0.cell? ⟨w.heap.size,1,none⟩=some (.string nm):=E j 1;have aP:w0.cell? ⟨w.heap.size,2,none⟩=some (.bool A):=E j 2;have aQ:w0.cell? ⟨w.heap.size,3,none⟩=some (.slice a C.length c):=E j 3;have aR:w0.cell? ⟨w.heap.size,4,none⟩=some (.slice b k.length d):=E j 4;have aS:=aB H.o ai;clear j;go_enter func90,ntmps90
 go_upto_region 1 with fail
 clear a6 ai;have m:=Q.o;clear Q;have t:=V.o;clear V;have y:=Y.o;clear Y;have s:=U.o;clear U;have ap:=Z (show(fW (mN op l),(0:Int))=z from by rw [<-aq.o];exact((if_neg m).trans ((if_neg t).trans ((if_neg y).trans (if_pos s)))).symm);have L:=Z (aMw op N i O l w0 (aw.o.below H.o aA) (by have:=ak.o;omega) a2 a3 a5.o);obtain ⟨f,ag⟩:∃f,mN op l=f:=⟨_,rfl⟩;rw [ag] at L ap;clear ag aq m t y ak a4;rcases s with rfl | rfl | rfl | rfl <;> (
  go_wp2_with fail
  refine L.o.mono ?_;rintro a1 a7 ⟨rfl,J⟩;have a0:=Z (bD J az.o);have P:=Z (aG H J);clear J L;have an:=Z (sM (f) a7)
  go_wp2_with fail
  refine an.o.mono ?_;rintro a1 a8 ⟨ab,ae,ad,af,rfl,aa,K⟩;have G:=Z (bD K a0.o);have av:=Z (aG P K);have ay:=Z (aa.mono (S':=jZ S w a8) fun q _ aj=>.inr ⟨aj.1,aH P.o.size aj.2⟩);clear aa K an;have ax:=Z (nI (v:=fW (f)) (er:=0) G.o (by omega) ay.o av.o [(0,.int .i64 0),(1,.bool (f)),(2,.bool false),(3,.slice ab 0 ae),(4,.slice ad 0 af),(5,.int .i64 0)]);obtain ⟨aT,z1,z2,z3,z4,z5⟩:=gC G.o;obtain ⟨aE,aF,aI,aJ,aK,aL⟩:=jC G.o;go_wp2;refine bodyPost_ret (v:=.tuple #[.agg #[.int .i64 0,.bool (f),.bool false,.slice ab 0 ae,.slice ad 0 af,.int .i64 0],.int .i64 0]) (by simp [results,results90,go_sem, *]) rfl ?_;rw [<-ap.o];exact ax.o)
theorem aP9 (p:Nat) (L:gL) (a8:Option Addr) (a9:Nat) (x:aZ) (a:Option Addr) (c:Nat) (b:Option Addr) (d:Nat) (g:Option Addr) (e:Nat) (a6:Option Addr) (s a7:Nat) (l:List bS) (w:World)
  (a0:w.cell? ⟨p,1,none⟩=some (.slice a8 L.length a9)) (az:yB S w L a8 a9) (a3:mO L) (a4:eD S w x a c b d g e) (h:bT iZ S w a6 s l) (bh:s<=a7) (bi:s<=1000000) (a2:∀v∈l,eB v) (ag:aD1 x.op s) (I:¬(x.op=1\/x.op=2)) (O:¬(x.op=3\/x.op=4\/x.op=5\/x.op=6\/x.op=7)) (P:¬(x.op=8\/x.op=9)) (N:¬(x.op=17\/x.op=18\/x.op=19\/x.op=20)) (M:x.op=10) :
  Calls prog 90 #[.pointer (some ⟨p,0,none⟩),lI x a c b d g e,.slice a6 s a7] w fun e w'=>wY S (bN L x l) w e w':=by
 obtain ⟨z,al⟩:∃z,bN L x l=z:=⟨_,rfl⟩;have a5:=Z al;rw [al];obtain ⟨op,nm,⟨J,K,H⟩,args,Y⟩:=x;have aX:=Z az;have aY:=Z a3;have ba:=Z a4;have aC:=Z h;have bj:=Z a2;have ah:=Z h.1;have aO:=Z ag.1;have a1:=Z ag.2;dsimp only at *;have am:=Z I;have ap:=Z O;have aq:=Z P;have ao:=Z N;have an:=Z M;clear I O P N M;clear al az a3 a4 h a2 ag;have F:=Z (eV w (.cells #[.int .i64 op,.string nm,.bool J,.slice a K.length c,.slice b H.length d,.slice g args.length e,.int .i64 Y] 38) (.cells #[.int .i64 0,.bool false,.bool false,.slice none 0 0,.slice none 0 0,.int .i64 0] 64));have G:=fI w (.cells #[.int .i64 op,.string nm,.bool J,.slice a K.length c,.slice b H.length d,.slice g args.length e,.int .i64 Y] 38) (.cells #[.int .i64 0,.bool false,.bool false,.slice none 0 0,.slice none 0 0,.int .i64 0] 64);have Q:=Z (cV w (.cells #[.int .i64 op,.string nm,.bool J,.slice a K.length c,.slice b H.length d,.slice g args.length e,.int .i64 Y] 38) (.cells #[.int .i64 0,.bool false,.bool false,.slice none 0 0,.slice none 0 0,.int .i64 0] 64));generalize aP:(w.alloc (.cells #[.int .i64 op,.string nm,.bool J,.slice a K.length c,.slice b H.length d,.slice g args.length e,.int .i64 Y] 38)).alloc (.cells #[.int .i64 0,.bool false,.bool false,.slice none 0 0,.slice none 0 0,.int .i64 0] 64)=w0 at *;have bp:w0.cell? ⟨w.heap.size,0,none⟩=some (.int .i64 op):=E G 0;have bq:w0.cell? ⟨w.heap.size,1,none⟩=some (.string nm):=E G 1;have br:w0.cell? ⟨w.heap.size,2,none⟩=some (.bool J):=E G 2;have bs:w0.cell? ⟨w.heap.size,3,none⟩=some (.slice a K.length c):=E G 3;have bt:w0.cell? ⟨w.heap.size,4,none⟩=some (.slice b H.length d):=E G 4;have bu:=aB Q.o a0;clear G;go_enter func90,ntmps90
 go_upto_region 1 with fail
 clear aP a0;have I:=am.o;clear am;have O:=ap.o;clear ap;have P:=aq.o;clear aq;have N:=ao.o;clear ao;have M:=an.o;clear an;have aN:=Z I;subst M;have V:=Z (show((if (bI l 0).bool then bI l 1 else bI l 2),(0:Int))=z from a5.o);have bg:=a1.o rfl;clear I O P N aO a1 a5 aN;have aa:=Z ((aC.o.mono (S':=fun q=>q<w.heap.size/\S q) fun q ai aK=>⟨ai,aK⟩).below Q.o aA);obtain ⟨f,i,bb,c3,bf,be,rfl,_,ak⟩:=aa.o.valAt (dV (l:=l) (k:=0) (by rw [ah.o];omega));obtain ⟨bc,bn,ar,c4,ax,av,aL,ae,j⟩:=aa.o.valAt (dV (l:=l) (k:=1) (by rw [ah.o];omega));obtain ⟨bd,bo,au,c5,ay,aw,aM,af,m⟩:=aa.o.valAt (dV (l:=l) (k:=2) (by rw [ah.o];omega));cases aL;cases aM;have y1:w0.cell? ⟨f,i+1,none⟩=some (.bool (bI l 0).bool):=ak 1 _ rfl;have bk:(0:Int)<s:=by omega
 have bl:(1:Int)<s:=by omega
 have bm:(2:Int)<s:=by omega
 have U:=Z (show ∀v a c b d,gA (fun q=>q<w.heap.size/\S q) w0 v a c b d->gA (jZ S w w0) w0 v a c b d from fun v a c b d h=>h.mono fun q _ ai=>.inl ai);generalize (bI l 0).bool=aD at *;cases aD
 case false=>
  have aj:=Z (show(bI l 2,(0:Int))=z from V.o);have ad:=Z (U.out _ _ _ _ _ af);clear ae af ak j V U;generalize bI l 2=v at *;obtain ⟨D,t,⟨C,u8,y⟩,A⟩:=v;have aQ:w0.cell? ⟨f,i+12,none⟩=_:=m 0 _ rfl;have aR:w0.cell? ⟨f,i+12+1,none⟩=_:=m 1 _ rfl;have aS:w0.cell? ⟨f,i+12+2,none⟩=_:=m 2 _ rfl;have aT:w0.cell? ⟨f,i+12+3,none⟩=_:=m 3 _ rfl;have aU:w0.cell? ⟨f,i+12+4,none⟩=_:=m 4 _ rfl;have aV:w0.cell? ⟨f,i+12+5,none⟩=_:=m 5 _ rfl;clear m;dsimp only at *;have ab:=Z (nI (v:=⟨D,t,⟨C,u8,y⟩,A⟩) (er:=0) F.o (by omega) ad.o Q.o [(0,.int .i64 D),(1,.bool t),(2,.bool C),(3,.slice au u8.length c5),(4,.slice ay y.length aw),(5,.int .i64 A)]);obtain ⟨aW,z1,z2,z3,z4,z5⟩:=gC F.o;obtain ⟨aE,aF,aG,aH,aI,aJ⟩:=jC F.o;go_wp2;refine bodyPost_ret (v:=.tuple #[.agg #[.int .i64 D,.bool t,.bool C,.slice au u8.length c5,.slice ay y.length aw,.int .i64 A],.int .i64 0]) (by simp [results,results90,go_sem, *]) rfl ?_;rw [<-aj.o];exact ab.o
 case true=>
  have aj:=Z (show(bI l 1,(0:Int))=z from V.o);have ad:=Z (U.out _ _ _ _ _ ae);clear ae af ak m V U;generalize bI l 1=v at *;obtain ⟨D,t,⟨C,u8,y⟩,A⟩:=v;have aQ:w0.cell? ⟨f,i+6,none⟩=_:=j 0 _ rfl;have aR:w0.cell? ⟨f,i+6+1,none⟩=_:=j 1 _ rfl;have aS:w0.cell? ⟨f,i+6+2,none⟩=_:=j 2 _ rfl;have aT:w0.cell? ⟨f,i+6+3,none⟩=_:=j 3 _ rfl;have aU:w0.cell? ⟨f,i+6+4,none⟩=_:=j 4 _ rfl;have aV:w0.cell? ⟨f,i+6+5,none⟩=_:=j 5 _ rfl;clear j;dsimp only at *;have ab:=Z (nI (v:=⟨D,t,⟨C,u8,y⟩,A⟩) (er:=0) F.o (by omega) ad.o Q.o [(0,.int .i64 D),(1,.bool t),(2,.bool C),(3,.slice ar u8.length c4),(4,.slice ax y.length av),(5,.int .i64 A)]);obtain ⟨aW,z1,z2,z3,z4,z5⟩:=gC F.o;obtain ⟨aE,aF,aG,aH,aI,aJ⟩:=jC F.o;go_wp2;refine bodyPost_ret (v:=.tuple #[.agg #[.int .i64 D,.bool t,.bool C,.slice ar u8.length c4,.slice ax y.length av,.int .i64 A],.int .i64 0]) (by simp [results,results90,go_sem, *]) rfl ?_;rw [<-aj.o];exact ab.o
theorem aQa (p:Nat) (s:gL) (ag:Option Addr) (ah:Nat) (x:aZ) (a:Option Addr) (c:Nat) (b:Option Addr) (d:Nat) (g:Option Addr) (e:Nat) (ae:Option Addr) (q af:Nat) (l:List bS) (w:World)
  (V:w.cell? ⟨p,1,none⟩=some (.slice ag s.length ah)) (U:yB S w s ag ah) (aa:mO s) (ab:eD S w x a c b d g e) (h:bT iZ S w ae q l) (a0:q<=af) (a2:q<=1000000) (Y:∀v∈l,eB v) (J:aD1 x.op q) (m:¬(x.op=1\/x.op=2)) (D:¬(x.op=3\/x.op=4\/x.op=5\/x.op=6\/x.op=7)) (F:¬(x.op=8\/x.op=9)) (C:¬(x.op=17\/x.op=18\/x.op=19\/x.op=20)) (y:¬(x.op=10)) (A:x.op=11) :
  Calls prog 90 #[.pointer (some ⟨p,0,none⟩),lI x a c b d g e,.slice ae q af] w fun e w'=>wY S (bN s x l) w e w':=by
 obtain ⟨z,K⟩:∃z,bN s x l=z:=⟨_,rfl⟩;have ad:=Z K;rw [K];obtain ⟨op,nm,⟨i,j,f⟩,args,G⟩:=x;have aq:=Z U;have ar:=Z aa;have t:=Z ab;have ap:=Z h;have a3:=Z Y;have a1:=Z h.1;have al:=Z J.1;have am:=Z J.2;dsimp only at *;have L:=Z m;have P:=Z D;have Q:=Z F;have O:=Z C;have M:=Z y;have N:=Z A;clear m D F C y A;clear K U aa ab h Y J;have H:=Z (eV w (.cells #[.int .i64 op,.string nm,.bool i,.slice a j.length c,.slice b f.length d,.slice g args.length e,.int .i64 G] 38) (.cells #[.int .i64 0,.bool false,.bool false,.slice none 0 0,.slice none 0 0,.int .i64 0] 64));have k:=fI w (.cells #[.int .i64 op,.string nm,.bool i,.slice a j.length c,.slice b f.length d,.slice g args.length e,.int .i64 G] 38) (.cells #[.int .i64 0,.bool false,.bool false,.slice none 0 0,.slice none 0 0,.int .i64 0] 64);have I:=Z (cV w (.cells #[.int .i64 op,.string nm,.bool i,.slice a j.length c,.slice b f.length d,.slice g args.length e,.int .i64 G] 38) (.cells #[.int .i64 0,.bool false,.bool false,.slice none 0 0,.slice none 0 0,.int .i64 0] 64));generalize ao:(w.alloc (.cells #[.int .i64 op,.string nm,.bool i,.slice a j.length c,.slice b f.length d,.slice g args.length e,.int .i64 G] 38)).alloc (.cells #[.int .i64 0,.bool false,.bool false,.slice none 0 0,.slice none 0 0,.int .i64 0] 64)=w0 at *;have a4:w0.cell? ⟨w.heap.size,0,none⟩=some (.int .i64 op):=E k 0;have a5:w0.cell? ⟨w.heap.size,1,none⟩=some (.string nm):=E k 1;have a6:w0.cell? ⟨w.heap.size,2,none⟩=some (.bool i):=E k 2;have a7:w0.cell? ⟨w.heap.size,3,none⟩=some (.slice a j.length c):=E k 3;have a8:w0.cell? ⟨w.heap.size,4,none⟩=some (.slice b f.length d):=E k 4;have a9:=aB I.o V;clear k;go_enter func90,ntmps90
 go_upto_region 1 with fail
 clear ao V;have m:=L.o;clear L;have D:=P.o;clear P;have F:=Q.o;clear Q;have C:=O.o;clear O;have y:=M.o;clear M;have A:=N.o;clear N;have ak:=Z m;subst A;have an:=Z (show((⟨1,false,⟨i,j,f⟩,0⟩:bS),(0:Int))=z from ad.o);have aj:=Z (show gA (jZ S w w0) w0 ⟨1,false,⟨i,j,f⟩,0⟩ a c b d from gA.moveBelow (W:=w) (gA.old ⟨(show eI 1 from⟨by decide,by decide⟩),(show eI 0 from⟨by decide,by decide⟩),t.o.num,t.o.nc,t.o.den,t.o.dc⟩) I.o);clear m D F C y al am ad ak;have ai:=Z (nI (v:=⟨1,false,⟨i,j,f⟩,0⟩) (er:=0) H.o (by omega) aj.o I.o [(0,.int .i64 1),(1,.bool false),(2,.bool i),(3,.slice a j.length c),(4,.slice b f.length d),(5,.int .i64 0)]);obtain ⟨aA,z1,z2,z3,z4,z5⟩:=gC H.o;obtain ⟨au,av,aw,ax,ay,az⟩:=jC H.o;go_wp2;refine bodyPost_ret (v:=.tuple #[.agg #[.int .i64 1,.bool false,.bool i,.slice a j.length c,.slice b f.length d,.int .i64 0],.int .i64 0]) (by simp [results,results90,go_sem, *]) rfl ?_;rw [<-an.o];exact ai.o
theorem aQb (p:Nat) (m:gL) (aT:Option Addr) (aU:Nat) (x:aZ) (a:Option Addr) (c:Nat) (b:Option Addr) (d:Nat) (g:Option Addr) (e:Nat) (aR:Option Addr) (Q aS:Nat) (l:List bS) (w:World)
  (b0:w.cell? ⟨p,1,none⟩=some (.slice aT m.length aU)) (bz:yB S w m aT aU) (b2:mO m) (b5:eD S w x a c b d g e) (h:bT iZ S w aR Q l) (bX:Q<=aS) (bG:Q<=1000000) (b1:∀v∈l,eB v) (a9:aD1 x.op Q) (ad:¬(x.op=1\/x.op=2)) (ap:¬(x.op=3\/x.op=4\/x.op=5\/x.op=6\/x.op=7)) (aq:¬(x.op=8\/x.op=9)) (ao:¬(x.op=17\/x.op=18\/x.op=19\/x.op=20)) (al:¬(x.op=10)) (am:¬(x.op=11)) (an:x.op=12) :
  Calls prog 90 #[.pointer (some ⟨p,0,none⟩),lI x a c b d g e,.slice aR Q aS] w fun e w'=>wY S (bN m x l) w e w':=by
 obtain ⟨z,aO⟩:∃z,bN m x l=z:=⟨_,rfl⟩;have aP:=Z aO;rw [aO];obtain ⟨op,nm,⟨U,V,O⟩,args,ah⟩:=x;have bi:=Z bz;have bj:=Z b2;have bW:=Z b5;have bh:=Z h;have bZ:=Z b1;have bY:=Z h.1;have bI:=Z a9.1;have bK:=Z a9.2;dsimp only at *;have bk:=Z ad;have bp:=Z ap;have bq:=Z aq;have bo:=Z ao;have bl:=Z al;have bm:=Z am;have bn:=Z an;clear ad ap aq ao al am an;clear aO bz b2 b5 h b1 a9;have bs:=Z (eV w (.cells #[.int .i64 op,.string nm,.bool U,.slice a V.length c,.slice b O.length d,.slice g args.length e,.int .i64 ah] 38) (.cells #[.int .i64 0,.bool false,.bool false,.slice none 0 0,.slice none 0 0,.int .i64 0] 64));have Y:=fI w (.cells #[.int .i64 op,.string nm,.bool U,.slice a V.length c,.slice b O.length d,.slice g args.length e,.int .i64 ah] 38) (.cells #[.int .i64 0,.bool false,.bool false,.slice none 0 0,.slice none 0 0,.int .i64 0] 64);have P:=Z (cV w (.cells #[.int .i64 op,.string nm,.bool U,.slice a V.length c,.slice b O.length d,.slice g args.length e,.int .i64 ah] 38) (.cells #[.int .i64 0,.bool false,.bool false,.slice none 0 0,.slice none 0 0,.int .i64 0] 64));generalize bM:(w.alloc (.cells #[.int .i64 op,.string nm,.bool U,.slice a V.length c,.slice b O.length d,.slice g args.length e,.int .i64 ah] 38)).alloc (.cells #[.int .i64 0,.bool false,.bool false,.slice none 0 0,.slice none 0 0,.int .i64 0] 64)=w0 at *;have ca:w0.cell? ⟨w.heap.size,0,none⟩=some (.int .i64 op):=E Y 0;have bP:w0.cell? ⟨w.heap.size,1,none⟩=some (.string nm):=E Y 1;have cb:w0.cell? ⟨w.heap.size,2,none⟩=some (.bool U):=E Y 2;have cc:w0.cell? ⟨w.heap.size,3,none⟩=some (.slice a V.length c):=E Y 3;have cd:w0.cell? ⟨w.heap.size,4,none⟩=some (.slice b O.length d):=E Y 4;have bQ:=aB P.o b0;clear Y;go_enter func90,ntmps90
 go_upto_region 1 with fail
 clear bM b0;have ad:=bk.o;clear bk;have ap:=bp.o;clear bp;have aq:=bq.o;clear bq;have ao:=bo.o;clear bo;have al:=bl.o;clear bl;have am:=bm.o;clear bm;have an:=bn.o;clear bn;have bE:=Z ad;subst an;clear ad ap aq ao al am bI bK bE;have af:=Z (fun W (bC:Below w0.heap.size w0 W)=>aP7 m aT aU nm W ⟨((bi.o.tbs.mono (S':=fun q=>q<w.heap.size/\S q) fun q y bB=>⟨y,bB⟩).below P.o aA).below bC aA,bi.o.cap⟩ bj.o);have b4:=Z P.o.size
 go_upto_region 26 with fail
 go_cut [8,9] from 69 to 78 (fun bR bU wc=>∃(aX:Nat) (F:Option Addr) (G:Nat) (H:Option Addr) (J:Nat) (I:Option Addr) (K:Nat),bR = .pointer (some ⟨aX,0,none⟩)/\bU = .bool (jB m nm).isSome/\aV6 w0 ((jB m nm).getD wR) aX F G H J I K wc)
 case first=>
  clear aP bh;refine bF (S:=fun W=>Below w0.heap.size w0 W) 12 (by kernel_rfl) (by kernel_rfl) (aF w0) (fun hdr=>?_);have i:=Z (aF w0);clear hdr;generalize w0.drew=wc at *;refine aE 0 ?_;refine aE 1 ?_;refine aE 2 ?_;refine dF 3 (fun W h=>aB h bQ) ?_;refine aE 4 ?_;refine dF 5 (fun W h=>aB h bP) ?_;refine gW (rs:=[6,10]) (by decide +kernel) (cQ (by rfl) (fun C k=>?_) (cQ (by rfl) (fun C k=>?_) gV))
  ·skip
   have ae:=Z (af.o wc i.o);have aD:=Z i.o.size;go_simp
   go_at_call 41
   refine ae.o.mono ?_;rintro bx L ⟨F,G,H,J,I,K,rfl,aa,j⟩;have i:=Z (aG i j);have s:=Z (aa.mono (S':=fun q=>(q<w.heap.size)\/wc.heap.size<=q) fun q _ y=>y.elim (fun h=>.inl h.2.1) .inr);(try have f:=Z (bD j f.o));have az:=Z j.size;clear j aa ae af;(try dsimp only);have D:=Z (show TbS (fun q=>q<w.heap.size\/wc.heap.size<=q) L ((jB m nm).getD wR) F G H J I K from s.o);clear s
   first
    | (
     have s:=Z (D.o.mono (S':=fun q=>q≠ag) fun q _ y=>y.elim (fun h=>by have:=aI.o;omega) fun h=>by have:=aK.o;omega);clear D)
    | (
     have s:=D;clear D)
   clear aD az;obtain ⟨wc,rfl⟩:∃W,W=L:=⟨_,rfl⟩;refine k.out _ _ (by(exact i.o)) (fun hHeld2=>?_);clear k C;(try simp only [Act.put,sA,sB,sC]);refine aE 7 ?_;refine aE 8 ?_;refine aE 9 ?_;refine aV 10 fun C k=>?_;go_simp;have j:Below wc.heap.size wc (wc.alloc (.cells #[.string ⟨#[]⟩,.slice none 0 0,.int .i64 0,.bool false,.bool false,.slice none 0 0,.slice none 0 0,.int .i64 0] 67)):=bJ;have ab:=Z (cC wc (.cells #[.string ⟨#[]⟩,.slice none 0 0,.int .i64 0,.bool false,.bool false,.slice none 0 0,.slice none 0 0,.int .i64 0] 67));have aI:=Z (aH b4.o i.o.size);have aJ:=Z i.o.size;have aK:=Z (show wc.heap.size<(wc.alloc (.cells #[.string ⟨#[]⟩,.slice none 0 0,.int .i64 0,.bool false,.bool false,.slice none 0 0,.slice none 0 0,.int .i64 0] 67)).heap.size by simp);(try have s:=Z ((s.o.mono (S':=fun q=>q≠wc.heap.size) fun q y _=>by omega).below j aA));generalize aM:wc.alloc (.cells #[.string ⟨#[]⟩,.slice none 0 0,.int .i64 0,.bool false,.bool false,.slice none 0 0,.slice none 0 0,.int .i64 0] 67)=L at *;clear aM;have i:=Z (aG i j);clear j;generalize wc.heap.size=ag at *;obtain ⟨wc,rfl⟩:∃W,W=L:=⟨_,rfl⟩;(try dsimp only);have f:=ab;clear ab;refine k.out _ _ (by(exact i.o)) (fun hHeld3=>?_);clear k C;refine aV 11 fun C k=>?_;have A:=Z (aV7 (w0:=w0) f.o s.o i.o aJ.o);have N:=E f.o 0;have z1:=E f.o 1;have z2:=E f.o 2;have z3:=E f.o 3;have z4:=E f.o 4;have z5:=E f.o 5;have ai:=E f.o 6;have aj:=E f.o 7;have a2:=aQ f.o 0;have a3:=aQ f.o 1;have a4:=aQ f.o 2;have a5:=aQ f.o 3;have a6:=aQ f.o 4;have a7:=aQ f.o 5;have b9:=aQ f.o 6;have bA:=aQ f.o 7;simp only [dW,fF,dS] at N z1 z2 z3 z4 z5 ai aj;go_simp;refine k.out _ _ (by(exact A.o.b)) (fun hHeld4=>?_);clear k C;(try simp only [Act.put,sA,sB,sC]);refine cF (by decide +kernel) ?_;simp only [dL,cW];clear N z1 z2 z3 z4 z5 ai aj;go_wp2;go_meet
   case rel=>exact⟨ag,F,G,H,J,I,K,rfl,rfl,A.o⟩
  ·skip
   go_simp;have j:Below wc.heap.size wc (wc.alloc (.cells #[.string ⟨#[]⟩,.slice none 0 0,.int .i64 0,.bool false,.bool false,.slice none 0 0,.slice none 0 0,.int .i64 0] 67)):=bJ;have ab:=Z (cC wc (.cells #[.string ⟨#[]⟩,.slice none 0 0,.int .i64 0,.bool false,.bool false,.slice none 0 0,.slice none 0 0,.int .i64 0] 67));have aI:=Z (aH b4.o i.o.size);have aJ:=Z i.o.size;have aK:=Z (show wc.heap.size<(wc.alloc (.cells #[.string ⟨#[]⟩,.slice none 0 0,.int .i64 0,.bool false,.bool false,.slice none 0 0,.slice none 0 0,.int .i64 0] 67)).heap.size by simp);(try have s:=Z ((s.o.mono (S':=fun q=>q≠wc.heap.size) fun q y _=>by omega).below j aA));generalize aM:wc.alloc (.cells #[.string ⟨#[]⟩,.slice none 0 0,.int .i64 0,.bool false,.bool false,.slice none 0 0,.slice none 0 0,.int .i64 0] 67)=L at *;clear aM;have i:=Z (aG i j);clear j;generalize wc.heap.size=ag at *;obtain ⟨wc,rfl⟩:∃W,W=L:=⟨_,rfl⟩;(try dsimp only);have f:=ab;clear ab;refine k.out _ _ (by(exact i.o)) (fun hHeld2=>?_);clear k C;refine aV 6 fun C k=>?_;have ae:=Z (af.o wc i.o);have aD:=Z i.o.size;go_simp
   go_at_call 41
   refine ae.o.mono ?_;rintro bx L ⟨F,G,H,J,I,K,rfl,aa,j⟩;have i:=Z (aG i j);have s:=Z (aa.mono (S':=fun q=>(q<w.heap.size)\/wc.heap.size<=q) fun q _ y=>y.elim (fun h=>.inl h.2.1) .inr);(try have f:=Z (bD j f.o));have az:=Z j.size;clear j aa ae af;(try dsimp only);have D:=Z (show TbS (fun q=>q<w.heap.size\/wc.heap.size<=q) L ((jB m nm).getD wR) F G H J I K from s.o);clear s
   first
    | (
     have s:=Z (D.o.mono (S':=fun q=>q≠ag) fun q _ y=>y.elim (fun h=>by have:=aI.o;omega) fun h=>by have:=aK.o;omega);clear D)
    | (
     have s:=D;clear D)
   clear aD az;obtain ⟨wc,rfl⟩:∃W,W=L:=⟨_,rfl⟩;refine k.out _ _ (by(exact i.o)) (fun hHeld3=>?_);clear k C;(try simp only [Act.put,sA,sB,sC]);refine aE 7 ?_;refine aE 8 ?_;refine aE 9 ?_;refine aV 11 fun C k=>?_;have A:=Z (aV7 (w0:=w0) f.o s.o i.o aJ.o);have N:=E f.o 0;have z1:=E f.o 1;have z2:=E f.o 2;have z3:=E f.o 3;have z4:=E f.o 4;have z5:=E f.o 5;have ai:=E f.o 6;have aj:=E f.o 7;have a2:=aQ f.o 0;have a3:=aQ f.o 1;have a4:=aQ f.o 2;have a5:=aQ f.o 3;have a6:=aQ f.o 4;have a7:=aQ f.o 5;have b9:=aQ f.o 6;have bA:=aQ f.o 7;simp only [dW,fF,dS] at N z1 z2 z3 z4 z5 ai aj;go_simp;refine k.out _ _ (by(exact A.o.b)) (fun hHeld4=>?_);clear k C;(try simp only [Act.put,sA,sB,sC]);refine cF (by decide +kernel) ?_;simp only [dL,cW];clear N z1 z2 z3 z4 z5 ai aj;go_wp2;go_meet
   case rel=>exact⟨ag,F,G,H,J,I,K,rfl,rfl,A.o⟩
 case rest=>
  obtain ⟨aX,F,G,H,J,I,K,rfl,rfl,A⟩:=hcut;have bL:=Z (show(jB m nm).isSome=true->vC ((jB m nm).getD wR) from fun h=>aJ9 bj.o h);have aL:=Z (show(if (jB m nm).isSome=true then(jE ((jB m nm).getD wR) l,(0:Int)) else(eZ,5))=z from by rw [<-aP.o];exact(aOs (x:=⟨12,nm,⟨U,V,O⟩,args,ah⟩) rfl).symm);generalize (jB m nm).getD wR=t at *;generalize (jB m nm).isSome=bO at *;obtain ⟨bd,bf,⟨bg,tb,⟨bc,be,ba⟩,bb⟩⟩:=t;have ak:=Z ((A.b.block _ (bH bs.o).1).trans bs.o);have au:=Z (P.o.trans (A.b.mono P.o.size));have M:=Z A.x;have b8:=Z A.t;have b7:=Z ((bh.o.below P.o aA).below A.b aA);clear A af aP;cases bO
  case false=>
   have ar:=Z (show(eZ,(5:Int))=z from aL.o);have aw:=Z (show gA (jZ S w wc) wc eZ none 0 none 0 from⟨(show eI 0 from⟨by decide,by decide⟩),(show eI 0 from⟨by decide,by decide⟩),.nil _ _ _ _,⟨aA,aN⟩,.nil _ _ _ _,⟨aA,aN⟩⟩);have av:=Z (nI (v:=eZ) (er:=5) ak.o (by omega) aw.o au.o [(0,.int .i64 0),(1,.bool false),(2,.bool false),(3,.slice none 0 0),(4,.slice none 0 0),(5,.int .i64 0)]);obtain ⟨N,z1,z2,z3,z4,z5⟩:=gC ak.o;obtain ⟨a2,a3,a4,a5,a6,a7⟩:=jC ak.o;go_wp2;refine bodyPost_ret (v:=.tuple #[.agg #[.int .i64 0,.bool false,.bool false,.slice none 0 0,.slice none 0 0,.int .i64 0],.int .i64 5]) (by simp [results,results90,go_sem, *]) rfl ?_;rw [<-ar.o];exact av.o
  case true=>
   have ar:=Z (show(jE ⟨bd,bf,⟨bg,tb,⟨bc,be,ba⟩,bb⟩⟩ l,(0:Int))=z from aL.o);have a8:=Z (aMz ⟨bd,bf,⟨bg,tb,⟨bc,be,ba⟩,bb⟩⟩ F G H J I K aR Q aS l wc b8.o b7.o (bL.o rfl) bG);obtain ⟨v,b3⟩:∃v,jE ⟨bd,bf,⟨bg,tb,⟨bc,be,ba⟩,bb⟩⟩ l=v:=⟨_,rfl⟩;rw [b3] at a8 ar;obtain ⟨aY,ay,⟨aW,u8,a0⟩,a1⟩:=v;clear aL b3;have u0:=E M.o 0;have u1:=E M.o 1;have u2:=E M.o 2;have u3:=E M.o 3;have u4:=E M.o 4;have u5:=E M.o 5;have u6:=E M.o 6;have u7:=E M.o 7;simp only [dW,fF,dS] at u0 u1 u2 u3 u4 u5 u6 u7
   go_wp2_with fail
   refine a8.o.mono ?_;rintro bx bV ⟨bt,bv,bu,bw,rfl,br,aC⟩;have ax:=Z (bD aC ak.o);have b6:=Z (aG au aC);have aw:=Z (br.mono (S':=jZ S w bV) fun q _ y=>.inr ⟨y.1,aH au.o.size y.2⟩);clear br aC a8 u0 u1 u2 u3 u4 u5 u6 u7;have av:=Z (nI (v:=⟨aY,ay,⟨aW,u8,a0⟩,a1⟩) (er:=0) ax.o (by omega) aw.o b6.o [(0,.int .i64 aY),(1,.bool ay),(2,.bool aW),(3,.slice bt u8.length bv),(4,.slice bu a0.length bw),(5,.int .i64 a1)]);obtain ⟨N,z1,z2,z3,z4,z5⟩:=gC ax.o;obtain ⟨a2,a3,a4,a5,a6,a7⟩:=jC ax.o;go_wp2;refine bodyPost_ret (v:=.tuple #[.agg #[.int .i64 aY,.bool ay,.bool aW,.slice bt u8.length bv,.slice bu a0.length bw,.int .i64 a1],.int .i64 0]) (by simp [results,results90,go_sem, *]) rfl ?_;rw [<-ar.o];exact av.o
theorem aM5 (p:Nat) (P:gL) (a1:Option Addr) (a2:Nat) (x:aZ) (a:Option Addr) (c:Nat) (b:Option Addr) (d:Nat) (g:Option Addr) (e:Nat) (ag:Option Addr) (m ah:Nat) (l:List bS) (w:World)
  (au:w.cell? ⟨p,1,none⟩=some (.slice a1 P.length a2)) (ar:yB S w P a1 a2) (ax:mO P) (ay:eD S w x a c b d g e) (h:bT iZ S w ag m l) (aE:m<=ah) (aI:m<=1000000) (aw:∀v∈l,eB v) (aa:aD1 x.op m) (k:¬(x.op=1\/x.op=2)) (L:¬(x.op=3\/x.op=4\/x.op=5\/x.op=6\/x.op=7)) (M:¬(x.op=8\/x.op=9)) (K:¬(x.op=17\/x.op=18\/x.op=19\/x.op=20)) (H:¬(x.op=10)) (I:¬(x.op=11)) (J:¬(x.op=12)) :
  Calls prog 90 #[.pointer (some ⟨p,0,none⟩),lI x a c b d g e,.slice ag m ah] w fun e w'=>wY S (bN P x l) w e w':=by
 obtain ⟨z,af⟩:∃z,bN P x l=z:=⟨_,rfl⟩;have a0:=Z af;rw [af];obtain ⟨op,nm,⟨N,O,G⟩,args,U⟩:=x;have aM:=Z ar;have aN:=Z ax;have aP:=Z ay;have a5:=Z h;have aK:=Z aw;have b6:=Z h.1;have av:=Z aa.1;have aJ:=Z aa.2;dsimp only at *;have ai:=Z k;have an:=Z L;have ao:=Z M;have am:=Z K;have aj:=Z H;have ak:=Z I;have al:=Z J;clear k L M K H I J;clear af ar ax ay h aw aa;have a8:=Z (eV w (.cells #[.int .i64 op,.string nm,.bool N,.slice a O.length c,.slice b G.length d,.slice g args.length e,.int .i64 U] 38) (.cells #[.int .i64 0,.bool false,.bool false,.slice none 0 0,.slice none 0 0,.int .i64 0] 64));have t:=fI w (.cells #[.int .i64 op,.string nm,.bool N,.slice a O.length c,.slice b G.length d,.slice g args.length e,.int .i64 U] 38) (.cells #[.int .i64 0,.bool false,.bool false,.slice none 0 0,.slice none 0 0,.int .i64 0] 64);have Q:=Z (cV w (.cells #[.int .i64 op,.string nm,.bool N,.slice a O.length c,.slice b G.length d,.slice g args.length e,.int .i64 U] 38) (.cells #[.int .i64 0,.bool false,.bool false,.slice none 0 0,.slice none 0 0,.int .i64 0] 64));generalize aL:(w.alloc (.cells #[.int .i64 op,.string nm,.bool N,.slice a O.length c,.slice b G.length d,.slice g args.length e,.int .i64 U] 38)).alloc (.cells #[.int .i64 0,.bool false,.bool false,.slice none 0 0,.slice none 0 0,.int .i64 0] 64)=w0 at *;have b7:w0.cell? ⟨w.heap.size,0,none⟩=some (.int .i64 op):=E t 0;have b8:w0.cell? ⟨w.heap.size,1,none⟩=some (.string nm):=E t 1;have b9:w0.cell? ⟨w.heap.size,2,none⟩=some (.bool N):=E t 2;have bA:w0.cell? ⟨w.heap.size,3,none⟩=some (.slice a O.length c):=E t 3;have bB:w0.cell? ⟨w.heap.size,4,none⟩=some (.slice b G.length d):=E t 4;have bC:=aB Q.o au;clear t;go_enter func90,ntmps90
 go_upto_region 1 with fail
 clear aL au;have k:=ai.o;clear ai;have L:=an.o;clear an;have M:=ao.o;clear ao;have K:=am.o;clear am;have H:=aj.o;clear aj;have I:=ak.o;clear ak;have J:=al.o;clear al;have aF:=Z k;have az:=Z (show((⟨1,false,(pC op l).1,0⟩:bS),(pC op l).2)=z from by rw [<-a0.o];exact((if_neg k).trans ((if_neg L).trans ((if_neg M).trans ((if_neg K).trans ((if_neg H).trans ((if_neg I).trans (if_neg J))))))).symm);have ad:=Z (aMx op ag m ah l w0 ((a5.o.mono (S':=fun q=>q<w.heap.size/\S q) fun q ae aD=>⟨ae,aD⟩).below Q.o aA) (by have:=av.o;omega) aE aI aK.o);obtain ⟨R,aq⟩:∃R,pC op l=R:=⟨_,rfl⟩;rw [aq] at ad az;obtain ⟨⟨f,i,j⟩,er⟩:=R;dsimp only at *;have bl:(op == 1)=false:=by simp;omega
 have bm:decide (op=1)=false:=aR (by omega);have bp:(op == 2)=false:=by simp;omega
 have bq:decide (op=2)=false:=aR (by omega);have br:(op == 3)=false:=by simp;omega
 have bs:decide (op=3)=false:=aR (by omega);have bt:(op == 4)=false:=by simp;omega
 have bu:decide (op=4)=false:=aR (by omega);have bv:(op == 5)=false:=by simp;omega
 have bw:decide (op=5)=false:=aR (by omega);have bx:(op == 6)=false:=by simp;omega
 have bz:decide (op=6)=false:=aR (by omega);have b0:(op == 7)=false:=by simp;omega
 have b1:decide (op=7)=false:=aR (by omega);have b2:(op == 8)=false:=by simp;omega
 have b3:decide (op=8)=false:=aR (by omega);have b4:(op == 9)=false:=by simp;omega
 have b5:decide (op=9)=false:=aR (by omega);have aY:(op == 10)=false:=by simp;omega
 have ba:decide (op=10)=false:=aR (by omega);have bb:(op == 11)=false:=by simp;omega
 have bc:decide (op=11)=false:=aR (by omega);have bd:(op == 12)=false:=by simp;omega
 have be:decide (op=12)=false:=aR (by omega);have bf:(op == 17)=false:=by simp;omega
 have bg:decide (op=17)=false:=aR (by omega);have bh:(op == 18)=false:=by simp;omega
 have bi:decide (op=18)=false:=aR (by omega);have bj:(op == 19)=false:=by simp;omega
 have bk:decide (op=19)=false:=aR (by omega);have bn:(op == 20)=false:=by simp;omega
 have bo:decide (op=20)=false:=aR (by omega);clear k L M K H I J av aJ aF a0 aq
 go_wp2_with fail
 refine ad.o.mono ?_;rintro aQ s ⟨A,D,C,F,rfl,ap,ab⟩;have a9:=Z (bD ab a8.o);have a3:=Z (aG Q ab);have Y:=Z ((aO s.heap.size s).alloc aA (.cells #[.bool f,.slice A i.length D,.slice C j.length F] 36));have aC:=Z (cC s (.cells #[.bool f,.slice A i.length D,.slice C j.length F] 36));have y:=ap.mono (S':=jZ S w s) fun q _ ae=>ae.elim (fun h=>.inl h.2) fun h=>.inr ⟨h.1,aH Q.o.size h.2⟩
 have a7:=Z (gA.moveBelow (S:=S) (w:=w) (W:=s) (v:=⟨1,false,⟨f,i,j⟩,0⟩) ⟨(show eI 1 from⟨by decide,by decide⟩),(show eI 0 from⟨by decide,by decide⟩),y.num,y.nc,y.den,y.dc⟩ Y.o);clear ap ab y ad
 go_upto_region 31 with fail
 generalize (s.alloc (.cells #[.bool f,.slice A i.length D,.slice C j.length F] 36))=bE at *;have V:=Z (bD Y.o a9.o);have a4:=Z (aG a3 Y.o);obtain ⟨u0,u1,u2⟩:=eH aC.o;have a6:=Z (nI (v:=⟨1,false,⟨f,i,j⟩,0⟩) (er:=er) V.o (by omega) a7.o a4.o [(0,.int .i64 1),(1,.bool false),(2,.bool f),(3,.slice A i.length D),(4,.slice C j.length F),(5,.int .i64 0)]);obtain ⟨bF,z1,z2,z3,z4,z5⟩:=gC V.o;obtain ⟨aS,aT,aU,aV,aW,aX⟩:=jC V.o;go_wp2;refine bodyPost_ret (v:=.tuple #[.agg #[.int .i64 1,.bool false,.bool f,.slice A i.length D,.slice C j.length F,.int .i64 0],.int .i64 er]) (by simp [results,results90,go_sem, *]) rfl ?_;rw [<-az.o];exact a6.o
theorem aQc (p:Nat) (i:gL) (m:Option Addr) (o:Nat) (x:aZ) (a:Option Addr) (c:Nat) (b:Option Addr) (d:Nat) (g:Option Addr) (e:Nat) (j:Option Addr) (f k:Nat) (l:List bS) (w:World)
  (A:w.cell? ⟨p,1,none⟩=some (.slice m i.length o)) (y:yB S w i m o) (D:mO i) (E:eD S w x a c b d g e) (h:bT iZ S w j f l) (t:f<=k) (z:f<=1000000) (C:∀v∈l,eB v) (s:aD1 x.op f) :
  Calls prog 90 #[.pointer (some ⟨p,0,none⟩),lI x a c b d g e,.slice j f k] w fun e w'=>wY S (bN i x l) w e w':=by
 by_cases q:x.op=1\/x.op=2
 ·exact aSn p i m o x a c b d g e j f k l w A y D E h t z C s q
 by_cases F:x.op=3\/x.op=4\/x.op=5\/x.op=6\/x.op=7
 ·exact aSo p i m o x a c b d g e j f k l w A y D E h t z C s q F
 by_cases G:x.op=8\/x.op=9
 ·exact aSp p i m o x a c b d g e j f k l w A y D E h t z C s q F G
 by_cases H:x.op=17\/x.op=18\/x.op=19\/x.op=20
 ·exact aP8 p i m o x a c b d g e j f k l w A y D E h t z C s q F G H
 by_cases I:x.op=10
 ·exact aP9 p i m o x a c b d g e j f k l w A y D E h t z C s q F G H I
 by_cases J:x.op=11
 ·exact aQa p i m o x a c b d g e j f k l w A y D E h t z C s q F G H I J
 by_cases K:x.op=12
 ·exact aQb p i m o x a c b d g e j f k l w A y D E h t z C s q F G H I J K
 exact aM5 p i m o x a c b d g e j f k l w A y D E h t z C s q F G H I J K
end
theorem aSq (w:World) (nm:ByteArray) (f:nm.size<=1000000):oH w nm eA [] 12 none none none 0 0 0:=
 ⟨bT.nil _ _ _ _,bT.nil _ _ _ _,bT.nil _ _ _ _,⟨aA,aN⟩,⟨aA,aN⟩,⟨aA,aN⟩,by decide,f,⟨by decide,by decide⟩,fun e=>by cases e⟩
variable {X : Nat -> Prop} {B p : Nat} {T : gE} {w w' W : World} {v1 v2 v3 v' : Value}
structure kC (X:Nat->Prop) (B p:Nat) (T:gE) (w:World):Prop where
 bp:B<=p
 xlt:∀k,X k->k<w.heap.size
 blk:∃v1 v2 v3,w.heap[p]? = some (.cells #[v1,v2,v3] 107 (0,0))/\cA cH.str (fun _=>False) w B 9 v1 T.sorts/\cA oZ (kB X w) w B 114 v2 T.funs/\cA aUj (fun _=>False) w B 329 v3 T.marks
theorem kC.plt (h:kC X B p T w):p<w.heap.size:=by obtain ⟨v1,v2,v3,e,_⟩:=h.blk;exact(bH e).1
theorem kC.ownB (h:kC X B p T w) {k:Nat} (e:eQ w p k):B<=k/\k<w.heap.size:=by
 obtain ⟨v1,v2,v3,j,f,g,i⟩:=h.blk;rcases (qB j).1 e with rfl | e | e | e
 ·exact⟨h.bp,h.plt⟩
 ·exact f.lt k e
 ·exact g.lt k e
 ·exact i.lt k e
theorem kC.ownI (h:kC X B p T w) {k:Nat} (e:eQ w p k):¬kB X w k:=fun f=>by
 obtain ⟨v1,v2,v3,g,i,j,l⟩:=h.blk;rcases (qB g).1 e with rfl | e | e | e
 ·exact cO (by decide) ⟨_,_,g⟩ f.2
 ·exact cO (by decide) (i.ty k e) f.2
 ·exact cO (by decide) (j.ty k e) f.2
 ·exact cO (by decide) (l.ty k e) f.2
theorem kC.keep (h:kC X B p T w) (g:∀k,eQ w p k->w'.heap[k]? = w.heap[k]?) (o:∀k,kB X w k->w'.heap[k]? = w.heap[k]?) (i:w.heap.size<=w'.heap.size):kC X B p T w':=by
 obtain ⟨v1,v2,v3,f,j,l,m⟩:=h.blk;refine⟨h.bp,fun k q=>bG (h.xlt k q) i,v1,v2,v3,(g p (.inl rfl)).trans f,j.keep (fun _ _ h=>h.elim) (fun k e=>g k ((qB f).2 (.inr (.inl e)))) i,l.keepI o (fun k e=>g k ((qB f).2 (.inr (.inr (.inl e))))) i,m.keep (fun _ _ h=>h.elim) (fun k e=>g k ((qB f).2 (.inr (.inr (.inr e))))) i⟩
theorem kC.all (h:kC X B p T w) (e:Below w.heap.size w w'):kC X B p T w':=h.keep (fun k f=>e.block k (h.ownB f).2) (fun k f=>e.block k f.lt) e.size
theorem kC.stepBelow (h:kC X B p T w) (f:iI p w w'):Below B w w':=f.below (aH h.bp (gM h.plt)) fun _ e=>(h.ownB e).1
theorem kC.setSorts (h:kC X B p T w) (j:w.heap[p]? = some (.cells #[v1,v2,v3] 107 (0,0))) (g:w.grownBy W v1.ownBlock) (z:v'.ownBlock=v1.ownBlock\/∀k,v'.ownBlock=some k->w.heap.size<=k) {l:List ByteArray} (x:cA cH.str (fun _=>False) W B 9 v' l) :
  kC X B p { T with sorts:=l } (W.setCell ⟨p,0,none⟩ v')/\iI p w (W.setCell ⟨p,0,none⟩ v'):=by
 obtain ⟨u1,u2,u3,v,m,o,q⟩:=h.blk;rw [j] at v;cases v;have y:v1.ownBlock≠some p:=fun e=>cO (by decide) (m.ty p e) ⟨_,_,j⟩
 have C:v2.ownBlock≠some p:=fun e=>cO (by decide) (o.ty p e) ⟨_,_,j⟩
 have D:v3.ownBlock≠some p:=fun e=>cO (by decide) (q.ty p e) ⟨_,_,j⟩
 obtain ⟨G,H,t⟩:=zJ (v':=v') j (i:=0) rfl g y z;have E:W.heap[p]? = w.heap[p]?:=g.block p h.plt (lN y);have A:v'.ownBlock≠some p:=fun e=>cO (by decide) (x.ty p e) ⟨_,_,E.trans j⟩
 have s:(W.setCell ⟨p,0,none⟩ v').heap.size=W.heap.size:=by simp [World.setCell]
 refine⟨⟨h.bp,fun k F=>bG (h.xlt k F) (aH g.size (cD s.symm)),v',v2,v3,H,x.keep (fun _ _ h=>h.elim) (fun k f=>t k fun e=>A (by rw [<-e];exact f)) (cD s.symm),o.keepI (fun k f=>?_) (fun k f=>?_) (by rw [s];exact g.size),q.keep (fun _ _ h=>h.elim) (fun k f=>?_) (by rw [s];exact g.size)⟩,G⟩
 ·rw [t k fun e=>by subst e;exact cO (by decide) ⟨_,_,j⟩ f.2];exact g.block k f.lt fun e=>cO (by decide) (m.ty k e.symm) f.2
 ·rw [t k fun e=>C (by rw [<-e];exact f)];exact g.block k (o.lt k f).2 fun e=>gZ o m (by decide) f e.symm
 ·rw [t k fun e=>D (by rw [<-e];exact f)];exact g.block k (q.lt k f).2 fun e=>gZ q m (by decide) f e.symm
theorem kC.setFuns (h:kC X B p T w) (g:w.heap[p]? = some (.cells #[v1,v2,v3] 107 (0,0))) (j:w.grownBy W v2.ownBlock) (A:v'.ownBlock=v2.ownBlock\/∀k,v'.ownBlock=some k->w.heap.size<=k) {l:List kG} (x:cA oZ (kB X W) W B 114 v' l) :
  kC X B p { T with funs:=l } (W.setCell ⟨p,1,none⟩ v')/\iI p w (W.setCell ⟨p,1,none⟩ v'):=by
 obtain ⟨u1,u2,u3,v,m,t,o⟩:=h.blk;rw [g] at v;cases v;have D:v1.ownBlock≠some p:=fun e=>cO (by decide) (m.ty p e) ⟨_,_,g⟩
 have y:v2.ownBlock≠some p:=fun e=>cO (by decide) (t.ty p e) ⟨_,_,g⟩
 have E:v3.ownBlock≠some p:=fun e=>cO (by decide) (o.ty p e) ⟨_,_,g⟩
 obtain ⟨G,H,s⟩:=zJ (v':=v') g (i:=1) rfl j y A;have z:W.heap[p]? = w.heap[p]?:=j.block p h.plt (lN y);have C:v'.ownBlock≠some p:=fun e=>cO (by decide) (x.ty p e) ⟨_,_,z.trans g⟩
 have q:(W.setCell ⟨p,1,none⟩ v').heap.size=W.heap.size:=by simp [World.setCell]
 refine⟨⟨h.bp,fun k F=>bG (h.xlt k F) (aH j.size (cD q.symm)),v1,v',v3,H,m.keep (fun _ _ h=>h.elim) (fun k f=>?_) (by rw [q];exact j.size),x.keepI (fun k f=>s k fun e=>?_) (fun k f=>s k fun e=>C (by rw [<-e];exact f)) (cD q.symm),o.keep (fun _ _ h=>h.elim) (fun k f=>?_) (by rw [q];exact j.size)⟩,G⟩
 ·rw [s k fun e=>D (by rw [<-e];exact f)];exact j.block k (m.lt k f).2 fun e=>gZ m t (by decide) f e.symm
 ·subst e;exact cO (by decide) ⟨_,_,z.trans g⟩ f.2
 ·rw [s k fun e=>E (by rw [<-e];exact f)];exact j.block k (o.lt k f).2 fun e=>gZ o t (by decide) f e.symm
theorem kC.look {B p:Nat} {T:gE} {w:World} (h:kC X B p T w):∃e c1 f c2 g c3,w.heap[p]? = some (.cells #[.slice e T.sorts.length c1,.slice f T.funs.length c2,.slice g T.marks.length c3] 107 (0,0)) /\
  cA cH.str (fun _=>False) w B 9 (.slice e T.sorts.length c1) T.sorts/\cA oZ (kB X w) w B 114 (.slice f T.funs.length c2) T.funs/\cA aUj (fun _=>False) w B 329 (.slice g T.marks.length c3) T.marks:=by
 obtain ⟨v1,v2,v3,l,i,j,k⟩:=h.blk;obtain ⟨e,c1,rfl,_⟩:=i.slice;obtain ⟨f,c2,rfl,_⟩:=j.slice;obtain ⟨g,c3,rfl,_⟩:=k.slice;exact⟨e,c1,f,c2,g,c3,l,i,j,k⟩
def aF4 (xs ys:List Int):Bool:=decide (xs=ys)
theorem aQd {xs ys:List Int} (h:xs.length≠ys.length):false=aF4 xs ys:=by
 unfold aF4;symm;rw [decide_eq_false_iff_not];rintro rfl;exact h rfl
theorem aSr (a b:Option Addr) (n m c d:Nat) (xs ys:List Int) (w:World) (g:jQ w a n xs) (hy:jQ w b m ys) (J:n<4611686018427387904) :
  Calls prog 30 #[.slice a n c,.slice b m d] w fun e w'=>e = .returned (.bool (aF4 xs ys))/\∃q,w'=w.drewN q:=by
 have l:=Z g.len;have x:=Z hy.len;have D:=Z g;have E:=Z hy;clear g hy;by_cases h:n=m
 ·subst h;go_enter func30,ntmps30
  go_wp2
  go_loopw [5] (fun i wr=>∃k:Nat,k<=n/\i = .int .i64 k/\Hid (∀j,j<k->nth xs j=nth ys j)/\∃q,wr=w.drewN q) (fun i _=>n - (intOf i).toNat)
  case atStart=>exact⟨0,aN,rfl,by intro j t;omega,0,rfl⟩
  case round=>
   obtain ⟨k,I,rfl,s,q,rfl⟩:=hrel;by_cases v:k<n
   ·obtain ⟨F,K,rfl,G⟩:=D.o.at k v;obtain ⟨b2,L,rfl,y⟩:=E.o.at k v;by_cases f:nth xs k=nth ys k
    ·have z:(nth xs k != nth ys k)=false:=by rw [f];simp
     have A:=Z f;clear f;go_wp2
     go_quiet (fail)
     go_wp2
     go_roundw
     case rel=>
      refine⟨k+1,by omega,by go_num,?_,_,rfl⟩;intro j t;by_cases C:j<k
      ·exact s.o j C
      ·obtain rfl:j=k:=by omega
       exact A.o
     case measure=>simp [intOf];omega
    ·have z:(nth xs k != nth ys k)=true:=by simpa using f
     go_wp2
     go_quiet (fail)
     go_wp2;go_ret;refine⟨aI ?_,q+nq,by rw [kP]⟩
     symm;unfold aF4;rw [decide_eq_false_iff_not];rintro rfl;exact f rfl
   ·go_wp2;go_ret;refine⟨aI ?_,_,rfl⟩
    symm;unfold aF4;rw [decide_eq_true_iff]
    exact aC0 (by rw [l.o,x.o]) (fun j t=>s.o j (by have:=l.o;omega))
 ·have y:((n:Int) == (m:Int))=false:=by simp;omega
  have H:((n:Int) != (m:Int))=true:=by simp;omega
  go_enter func30,ntmps30
  go_wp2;go_ret;exact⟨aI (aQd (by rw [l.o,x.o];exact h)),0,rfl⟩
variable {X : Nat -> Prop}
theorem toList_inj {a b:ByteArray} (h:a.toList=b.toList):a=b:=by
 rw [tJ,tJ] at h;cases a;cases b;simp at h;rw [ByteArray.mk.injEq];exact h
theorem wF {a b:ByteArray}:(a.toList == b.toList)=true↔a=b:=⟨fun h=>toList_inj (by simpa using h),fun h=>by subst h;simp⟩
theorem aM6 {a b:ByteArray} (h:(a.toList == b.toList)=false):a≠b:=fun e=>by subst e;simp at h
theorem aSs (s:ByteArray):zH s=true↔s∈fG:=Lib.containsS_iff fG s
theorem aE9 (s:ByteArray) (w:World):Calls prog 155 #[.string s] w fun e w'=>e = .returned (.bool (zH s))/\Below w.heap.size w w':=by
 have C:=Z (aSs s);have l:fG.length=27:=by decide
 have x:=Z l;have D:=Z (show ∀k,k<27->(w.alloc (.cells (fG.map Value.string).toArray 9)).cell? ⟨w.heap.size,k,none⟩=some (.string (fG.getD k ByteArray.empty)) from fun k v=>by
  rw [kO];simp [List.getD,l,v])
 clear l;go_enter func155,ntmps155
 go_wp2
 go_loopw [2,4] (fun _ i wr=>∃k:Nat,k<=27/\i = .int .i64 k/\wr=w.alloc (.cells (fG.map Value.string).toArray 9)/\Hid (∀j,j<k->fG.getD j ByteArray.empty≠s)) (fun _ i _=>27 - (intOf i).toNat)
 case atStart=>exact⟨0,aN,rfl,by rfl,by intro j g;omega⟩
 case round=>
  obtain ⟨k,v,rfl,rfl,A⟩:=hrel;have m:Below w.heap.size w (w.alloc (.cells (fG.map Value.string).toArray 9)):=bJ;have q:=Z m;clear m;by_cases y:k<27
  ·have I:=D.o k y;have F:=Z (show fG.getD k ByteArray.empty∈fG by
    have:k<fG.length:=by rw [x.o];exact y
    simp [List.getD,this])
   have G:=Z (fun(h:fG.getD k ByteArray.empty≠s)=>show ∀j,j<k+1->fG.getD j ByteArray.empty≠s from fun j g=>by
    by_cases e:j=k
    ·subst e;exact h
    ·exact A.o j (by omega))
   generalize fG.getD k ByteArray.empty=z at *;generalize w.alloc (.cells (fG.map Value.string).toArray 9)=K at *;cases t:(z.toList == s.toList)
   ·have f:=Z (G.o (aM6 t));go_wp2
    go_roundw
    case rel=>exact⟨k+1,by omega,by go_num,by trivial,f.o⟩
    case measure=>simp [intOf];omega
   ·have f:=@Z (true=zH s) (by symm;rw [C.o,<-wF.1 t];exact F.o);go_wp2;go_ret;exact⟨aI f.o,q.o⟩
  ·have f:=@Z (false=zH s) (by
    symm
    cases H:zH s
    ·rfl
    ·have E:=C.o.1 H;obtain ⟨j,g,e⟩:=gU E;have J:j<27:=by rw [<-x.o];exact g
     exact absurd (show fG.getD j ByteArray.empty=s by simp [List.getD,g,e]) (A.o j (by omega)))
   go_wp2;go_ret;exact⟨aI f.o,q.o⟩
theorem aF5 (s:ByteArray) (w:World):Calls prog 108 #[.string s] w fun e w'=>e = .returned (.bool (nC s))/\Below w.heap.size w w':=by
 have hd:=@Z (nC s=(!s.toList.isEmpty && (decide (s.size<=200) && !zH s))) rfl;have i:=@Z (s.toList.isEmpty=decide (s.size=0)) (by
  rw [tJ];have:s.size=s.data.toList.length:=by simp
  rw [this];cases s.data.toList <;> simp)
 have m:=Z (aE9 s w);by_cases q:1<=s.size
 ·have j:(1:Int)<=s.size:=by omega
  by_cases g:s.size<=200
  ·have k:(s.size:Int)<=200:=by omega
   have f:=@Z (nC s = !zH s) (by rw [hd.o,i.o];simp [g,show ¬s.size=0 by omega]);go_enter func108,ntmps108
   go_wp2_with fail
   refine m.o.mono ?_;rintro e t ⟨rfl,h⟩;have l:=Z h;clear h;go_wp2;go_ret;exact⟨aI f.o.symm,l.o⟩
  ·have k:¬(s.size:Int)<=200:=by omega
   have f:=@Z (false=nC s) (by rw [hd.o];simp [g]);go_enter func108,ntmps108
   go_wp2;go_ret;exact⟨aI f.o,aO _ _⟩
 ·have j:¬(1:Int)<=s.size:=by omega
  have f:=@Z (false=nC s) (by rw [hd.o,i.o];simp [show s.size=0 by omega]);go_enter func108,ntmps108
  go_wp2;go_ret;exact⟨aI f.o,aO _ _⟩
theorem aH3 (B p:Nat) (T:gE) (s:Int) (w:World) (h:kC X B p T w) (m:T.sorts.length<1099511627776):Calls prog 113 #[.pointer (some ⟨p,0,none⟩),.int .i64 s] w fun e w'=>e = .returned (.bool (xK T.sorts.length s))/\w=w':=by
 obtain ⟨j,c1,k,c2,l,c3,i,_⟩:=h.look;have q:w.cell? ⟨p,0,none⟩=some (.slice j T.sorts.length c1):=E i 0;have hd:=@Z (xK T.sorts.length s=(decide (0<=s) && decide (s<2+(T.sorts.length:Int)))) rfl;clear i h;generalize T.sorts.length=n at *;by_cases g:0<=s
 ·have f:=@Z (decide (s<(n:Int)+2)=xK n s) (by rw [hd.o,Int.add_comm];simp [g]);go_enter func113,ntmps113
  go_wp2;go_ret;exact⟨aI f.o,rfl⟩
 ·have f:=@Z (false=xK n s) (by rw [hd.o];simp [g]);go_enter func113,ntmps113
  go_wp2;go_ret;exact⟨aI f.o,rfl⟩
theorem aA5 {x:ByteArray}:∀ {zs:List ByteArray} {k i:Nat},(∀j,j<k->zs.getD j ByteArray.empty≠x)->k<=zs.length->Lib.idxFromS zs x i=Lib.idxFromS (zs.drop k) x (i+k)
 | zs,0,i,_,_=>by simp
 | [],k+1,i,_,hk=>by simp at hk
 |
  z :: zs,k+1,i,h,hk=>by
  have e:z≠x:=h 0 (by omega);rw [dL,<-nB,Nat.add_right_comm,<-aA5 (zs:=zs) (k:=k) (i:=i+1) (fun j f=>by simpa using h (j+1) (by omega)) (by simpa using hk)];rw [Lib.idxFromS];simp [e]
theorem aSt {zs:List ByteArray} {x:ByteArray} {k:Nat} (h:∀j,j<k->zs.getD j ByteArray.empty≠x) (f:k<zs.length) (g:zs.getD k ByteArray.empty=x):Lib.idxOfS zs x=k:=by
 show Lib.idxFromS zs x 0=k;rw [aA5 h (gM f),dT,kY f];have e:zs[k]=x:=by simpa [List.getD,f] using g
 rw [Lib.idxFromS];simp [e]
theorem aQe {zs:List ByteArray} {x:ByteArray} (h:∀j,j<zs.length->zs.getD j ByteArray.empty≠x):Lib.idxOfS zs x = -1:=by
 show Lib.idxFromS zs x 0 = -1;rw [aA5 h aA,tG];rfl
theorem aFa (B p:Nat) (T:gE) (s:ByteArray) (w:World) (h:kC X B p T w) (N:T.sorts.length<1099511627776) :
  Calls prog 107 #[.pointer (some ⟨p,0,none⟩),.string s] w fun e w'=>e = .returned (.tuple #[.int .i64 (kJ T s).1,.bool (kJ T s).2])/\w=w':=by
 obtain ⟨F,c1,J,c2,K,c3,t,D,_⟩:=h.look;have O:w.cell? ⟨p,0,none⟩=some (.slice F T.sorts.length c1):=E t 0;have I:=Z (D.read (S':=fun _=>True) (fun _ _ _=>trivial) (fun _ _=>trivial));have hd:=@Z (kJ T s=if s.toList == [66,111,111,108] then(0,true) else if s.toList == [82,101,97,108] then(1,true) else if Lib.idxOfS T.sorts s<0 then(0,false) else(2+Lib.idxOfS T.sorts s,true)) rfl;clear t h D;cases l:(s.toList == [66,111,111,108])
 case true=>
  have f:=@Z (kJ T s=(0,true)) (by rw [hd.o,l];rfl);go_enter func107,ntmps107
  go_wp2;go_ret2;exact⟨by rw [f.o] <;> rfl,rfl⟩
 case false=>
 cases q:(s.toList == [82,101,97,108])
 case true=>
  have f:=@Z (kJ T s=(1,true)) (by rw [hd.o,l,q];rfl);go_enter func107,ntmps107
  go_wp2;go_ret2;exact⟨by rw [f.o] <;> rfl,rfl⟩
 case false=>
 have y:=@Z (kJ T s=if Lib.idxOfS T.sorts s<0 then(0,false) else(2+Lib.idxOfS T.sorts s,true)) (by rw [hd.o,l,q];rfl);clear hd;generalize T.sorts=zs at *;go_enter func107,ntmps107
 go_wp2
 go_loopw [4,5,6] (fun _ _ i wr=>∃k:Nat,k<=zs.length/\i = .int .i64 k/\wr=w/\Hid (∀j,j<k->zs.getD j ByteArray.empty≠s)) (fun _ _ i _=>zs.length - (intOf i).toNat)
 case atStart=>exact⟨0,aN,rfl,rfl,by intro j g;omega⟩
 case round=>
  obtain ⟨k,M,rfl,rfl,m⟩:=hrel;by_cases C:k<zs.length
  ·obtain ⟨b,o,rfl,v⟩:=I.o.strs (by omega);have L:=v k C;have H:=Z (fun(h:zs.getD k ByteArray.empty≠s)=>show ∀j,j<k+1->zs.getD j ByteArray.empty≠s from fun j g=>by
    by_cases e:j=k
    ·subst e;exact h
    ·exact m.o j (by omega))
   have G:=Z (fun h=>aSt (x:=s) (fun j g=>m.o j g) C h);clear v;generalize zs.getD k ByteArray.empty=z at *;cases A:(z.toList == s.toList)
   ·have f:=Z (H.o (aM6 A));go_wp2
    go_roundw
    case rel=>exact⟨k+1,by omega,by go_num,by trivial,f.o⟩
    case measure=>simp [intOf];omega
   ·have f:=@Z (kJ T s=((k:Int)+2,true)) (by rw [y.o,G.o (wF.1 A),if_neg (by omega),Int.add_comm]);go_wp2;go_ret2;exact⟨by rw [f.o] <;> rfl,rfl⟩
  ·have f:=@Z (kJ T s=(0,false)) (by rw [y.o,aQe (fun j g=>m.o j (by omega))];rfl);go_wp2;go_ret2;exact⟨by rw [f.o] <;> rfl,rfl⟩
end Go.Proofs.YtgoojkiccdjplaaGreatDoor
