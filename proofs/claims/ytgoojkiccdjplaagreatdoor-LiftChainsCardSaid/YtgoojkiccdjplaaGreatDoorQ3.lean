/-
  Parts of this claim's texts, one behind the other: BH BI BJ BK BL BM BN BO CV YR YS YT M YU YV YW YX ZA CA ZB CB EA EB. No condition.
-/
import Derived.Test.YtgoojkiccdjplaaGreatDoorQ2
import Derived.Deep.LoopGhost
import Derived.Test.YtgoojkiccdjplaaGreatDoorQ1
import Derived.Maps.OwnSet
import Derived.LoopN
import Derived.Shelf.Spec.BitsCarry
set_option linter.unusedVariables false
set_option linter.unusedSimpArgs false
set_option maxRecDepth 100000
set_option maxHeartbeats 16000000
namespace Go.Proofs.YtgoojkiccdjplaaGreatDoor
open Go.RowKit Go.Sort Go.Lib Go.Proofs.Tryz
theorem aPi (q r f:Nat) (o:0<q) (l:q<aK):∃p h j:Nat,(∀w,(callFunc 238 #[.int .u64 r,.int .u64 f,.int .u64 0]).run prog w = .ok (.value (.tuple #[.int .u64 h,.int .u64 j])) w)/\IntKind.u64.wrap ((q:Int) - 1)=(p:Int)/\q=p+1/\h<aK/\h+aK * j=r+f/\h=loW (r+f)/\j=hiW (r+f):=by
 obtain ⟨p,rfl⟩:∃p,q=p+1:=⟨q - 1,by omega⟩;refine⟨p,_,_,fun w=>xW r f w,?_,rfl,xV _,aUy _,rfl,rfl⟩;rw [show(((p+1:Nat):Int) - 1)=(p:Int) by omega];exact bO (by unfold aK at l;omega)
theorem aPj (q f r l:Nat) (o:q<aK) (hd:f<aK) (hn:l<aK):∃h j:Nat,(∀w,Calls prog 237 #[.int .u64 q,.int .u64 f] w fun e w'=>e = .returned (.tuple #[.int .u64 h,.int .u64 j])/\w'=w)/\((h<r\/h=r/\j<=l)↔q * f<=r * aK+l):=by
 obtain ⟨h,j,hm,rfl,rfl⟩:=aDr q f o hd;exact⟨_,_,hm,aPd hn⟩
theorem aMe (h l o f q:Nat) (r:h<f) (v:f<aK) (z:l<aK) (hn:o<aK) :
  uU h l f<aK/\aAy h l f<aK/\uU h l f * f+aAy h l f=h * aK+l/\∀qt,qt * (f * aK+q)<=(h * aK+l) * aK+o->qt<=uU h l f:=by
 have j:0<f:=by omega
 have A:aAy h l f<f:=gN _ j;refine⟨?_,by omega,?_,fun qt s=>aJh hn s j⟩
 ·refine vK ?_;have:(h+1) * aK<=f * aK:=kF _ r;rw [fC,mC] at this;show h * aK+l<_;omega
 ·have:=lC (h * aK+l) f;show(h * aK+l) / f * f+(h * aK+l) % f=_;rw [dK];omega
def pB (d1 d2 nx:Nat):Nat->Nat->Nat
 | 0,_=>0
 | q+1,r=>if (q+1) * d2<=r * aK+nx then q+1 else if hiW (r+d1)=0 then pB d1 d2 nx q (loW (r+d1)) else q
def xX (h l nx d1 d2:Nat):Nat:=if h<d1 then pB d1 d2 nx (uU h l d1) (aAy h l d1) else 18446744073709551615
theorem aJk {l f j q r:Nat} (h:q * f<=r * aK+j):pB l f j q r=q:=by
 cases q with
 | zero=>rfl
 | succ q=>rw [pB,if_pos h]
theorem aJl {f j l q r:Nat} (h:¬((q+1) * j<=r * aK+l)) (o:¬hiW (r+f)=0):pB f j l (q+1) r=q:=by rw [pB,if_neg h,if_neg o]
theorem aJm {f j l q r:Nat} (h:¬((q+1) * j<=r * aK+l)) (o:hiW (r+f)=0):pB f j l (q+1) r=pB f j l q (loW (r+f)):=by rw [pB,if_neg h,if_pos o]
def aJn (h l nx d1 d2 q:Nat):Prop:=q<aK/\∀qt,qt<aK->qt * (d1 * aK+d2)<=(h * aK+l) * aK+nx->qt<=q
theorem aFt (h l j f s:Nat) (w:World) (Q:l<aK) (hn:j<aK) (O:f<aK) (X:s<aK) :
  Calls prog 201 #[.int .u64 h,.int .u64 l,.int .u64 j,.int .u64 f,.int .u64 s] w fun e w'=>e = .returned (.int .u64 (xX h l j f s:Nat))/\aJn h l j f s (xX h l j f s)/\∃p,w'=w.drewN p:=by
 by_cases I:h<f
 case neg=>
  have aD:(f:Int)<=h:=by omega
  have ab:=Z (show xX h l j f s=18446744073709551615 from if_neg I);have aC:=Z (show aJn h l j f s 18446744073709551615 from⟨by decide,fun qt K _=>by unfold aK at K;omega⟩);clear Q hn O X I;go_enter func201,ntmps201
  go_wp2;go_ret;rw [ab.o];exact⟨rfl,aC.o,0,rfl⟩
 case pos=>
  have aD:¬((f:Int)<=h):=by omega
  obtain ⟨a0,a1,a2,a3⟩:=aMe h l j f s I O Q hn;have aB:=Z (aFs h l f w I O Q);have a4:=Z a0;have a5:=Z a1;have a6:=Z a2;have a7:=Z a3;have ab:=Z (show xX h l j f s=pB f s j (uU h l f) (aAy h l f) from if_pos I);generalize xX h l j f s=W at *;generalize uU h l f=aH at *;generalize aAy h l f=aI at *;have aA:=Z X;have aF:=Z hn;clear Q hn O X I a0 a1 a2 a3;go_enter func201,ntmps201
  go_wp2_with fail
  refine aB.o.mono ?_;rintro e L ⟨rfl,aG,rfl⟩;go_wp2
  go_loopw [11,12] (fun al aJ wr=>∃(q r:Nat),al = .int .u64 q/\aJ = .int .u64 r/\Hid (q<aK)/\Hid (r<aK)/\Hid (W=pB f s j q r)/\Hid (q * f+r=h * aK+l)/\Hid (∀qt,qt * (f * aK+s)<=(h * aK+l) * aK+j->qt<=q)/\∃p,wr=w.drewN p) (fun al _ _=>(intOf al).toNat)
  case atStart=>exact⟨aH,aI,rfl,rfl,a4.o,a5.o,ab.o,a6.o,a7.o,aG,rfl⟩
  case round=>
   obtain ⟨q,r,rfl,rfl,K,aM,aa,aj,ar,p,rfl⟩:=hrel;obtain ⟨z,ak,hm,U⟩:=aPj q s r j K.o aA.o aF.o;have J:=Z hm;have am:=Z (show aJn h l j f s q from⟨K.o,fun qt _ A=>ar.o qt A⟩);clear hm;by_cases H:q * s<=r * aK+j
   case pos=>
    have N:=U.2 H;have aq:=aa.o;rw [aJk H] at aq;subst aq;clear U H;by_cases c1:z<r
    ·have ao:(z:Int)<r:=by omega
     clear N
     go_wp2_with fail
     refine(J.o _).mono ?_;rintro e L ⟨rfl,rfl⟩;go_wp2;go_ret;exact⟨rfl,am.o,p,rfl⟩
    ·have ao:¬((z:Int)<r):=by omega
     have c2:z=r:=by omega
     have c3:(ak:Int)<=j:=by omega
     subst c2;clear N
     go_wp2_with fail
     refine(J.o _).mono ?_;rintro e L ⟨rfl,rfl⟩;go_wp2;go_ret;exact⟨rfl,am.o,p,rfl⟩
   case neg=>
    have N:¬(z<r\/z=r/\ak<=j):=fun e=>H (U.1 e)
    clear U;have au:=fun qt A=>aDq (qt:=qt) A aj.o (ar.o qt A) (by omega)
    have ag:0<q:=(aDq (qt:=0) (by omega) aj.o aN (show r * aK+j<q * s by omega)).1;obtain ⟨v,V,D,aO,aP,M,ax,az,ay,af⟩:=aPi q r f ag K.o;have Y:¬((v+1) * s<=r * aK+j):=by rw [<-M];exact H
    have E:=@Z (D=0->W=pB f s j v V) fun e=>by rw [aa.o,M,aJm Y (by rw [<-af];exact e),ay]
    have G:=@Z (¬D=0->W=v) fun e=>by rw [aa.o,M,aJl Y (by rw [<-af];exact e)]
    have ad:=@Z (∀qt,qt * (f * aK+s)<=(h * aK+l) * aK+j->qt<=v) fun qt A=>by have:=(au qt A).2;omega
    have ah:=Z (show v<aK by have:=K.o;omega);have ap:=Z ax;have ae:=aL7 aj.o ag;rw [show q - 1=v by omega] at ae;have aE:=@Z (v * f+(r+f)=h * aK+l) ae;have an:=Z (show aJn h l j f s v from⟨ah.o,fun qt _ A=>ad.o qt A⟩);have ao:¬((z:Int)<r):=by omega
    have aw:=Z M;clear au ae ax H Y ag M ay af;have av:D=0->v * f+V=h * aK+l:=fun e=>by rw [<-aE.o,<-az,e,nO,cU]
    have R:=Z av;clear av az;by_cases c2:z=r
    ·subst c2;have c3:¬((ak:Int)<=j):=by omega
     clear N;by_cases c4:D=0
     ·have ai:=Z (R.o c4);have C:=Z (E.o c4);clear R E G;subst c4
      go_wp2_with fail
      refine(J.o _).mono ?_;rintro e L ⟨rfl,rfl⟩;go_wp2
      go_roundw
      case rel=>exact⟨v,V,by go_num,by go_num,ah.o,ap.o,C.o,ai.o,ad.o,p,rfl⟩
      case measure=>have:=aw.o;first | (simp [intOf];done) | (simp [intOf];omega)
     ·have a9:(0:Int)<D:=by omega
      have C:=G.o c4;subst C;clear E G
      go_wp2_with fail
      refine(J.o _).mono ?_;rintro e L ⟨rfl,rfl⟩;go_wp2;go_ret;exact⟨rfl,an.o,p,rfl⟩
    ·have a8:¬((z:Int)=r):=by omega
     have aL:((z:Int) == r)=false:=by simpa using a8
     clear N;by_cases c4:D=0
     ·have ai:=Z (R.o c4);have C:=Z (E.o c4);clear R E G;subst c4
      go_wp2_with fail
      refine(J.o _).mono ?_;rintro e L ⟨rfl,rfl⟩;go_wp2
      go_roundw
      case rel=>exact⟨v,V,by go_num,by go_num,ah.o,ap.o,C.o,ai.o,ad.o,p,rfl⟩
      case measure=>have:=aw.o;first | (simp [intOf];done) | (simp [intOf];omega)
     ·have a9:(0:Int)<D:=by omega
      have C:=G.o c4;subst C;clear E G
      go_wp2_with fail
      refine(J.o _).mono ?_;rintro e L ⟨rfl,rfl⟩;go_wp2;go_ret;exact⟨rfl,an.o,p,rfl⟩
def uI (y:Nat) (w:World) (e:Ending) (w':World):Prop:=∃a c,e = .returned (.slice a (limbs y).length c)/\bT cH.u64 (fH w.heap.size w') w' a (limbs y).length (limbs y)/\(limbs y).length<=c/\c<=maxLen/\Below w.heap.size w w'
theorem aPk (x c k:Nat) (hx:x<aK) (f:c<2 ^ k) (j:k<64):∃r d v t:Nat,IntKind.u64.wrap ((x:Int) * 2 ^ k)=(r:Nat)/\bits .or .u64 (c:Int) (r:Int)=(d:Nat)/\d<aK /\
  IntKind.u64.wrap (64 - (k:Int))=(t:Nat)/\(0<k->min t 64=t)/\(x:Int) / 2 ^ t=(v:Nat)/\bits .or .u64 0 (v:Int)=(v:Nat)/\v<2 ^ k/\v<aK/\d+aK * v=c+x * 2 ^ k:=by
 have o:=zR hx j;have h:c<aK:=pK f (by rw [<-fV];exact aCk (by decide) j);have l:x * 2 ^ k % aK<aK:=gN _ gT;have s:=aL8 (x:=x) (k:=k) (t:=c) (by omega) f;have q:x / 2 ^ (64 - k)<aK:=lW (tC _ _) hx;refine⟨x * 2 ^ k % aK,c ||| (x * 2 ^ k % aK),x / 2 ^ (64 - k),64 - k,?_,?_,?_,?_,?_,sF _ _,?_,o.2,q,?_⟩
 ·rw [sD,tB];unfold aK;omega
 ·exact(bits_nat .u64 64 (by decide) wraps_u64 c (x * 2 ^ k % aK) (by rw [fV];exact h) (by rw [fV];exact l)).2
 ·rw [<-fV];exact aG0 (by rw [fV];exact h) (by rw [fV];exact l)
 ·rw [show(64 - (k:Int))=((64 - k:Nat):Int) by omega];exact bO (by omega)
 ·intro _;omega
 ·rw [show(0:Int)=((0:Nat):Int) from rfl,(bits_nat .u64 64 (by decide) wraps_u64 0 (x / 2 ^ (64 - k)) (by decide) (by rw [fV];exact q)).2,Nat.zero_or]
 ·rw [s,nB,o.1]
section
variable {ds : List Int} {i m : Nat}
theorem aJo (c:Int) (hd:ds.length=i):nth (ds++(c :: List.replicate m 0)) i=c/\(0<m->nth (ds++(c :: List.replicate m 0)) (i+1)=0):=by
 subst hd;refine⟨?_,fun h=>?_⟩
 ·rw [cE (by simp)];simp
 ·rw [cE (by simp;omega)];simp
theorem aHu (c d:Int) (hd:ds.length=i):nth ((ds++(c :: List.replicate (m+1) 0)).set i d) (i+1)=0:=by
 subst hd;rw [sW _ _ aA,oY,yS];exact(aJo (m:=m+1) d rfl).2 (by omega)
theorem aRs (c d v:Int) (hd:ds.length=i):((ds++(c :: List.replicate (m+1) 0)).set i d).set (i+1) v=(ds ++ [d])++(v :: List.replicate m 0):=by
 subst hd;rw [sW _ _ aA,oY,yS,sW _ _ (by omega),show ds.length+1 - ds.length=1 by omega,yP];simp
theorem aPl (c d:Int) (hd:ds.length=i):(ds++(c :: List.replicate (m+1) 0)).set i d=(ds ++ [d])++((0:Int) :: List.replicate m 0):=by
 subst hd;rw [sW _ _ aA,oY,yS,yP];simp
end
theorem left_step {ds:List Int} {i c x k d v f:Nat} (h:aJ ds+aK ^ i * c=f * 2 ^ k) (o:ds.length=i) (j:d+aK * v=c+x * 2 ^ k):aJ (ds ++ [(d:Int)])+aK ^ (i+1) * v=(f+aK ^ i * x) * 2 ^ k:=by
 have l:aK ^ i * (d+aK * v)=aK ^ i * (c+x * 2 ^ k):=by rw [j]
 rw [cN,cN,<-eU,<-eU] at l;rw [iV,o,iF,fC];omega
theorem aBn {S:Nat->Prop} (a:Option Addr) (n c x k:Nat) (w:World) (hx:bT cH.u64 S w a n (limbs x)) (hn:n+1<=1099511627776) (ar:k<64) :
  Calls prog 200 #[.slice a n c,.int .i64 k] w fun e w'=>uI (x * 2 ^ k) w e w':=by
 obtain ⟨aO,ax,aa,W,ad⟩:=nF (n+1) w.heap.size w hn aA;have af:=Z hx;have M:=Z hx.1;have a0:=Z (aY x);have al:=Z aa;have aj:=Z W;have a4:=Z ad;have aI:Int.tdiv (k:Int) 64=0:=by rw [aAp (by omega)];omega
 have aL:Int.tmod (k:Int) 64=k:=by rw [aC8 (by omega)];omega
 have aM:IntKind.u64.wrap (k:Int)=k:=bO (by omega);have aN:min k 64=k:=by omega
 rw [show((n+1:Nat):Int)=(n:Int)+1 by simp] at ax;generalize limbs x=xs at *;clear hx aa W ad;go_enter func200,ntmps200
 go_wp2
 go_loopw [21] (fun R wr=>∃(i m f:Nat) (ds:List Int),i+m=n/\R = .int .i64 i/\Hid (f<2 ^ k)/\Hid (ds.length=i)/\Hid (aJ ds+aK ^ i * f=aJ (xs.take i) * 2 ^ k)/\Hid (iO wr w.heap.size w.heap.size (n+1) (ds++((f:Int) :: List.replicate m 0)))/\Hid (Below w.heap.size w wr)) (fun R _=>n - (intOf R).toNat)
 case atStart=>exact⟨0,n,0,[],by omega,rfl,mA k,(by show([]:List Int).length=0;rfl),(by show aJ []+_=_;simp [iL]),(by have:=al.o;rw [yP] at this;exact this),aj.o⟩
 case round=>
  obtain ⟨i,m,f,ds,a8,rfl,aq,h,Y,z,s⟩:=hrel;by_cases aw:m=0
  case pos=>
   subst aw;obtain rfl:i=n:=by omega
   have az:=Z (show aJ (ds++(f:Int) :: List.replicate 0 0)=x * 2 ^ k from by
    show aJ (ds ++ [(f:Int)])=_;have r:=Y.o;rw [fL (by rw [M.o];exact aA),a0.o] at r;rw [iV,h.o,r])
   have L:=Z (gY (some ⟨w.heap.size,0,none⟩) (i+1) (i+1) _ wr z.o.datF (by omega) aA (by unfold maxLen;omega));rw [az.o] at L
   go_wp2_with fail
   refine L.o.mono ?_;rintro e aP ⟨am,an,rfl,ab,ao,ap,_,rfl⟩;have ak:=Z ab;clear ab L;go_wp2;go_ret;exact⟨am,an,rfl,ak.o,ao,ap,s.o⟩
  case neg=>
   obtain ⟨A,rfl⟩:∃A,m=A+1:=⟨m - 1,by omega⟩;obtain ⟨I,ah,rfl,ag,u1⟩:=(af.o).at64 (k:=i) (by rw [M.o];omega);have X:=(af.o.2 (by omega)).choose_spec;have a1:wr.cell? ⟨I,ah+i,none⟩=some (.int .u64 (nth xs i)):=by
    obtain ⟨aB,J,av,_⟩:=X;injection J with J
    injection J with r h2 _
    rw [sZ (w:=w) (a:=⟨I,ah+i,none⟩) (s.o.block I (by rw [r];exact av))];exact ag
   have V:=u1.cast;have a2:=Z u1.lt;have ai:=Z (bU (l:=xs) (i:=i) (by rw [M.o];omega));rw [<-V] at a1;generalize (nth xs i).toNat=y at *;clear V u1 ag X;obtain ⟨a9,d,v,t,aC,aD,C,aE,N,aG,aH,D,Q,O⟩:=aPk y f k a2.o aq.o ar;have ae:=Z (left_step Y.o h.o O);have a3:=Z C;have U:=Z D;have y0:=z.o.cell (j:=i) (by omega);have a5:=z.o.frz i;rw [(aJo (f:Int) h.o).1] at y0;have q:=z.o.set (j:=i) (x:=(d:Nat)) (gJ C);have a7:(i:Int)<n:=by omega
   by_cases K:0<k
   case pos=>
    have au:(0:Int)<k:=by omega
    have aF:=N K;have y1:=q.cell (j:=i+1) (by omega);have a6:=q.frz (i+1);rw [aHu _ _ h.o] at y1;have G:=q.set (j:=i+1) (x:=(v:Nat)) (gJ Q);rw [aRs _ _ _ h.o] at G;have H:=Z G;have E:=Z (show Below w.heap.size w ((wr.setCell ⟨w.heap.size,i,none⟩ (.int .u64 (d:Nat))).setCell ⟨w.heap.size,i+1,none⟩ (.int .u64 (v:Nat))) from(s.o.setCell aA _).setCell aA _);clear q G C D Q O N K;go_wp2
    go_roundw
    case rel=>exact⟨i+1,A,v,ds ++ [(d:Int)],by omega,by go_num,U.o,(by show(ds++_).length=_;have:=h.o;simp;omega),(by show aJ _+_=_;rw [ai.o];exact ae.o),H.o,E.o⟩
    case measure=>first | (simp [intOf];done) | (simp [intOf];omega)
   case neg=>
    have au:¬((0:Int)<k):=by omega
    have ay:v=0:=by
     have:k=0:=by omega
     subst this;simpa using D
    subst ay;rw [aPl _ _ h.o] at q;have H:=Z q;have E:=Z (show Below w.heap.size w (wr.setCell ⟨w.heap.size,i,none⟩ (.int .u64 (d:Nat))) from s.o.setCell aA _);clear q C D Q O N K;go_wp2
    go_roundw
    case rel=>exact⟨i+1,A,0,ds ++ [(d:Int)],by omega,by go_num,U.o,(by show(ds++_).length=_;have:=h.o;simp;omega),(by show aJ _+_=_;rw [ai.o];exact ae.o),H.o,E.o⟩
    case measure=>first | (simp [intOf];done) | (simp [intOf];omega)
theorem aMf (x y k:Nat) (hx:x<aK) (o:k<64):∃f t h d:Nat,(x:Int) / 2 ^ k=(f:Nat)/\f<aK/\IntKind.u64.wrap (64 - (k:Int))=(t:Nat)/\(0<k->min t 64=t) /\
  IntKind.u64.wrap ((y:Int) * 2 ^ t)=(h:Nat)/\bits .or .u64 (f:Int) (h:Int)=(d:Nat)/\d<aK/\f * 2 ^ k+x % 2 ^ k=x/\(0<k->d=f+h)/\h * 2 ^ k=aK * (y % 2 ^ k):=by
 have j:x / 2 ^ k<aK:=lW (tC _ _) hx;have l:y * 2 ^ (64 - k) % aK<aK:=gN _ gT;have e:aK=2 ^ k * 2 ^ (64 - k):=by rw [<-jT,show k+(64 - k)=64 by omega,fV]
 refine⟨x / 2 ^ k,64 - k,y * 2 ^ (64 - k) % aK,(x / 2 ^ k) ||| (y * 2 ^ (64 - k) % aK),sF _ _,j,?_,fun _=>by omega,?_,?_,?_,?_,?_,?_⟩
 ·rw [show(64 - (k:Int))=((64 - k:Nat):Int) by omega];exact bO (by omega)
 ·rw [sD,tB];unfold aK;omega
 ·exact(bits_nat .u64 64 (by decide) wraps_u64 _ _ (by rw [fV];exact j) (by rw [fV];exact l)).2
 ·rw [<-fV];exact aG0 (by rw [fV];exact j) (by rw [fV];exact l)
 ·have:=qT x (2 ^ k);rw [dK] at this;exact this
 ·intro _;refine aL8 (by omega) ?_;rw [yM (mA _),dK,<-e];exact hx
 ·rw [e,aCh,aCn,dK (y % 2 ^ k * 2 ^ k),dK (2 ^ k),eU,dK (2 ^ k)]
theorem aOk {l:List Int} {j:Nat} (h:l.length<=j):nth l j=0:=by simp [nth,List.getD,vJ h]
section
variable {ds : List Int} {i m : Nat}
theorem aPm (d:Int) (hd:ds.length=i):nth ((ds++List.replicate (m+1) 0).set i d) i=d:=by
 subst hd;rw [cE (by simp)];simp
theorem nS (d:Int) (hd:ds.length=i):(ds++List.replicate (m+1) 0).set i d=(ds ++ [d])++List.replicate m 0:=by
 subst hd;rw [sW _ _ aA,oY,yP];simp
theorem aPn (l:List Int) (i:Nat) (a b:Int):(l.set i a).set i b=l.set i b:=by simp
end
theorem right_step {ds:List Int} {i x y k d r f:Nat} (h:aJ ds * 2 ^ k+r=f+aK ^ i * (x % 2 ^ k)) (o:ds.length=i) (j:d * 2 ^ k+x % 2 ^ k=x+aK * (y % 2 ^ k)) :
  aJ (ds ++ [(d:Int)]) * 2 ^ k+r=(f+aK ^ i * x)+aK ^ (i+1) * (y % 2 ^ k):=by
 have l:aK ^ i * (d * 2 ^ k+x % 2 ^ k)=aK ^ i * (x+aK * (y % 2 ^ k)):=by rw [j]
 rw [cN,cN,<-eU,<-eU] at l;rw [iV,o,iF,fC];omega
theorem aHv {S:Nat->Prop} (a:Option Addr) (n c x k:Nat) (w:World) (hx:bT cH.u64 S w a n (limbs x)) (hn:n<=1099511627776) (hnc:n<=c) (a9:k<64) :
  Calls prog 204 #[.slice a n c,.int .i64 k] w fun e w'=>uI (x / 2 ^ k) w e w':=by
 have be:Int.tdiv (k:Int) 64=0:=by rw [aAp (by omega)];omega
 have bf:Int.tmod (k:Int) 64=k:=by rw [aC8 (by omega)];omega
 have bg:IntKind.u64.wrap (k:Int)=k:=bO (by omega);have bh:min k 64=k:=by omega
 have z:=Z hx.1;have aE:=Z hx;by_cases aC:n=0
 case pos=>
  subst aC;have aF:x=0:=jH.1 hx.1;subst aF;clear hx;go_enter func204,ntmps204
  go_wp2;go_ret;rw [Nat.zero_div];have ab:(limbs 0) = []:=dI;refine⟨none,0,by rw [ab];rfl,?_,by rw [ab];exact aA,aN,aO _ _⟩;rw [ab];exact bT.nil _ _ _ _
 case neg=>
  obtain ⟨bi,aT,ao,ak,aq⟩:=nF n w.heap.size w hn aA;have aD:=Z (aY x);have ax:=Z ao;have av:=Z ak;have aI:=Z aq;have aU:¬((n:Int)<=0):=by omega
  obtain ⟨M,au,a2,al⟩:=hx.2 (by omega);have a3:=Z al.1;subst a2;generalize limbs x=xs at *;clear hx ao ak aq al;go_enter func204,ntmps204
  go_wp2
  go_loopw [26] (fun ah wr=>∃(i m:Nat) (ds:List Int),i+m=n/\ah = .int .i64 i/\Hid (ds.length=i)/\Hid (aJ ds * 2 ^ k+(nth xs 0).toNat % 2 ^ k=aJ (xs.take i)+aK ^ i * ((nth xs i).toNat % 2 ^ k))/\Hid (iO wr w.heap.size w.heap.size n (ds++List.replicate m 0))/\Hid (Below w.heap.size w wr)) (fun ah _=>n - (intOf ah).toNat)
  case atStart=>exact⟨0,n,[],by omega,rfl,(by show([]:List Int).length=0;rfl),(by show aJ [] * _+_=_;simp [iL]),(by have:=ax.o;exact this),av.o⟩
  case round=>
   obtain ⟨i,m,ds,aS,rfl,q,am,H,V⟩:=hrel;by_cases aB:m=0
   case pos=>
    subst aB;obtain rfl:i=n:=by omega
    have ar:aJ (ds++List.replicate 0 0)=x / 2 ^ k:=by
     have G:=am.o;rw [fL (by rw [z.o];exact aA),aD.o,show nth xs i=0 from aOk (by rw [z.o];exact aA)] at G;have U:=gN (nth xs 0).toNat (mA k);have a0:x=aJ ds * 2 ^ k+(nth xs 0).toNat % 2 ^ k:=by rw [G];simp
     show aJ (ds ++ [])=_;rw [lZ,a0,dK,aCt (mA k),nM U,cU]
    have ad:=Z (gY (some ⟨w.heap.size,0,none⟩) i i _ wr H.o.datF (by omega) aA (by unfold maxLen;omega));rw [ar] at ad;clear ar
    go_wp2_with fail
    refine ad.o.mono ?_;rintro e bj ⟨ay,az,rfl,ap,a4,a5,_,rfl⟩;have aw:=Z ap;clear ap ad;go_wp2;go_ret;exact⟨ay,az,rfl,aw.o,a4,a5,V.o⟩
   case neg=>
    obtain ⟨A,rfl⟩:∃A,m=A+1:=⟨m - 1,by omega⟩;have s:∀j,j<n->wr.cell? ⟨M,au+j,none⟩=some (.int .u64 ((nth xs j).toNat:Int))/\(nth xs j).toNat<aK:=fun j a8=>by
     obtain ⟨aL,aX,W,aG,u1⟩:=(aE.o).at64 (k:=j) (by rw [z.o];exact a8);injection W with W
     injection W with G U _
     subst G U;refine⟨?_,u1.lt⟩;rw [u1.cast,sZ (w:=w) (a:=⟨M,au+j,none⟩) (V.o.block M a3.o)];exact aG
    obtain ⟨aV,K⟩:=s i (by omega);have aH:=Z (bU (l:=xs) (i:=i) (by rw [z.o];omega));obtain ⟨r,t,aQ,d,aZ,ag,ba,ae,bc,bd,af,O,Q,R⟩:=aMf (nth xs i).toNat (nth xs (i+1)).toNat k K a9;have y0:=H.o.cell (j:=i) (by omega);have aM:=H.o.frz i;have f:=H.o.set (j:=i) (x:=(r:Nat)) (gJ ag);have aR:(i:Int)<n:=by omega
    have C:=(show Below w.heap.size w (wr.setCell ⟨w.heap.size,i,none⟩ (.int .u64 (r:Nat))) from V.o.setCell aA _);have J:∀N:Nat,N * 2 ^ k+(nth xs i).toNat % 2 ^ k=(nth xs i).toNat+aK * ((nth xs (i+1)).toNat % 2 ^ k)->Hid (aJ (ds ++ [(N:Int)]) * 2 ^ k+(nth xs 0).toNat % 2 ^ k=aJ (xs.take (i+1))+aK ^ (i+1) * ((nth xs (i+1)).toNat % 2 ^ k)):=fun N h=>by
     show _=_;rw [aH.o];exact right_step am.o q.o h
    by_cases aa:0<k/\i+1<n
    case pos=>
     obtain ⟨v,a6⟩:=aa;obtain ⟨aW,_⟩:=s (i+1) a6;have I:=J d (by rw [Q v,fC,R];omega);have bb:=ae v;have an:(0:Int)<k:=by omega
     have a7:(i:Int)+1<n:=by omega
     have y1:=f.cell (j:=i) (by omega);have aP:=f.frz i;rw [aPm _ q.o] at y1;have L:=f.set (j:=i) (x:=(d:Nat)) (gJ af);rw [aPn,nS _ q.o] at L;have E:=Z L;have D:=Z (show Below w.heap.size w ((wr.setCell ⟨w.heap.size,i,none⟩ (.int .u64 (r:Nat))).setCell ⟨w.heap.size,i,none⟩ (.int .u64 (d:Nat))) from C.setCell aA _);clear f L C O Q R af ag ae v J s K;generalize (nth xs i).toNat=X at *;generalize aj:(nth xs (i+1)).toNat=Y at *;have a1:=Z aj;clear aj;go_wp2
     all_goals (try go_region)
     all_goals (try go_wp2)
     all_goals first
      | (exfalso;omega)
      | (exfalso;simp_all;done)
      | (
        refine⟨⟨i+1,A,ds ++ [(d:Int)],by omega,by go_num,(by show(ds++_).length=_;have:=q.o;simp;omega),(by show _=_;rw [a1.o];exact I.o),E.o.same rfl,D.o.drewN 1⟩,?_⟩
        first | (simp [intOf];done) | (simp [intOf];omega))
    case neg=>
     have ai:(nth xs (i+1)).toNat % 2 ^ k=0:=by
      by_cases v:0<k
      ·rw [show nth xs (i+1)=0 from aOk (by rw [z.o];omega)];simp
      ·rw [show k=0 by omega,vS,Nat.mod_one]
     have I:=J r (by rw [ai,nO,cU];exact O);rw [nS _ q.o] at f;have E:=Z f;have D:=Z C;clear f C O Q R af ag ae J ai;by_cases v:0<k
     ·have an:(0:Int)<k:=by omega
      have a7:¬((i:Int)+1<n):=by omega
      clear aa s K;generalize (nth xs i).toNat=X at *;go_wp2
      go_roundw
      case rel=>exact⟨i+1,A,ds ++ [(r:Int)],by omega,by go_num,(by show(ds++_).length=_;have:=q.o;simp;omega),I.o,E.o,D.o⟩
      case measure=>first | (simp [intOf];done) | (simp [intOf];omega)
     ·have an:¬((0:Int)<k):=by omega
      clear aa s K;generalize (nth xs i).toNat=X at *;go_wp2
      go_roundw
      case rel=>exact⟨i+1,A,ds ++ [(r:Int)],by omega,by go_num,(by show(ds++_).length=_;have:=q.o;simp;omega),I.o,E.o,D.o⟩
      case measure=>first | (simp [intOf];done) | (simp [intOf];omega)
theorem iO.copyAt {base g N:Nat}:∀(zs:List Int) {w:World} {xs:List Int} (o:Nat),iO w base g N xs->bY zs->o+zs.length<=N->iO (w.setCells g o (zs.map (Value.int .u64))) base g N (xs.take o++(zs++xs.drop (o+zs.length))):=by
 intro zs
 induction zs with
 | nil=>intro w xs o h _ _;simpa [World.setCells] using h
 |
  cons z zs ih=>
  intro w xs o h q l;have s:o<N:=by simp at l;omega
  have r:=h.set (j:=o) (x:=z) (q z (by simp));have f:=ih (o+1) r (fun y hy=>q y (by simp [hy])) (by simp at l;omega);have e:(xs.set o z).take (o+1)++(zs++(xs.set o z).drop (o+1+zs.length))=xs.take o++((z :: zs)++xs.drop (o+(z :: zs).length)):=by
   have v:o<xs.length:=by rw [h.1];exact s
   rw [List.take_add_one,List.take_set_of_le aA,aCf v,List.drop_set_of_lt (by omega)];simp [nB,oB 1]
  rw [e] at f;exact f
theorem iO.copy {w:World} {base g N:Nat} {xs zs:List Int} (h:iO w base g N xs) (f:bY zs) (j:zs.length<=N):iO (w.setCells g 0 (zs.map (Value.int .u64))) base g N (zs++xs.drop zs.length):=by
 have:=h.copyAt zs 0 f (by omega)
 simpa using this
theorem zU.copyAt {g:Nat} {a:World}:∀(f:List Value) (o:Nat) (w:World),zU g a w->zU g a (w.setCells g o f)
 | [],_,_,h=>h
 | v :: f,o,_,h=>zU.copyAt f (o+1) _ (h.setCell o v)
theorem aPo {S:Nat->Prop} {w:World} {base g N n c m:Nat} {xs zs:List Int} {a:Option Addr} (A:TypeId) (h:iO w base g N xs) (z:bT cH.u64 S w a n zs) (hn:n<=N) (r:0<n) :
  (Builtin.copy_ #[34,34] A #[.slice (some ⟨g,0,none⟩) N c,.slice a n m]).run prog w = .ok (goInt n) (w.setCells g 0 (zs.map (Value.int .u64))):=by
 have C:=z.1;obtain ⟨b,o,rfl,_,_⟩:=z.at64 (k:=0) (by omega);have hm:(zs.map (Value.int .u64)).length=n:=by rw [lB];exact C
 have:=run_copy_cells (P:=prog) w 34 34 A 177 g 0 N c ⟨b,o,none⟩ n m (zs.map (Value.int .u64)) underlying34 (by kernel_rfl) (by rw [hm];exact(pZ hn).symm)
  (fun j v l=>by
   rw [mZ] at l;obtain ⟨x,hx,rfl⟩:=aCe.1 l;have f:=(gK.1 hx).1;obtain ⟨D,E,s,q,_⟩:=z.at64 f;injection s with s
   injection s with h1 h2 _
   subst h1 h2;rw [cE f] at q;rw [cK f] at hx;injection hx with hx
   rw [hx] at q;simp only [Addr.add];by_cases r:j=0
   ·subst r;simpa using q
   ·rw [if_neg r];exact q)
  (fun j f=>by rw [dT,h.cell (j:=j) (by omega)];rfl) (fun j _=>by rw [dT];exact h.frz j)
  (fun v l=>by
   obtain ⟨x,_,rfl⟩:=qA.1 l;rfl)
 rw [hm] at this;exact this
theorem aFu {ds:List Int} {n:Nat} (o:ds.length=n+1) (j:bY ds):(nth ds n).toNat=aJ ds / aK ^ n:=by
 have f:=bU (l:=ds) (i:=n) (by omega);rw [fL (by omega)] at f;have h:=iC (j.take n);rw [eS,pZ (by omega)] at h;rw [f,aCj _ _ (zF gT),nM h,dT]
theorem aMg {ds:List Int} {f B k qt:Nat} (l:0<B) (h:aJ ds+B * k=f) (o:qt=f / B) (r:qt<=k):k=qt/\aJ ds=f % B:=by
 have q:k<=f / B:=by rw [xI l,dK];omega
 have j:k=qt:=by omega
 refine⟨j,?_⟩;have:=qT f B;rw [<-o,<-j] at this;omega
theorem aMh {ds ds':List Int} {j B k qt n:Nat} (z:B<aK ^ n) (q:ds.length=n+1) (s:bY ds) (A:ds'.length=n+1) (C:bY ds') (h:aJ ds+B * k=j+aK ^ (n+1)) (D:qt=j / B) (E:qt<=k)
  (hd:aJ ds'=(aJ ds+B) % aK ^ (n+1)):∃p,k=p+1/\qt<=p/\aJ ds'+B * p=j+aK ^ (n+1) * (if (nth ds n).toNat<=(nth ds' n).toNat then 1 else 0):=by
 have r:=iC s;rw [q] at r;have G:qt<k:=by
  rcases nZ qt k with f | f
  ·exact f
  ·exfalso
   have:k=qt:=by omega
   subst this;have l:=aCm j B;rw [<-D,dK] at l;omega
 obtain ⟨p,rfl⟩:∃p,k=p+1:=⟨k - 1,by omega⟩;refine⟨p,rfl,by omega,?_⟩;rw [cN,jN] at h;rw [aFu q s,aFu A C,hd];have v:=aRk r z;rcases nZ (aJ ds+B) (aK ^ (n+1)) with f | f
 ·obtain ⟨o,l⟩:=v.1 f;rw [if_pos o,l];omega
 ·obtain ⟨o,l⟩:=v.2 f;rw [if_neg (by omega)];omega
theorem aFv {pre win post:List Int} {i n B:Nat} (f:pre.length=i) (v:win.length=n+1) (r:bY (pre++(win++post))) (q:B<aK ^ n) (D:aJ (pre++(win++post))<B * aK ^ (i+1)) :
  aJ post=0/\aJ (pre++(win++post)) / aK ^ i=aJ win/\aJ (pre++(win++post)) % aK ^ i=aJ pre:=by
 have s:0<aK ^ i:=zF gT;have e:aJ (pre++(win++post))=aJ pre+aK ^ i * (aJ win+aK ^ (n+1) * aJ post):=by rw [eY,eY,f,v]
 have j:aJ pre<aK ^ i:=by have:=iC (l:=pre) (fun x hx=>r x (by simp [hx]));rwa [f] at this
 have o:aJ post=0:=by
  rcases gD (aJ post) with h | h
  ·exact h
  ·exfalso
   have z:aK ^ i * (aK ^ (n+1) * 1)<=aK ^ i * (aK ^ (n+1) * aJ post):=lU _ (lU _ h);have A:B * aK ^ (i+1)<=aK ^ n * aK ^ (i+1):=kF _ (gM q);have C:aK ^ n * aK ^ (i+1)=aK ^ i * (aK ^ (n+1) * 1):=by rw [jN,<-jT,<-jT];congr 1;omega
   rw [cN] at e;omega
 rw [o,nO,cU] at e;refine⟨o,?_,?_⟩
 ·rw [e,aCj _ _ s,nM j,dT]
 ·rw [e,aAq,lY j]
theorem aOl {l:List Int} {n:Nat} (j:l.length=n+2):aJ l=aJ (l.take n)+aK ^ n * ((nth l (n+1)).toNat * aK+(nth l n).toNat):=by
 have f:=bU (l:=l) (i:=n+1) (by omega);have h:=bU (l:=l) (i:=n) (by omega);rw [fL (by omega)] at f;rw [f,h,iF,cN,eU (aK ^ n),dK aK (nth l (n+1)).toNat];omega
theorem aWv (W f x p T:Nat) (h:T<p):T+p * x+p * (W * f)<(f * W+x+1) * p:=by
 rw [dK W f,dK _ p,cN,cN,jN];omega
theorem aRt {win bs:List Int} {n:Nat} (r:win.length=n+3) (o:bs.length=n+2) (q:bY win) :
  aJ win / aJ bs * ((nth bs (n+1)).toNat * aK+(nth bs n).toNat)<=((nth win (n+2)).toNat * aK+(nth win (n+1)).toNat) * aK+(nth win n).toNat:=by
 refine aRi (m:=n) ?_ ?_
 ·have h:=aOl (l:=win) (n:=n+1) (by omega);have j:=bU (l:=win) (i:=n) (by omega);have f:=iC (q.take n);rw [eS,pZ (by omega)] at f;rw [h,j,iF,eU];exact aWv _ _ _ _ _ f
 ·rw [aOl o,dK];omega
def pN (B:Nat) (y:Nat) (w':World) (v:Value):Prop:=∃a c,v = .slice a (limbs y).length c/\bT cH.u64 (fH B w') w' a (limbs y).length (limbs y)/\(limbs y).length<=c/\c<=maxLen
theorem pN.all {B y:Nat} {w w':World} {v:Value} (h:pN B y w v) (f:Below w.heap.size w w'):pN B y w' v:=by
 obtain ⟨a,c,j,l,o,q⟩:=h;exact⟨a,c,j,l.move (Below.dat f) f.size,o,q⟩
theorem pN.mono {B f y:Nat} {w:World} {v:Value} (h:pN B y w v) (s:f<=B):pN f y w v:=by
 obtain ⟨a,c,l,o,q,r⟩:=h;exact⟨a,c,l,o.mono fun _ _ j=>⟨j.1,aH s j.2⟩,q,r⟩
theorem pN.zero {B:Nat} {w:World}:pN B 0 w (.slice none 0 0):=by
 refine⟨none,0,?_,?_,?_,aN⟩ <;> rw [dI]
 ·rfl
 ·exact bT.nil _ _ _ _
 ·exact aA
theorem pN.own {B base y:Nat} {w:World} {v:Value} (h:cA cH.u64 (fun _=>False) w base 177 v (limbs y)) (l:B<=base):pN B y w v:=by
 obtain ⟨a,c,rfl,f,j⟩:=h.slice;exact⟨a,c,rfl,h.datF l,f,j⟩
def aOm (x y:Nat) (w:World) (e:Ending) (w':World):Prop:=∃v1 v2,e = .returned (.tuple #[v1,v2])/\pN w.heap.size (x / y) w' v1/\pN w.heap.size (x % y) w' v2/\Below w.heap.size w w'
theorem Below.ofDrew {B q:Nat} {w w':World} (h:Below B (w.drewN q) w'):Below B w w':=⟨h.os,h.tape,h.output,h.size,h.block⟩
theorem aUz (w:World) (r:Int) (h:okU r) (base:Nat) (f:base<=w.heap.size):iO (w.alloc (.cells #[.int .u64 r] 177)) base w.heap.size 1 [r]:=
 ⟨rfl,f,fun x hx=>by rw [eP.1 hx];exact h,#[.int .u64 r],cC w _,rfl⟩
section
variable {S S' : Nat -> Prop} (a b : Option Addr) (n m c d x y : Nat) (w : World) (hx : bT cH.u64 S w a n (limbs x)) (hy : bT cH.u64 S' w b m (limbs y)) (hn : n <= 549755813888) (hm : m <= 549755813888) (hnc : n <= c) (hcm : c <= maxLen)
include hx hy hn hm hnc hcm
theorem aPp (j:x<y):Calls prog 171 #[.slice a n c,.slice b m d] w fun e w'=>aOm x y w e w':=by
 have A:=Z (fE a b n m c d x y w hx hy (by omega) (by omega));rw [tQ j] at A;have f:=gY a n c (limbs x) (w) hx (by omega) hnc hcm;have l:=Z hx;have v:=Z j;have h:=Z (show n<17592186044416/\n<=c/\c<=maxLen from⟨by omega,hnc,hcm⟩);clear hx hy hn hm hnc hcm f j;go_enter func171,ntmps171
 go_wp2_with fail
 refine A.o.mono ?_;rintro e O ⟨rfl,q,rfl⟩;have f:=gY (S:=S) a n c (limbs x) (w.drewN q) (l.o.keep (fun _ _ _=>rfl) aA) h.o.1 h.o.2.1 h.o.2.2;rw [aY] at f;have L:=Z f;clear f
 go_wp2_with fail
 refine L.o.mono ?_;rintro e Q ⟨G,H,rfl,C,I,J,_,rfl⟩;have s:=Z (eF G (limbs x).length H (limbs x) (w.drewN q) C (by rw [<-l.o.1] at *;exact lW (cD l.o.1) h.o.1));clear C I J;generalize K:(limbs x).length=N at *;clear K
 go_wp2_with fail
 refine s.o.mono ?_;rintro e R ⟨M,c2,rfl,z,r⟩;have E:=Z z;have D:=Z r;clear z r s;go_wp2;go_ret2;refine⟨_,_,rfl,?_,?_,Below.ofDrew D.o⟩
 ·rw [nM v.o];exact pN.zero
 ·rw [lY v.o];exact pN.own E.o aA
omit hnc hcm in
theorem aRu (ad:y<=x) (l:0<y) (ae:m=1):Calls prog 171 #[.slice a n c,.slice b m d] w fun e w'=>aOm x y w e w':=by
 have ag:=Z (fE a b n m c d x y w hx hy (by omega) (by omega));subst ae;have an:¬(fZ x y<0):=by unfold fZ;split <;> (try split) <;> omega
 have U:(limbs y).length=1:=hy.1;have h:y<aK:=by have:=uQ y;rwa [U,Nat.pow_one] at this
 have I:limbs y = [(y:Int)]:=by
  rw [iU l,lY h,nM h,dI]
 obtain ⟨ab,ak,rfl,s,_⟩:=hy.at64 (k:=0) (by omega);rw [I,cU] at s;have ao:w.cell? ⟨ab,ak,none⟩=some (.int .u64 (y:Int)):=s;have aj:=Z hx;have af:=Z (show n<=1099511627776 by omega);have R:=Z h;have Q:=Z l;generalize fZ x y=am at *;clear hx hy hn hm U h I ad l s;go_enter func171,ntmps171
 go_wp2_with fail
 refine ag.o.mono ?_;rintro e aq ⟨rfl,q,rfl⟩;have E:=Z (aMc (S:=S) a n c x y (w.drewN q) (aj.o.keep (fun _ _ _=>rfl) aA) af.o Q.o R.o)
 go_wp2_with fail
 refine E.o.mono ?_;rintro e v ⟨Y,c1,rfl,M,G,H,f⟩;have K:x % y<aK:=bG (gN _ Q.o) (gM R.o);have z:=aUz v (x % y:Nat) (gJ K) w.heap.size f.size;have W:=Z (pN.all (B:=w.heap.size) (w':=v.alloc (.cells #[.int .u64 (x % y:Nat)] 177)) ⟨Y,c1,rfl,M,G,H⟩ (bJ));have V:=Z (show Below w.heap.size w (v.alloc (.cells #[.int .u64 (x % y:Nat)] 177)) from(Below.ofDrew f).alloc f.size _);have j:=gY _ 1 1 _ _ (z.datF) (by omega) aA (by unfold maxLen;omega);have O:aJ [((x % y:Nat):Int)]=x % y:=by rw [iT,iL,pX];rfl
 rw [O] at j;have N:=Z j;clear M G H f E z j O K;generalize L:x % y=r at *;generalize J:x / y=al at *;have ai:=Z L;have ah:=Z J;clear L J;generalize (limbs al).length=ap at *
 go_wp2_with fail
 refine N.o.mono ?_;rintro e ar ⟨aa,c2,rfl,A,C,D,_,rfl⟩;have X:=Z (show pN w.heap.size r _ _ from⟨aa,c2,rfl,A,C,D⟩);clear A C D N;go_wp2;go_ret2;exact⟨_,_,rfl,by rw [ah.o];exact W.o,by rw [ai.o];exact X.o,V.o⟩
end
theorem aPq {x y n m:Nat} (hn:(limbs x).length=n) (hm:(limbs y).length=m) (J:y<=x) (hy:0<y) :
  ∃s,s<64/\Go.Lib.bitLen (nth (limbs y) (m - 1)).toNat=64 - s/\(limbs (y * 2 ^ s)).length=m/\(limbs (x * 2 ^ s)).length<=n+1/\0<(limbs (x * 2 ^ s)).length/\m<=n/\x * 2 ^ s<y * 2 ^ s * aK ^ (n - m+1):=by
 have X:0<m:=by rw [<-hm];exact bK.2 hy
 have K:m<=n:=by rw [<-hn,<-hm];exact iG J
 have o:=bU (l:=limbs y) (i:=m - 1) (by omega);rw [show m - 1+1=m by omega,fL (by omega),aY] at o;have v:=iC ((eO y).take (m - 1));rw [eS,pZ (by omega)] at v;have q:=zP hy;rw [hm] at q;have H:(nth (limbs y) (m - 1)).toNat<aK:=((eO y).nth (by omega)).lt;generalize (nth (limbs y) (m - 1)).toNat=T at *;generalize aJ ((limbs y).take (m - 1))=O at *;have G:0<T:=by
  rcases gD T with rfl | h
  ·rw [nO] at o;omega
  ·exact h
 obtain ⟨s,L,I,_,M⟩:=aMb G H;have j:=mA s;have E:y * 2 ^ s<aK ^ m:=by
  have e:aK=2 ^ (64 - s) * 2 ^ s:=by rw [<-jT,show 64 - s+s=64 by omega,fV]
  have A:T<2 ^ (64 - s):=by
   have f:T * 2 ^ s<2 ^ (64 - s) * 2 ^ s:=by rw [<-e];exact M
   exact aCc f
  have f:(T+1) * 2 ^ s<=2 ^ (64 - s) * 2 ^ s:=kF _ A;have C:y<aK ^ (m - 1) * (T+1):=by rw [cN,jN];omega
  have V:y * 2 ^ s<aK ^ (m - 1) * (T+1) * 2 ^ s:=aCb C j;have D:aK ^ (m - 1) * (T+1) * 2 ^ s<=aK ^ (m - 1) * aK:=by rw [eU];exact lU _ (by rw [<-e] at f;exact f)
  rw [<-iF,show(m - 1).succ=m by omega] at D;omega
 have N:x<aK ^ n:=by rw [<-hn];exact uQ x
 have r:x * 2 ^ s<aK ^ n * 2 ^ s:=aCb N j;have z:2 ^ s<=aK:=by rw [<-fV];exact pW (by decide) (by omega)
 refine⟨s,L,I,?_,fO ?_,bK.2 (qW (by omega) j),K,?_⟩
 ·have W:=fO E;have Q:=iG (a:=y) (b:=y * 2 ^ s) (Nat.le_mul_of_pos_right _ j);omega
 ·rw [iF];exact bG r (lU _ z)
 ·refine bG r ?_;have R:aK ^ (m - 1) * 2 ^ s * aK ^ (n - m+1)<=y * 2 ^ s * aK ^ (n - m+1):=kF _ (kF _ q);have U:aK ^ (m - 1) * 2 ^ s * aK ^ (n - m+1)=aK ^ n * 2 ^ s:=by rw [aCn,<-jT,show m - 1+(n - m+1)=n by omega]
  omega
structure QJ (X B N j:Nat) (xs qs:List Int):Prop where
 eq:X=aJ qs * aK ^ j * B+aJ xs
 lt:aJ xs<B * aK ^ j
 len:qs.length+j=N
 ok:bY qs
theorem QJ.step {X B N i n:Nat} {pre win post ds A:List Int} (h:QJ X B N (i+1) (pre++(win++post)) A) (q:pre.length=i) (H:win.length=n+1) (G:bY (pre++(win++post))) (D:B<aK ^ n) (E:0<B) (hd:aJ ds=aJ win % B) :
  QJ X B N i (pre++(ds++post)) (((aJ win / B:Nat):Int) :: A)/\aJ win / B<aK:=by
 obtain ⟨C,f,o⟩:=aFv q H G D h.lt;obtain ⟨s,v,l⟩:=aFp h.eq E h.lt;rw [f,o] at s;rw [f,o] at v;rw [f] at l;have r:aJ (pre++(ds++post))=aJ win % B * aK ^ i+aJ pre:=by
  rw [eY,eY,C,nO,cU,q,hd,dK];omega
 refine⟨⟨?_,?_,by have:=h.len;simp only [fQ];omega,fun z j=>?_⟩,l⟩
 ·rw [r,iT,pX,dK aK,oB (aJ win / B)];exact s
 ·rw [r];exact v
 ·rcases mB.1 j with rfl | j
  ·exact gJ l
  ·exact h.ok z j
theorem QJ.digit {X B N i n:Nat} {pre win post s:List Int} (h:QJ X B N (i+1) (pre++(win++post)) s) (o:pre.length=i) (q:win.length=n+1) (l:bY (pre++(win++post))) (f:B<aK ^ n) (j:0<B):aJ win / B<aK:=by
 have r:=(aFp h.eq j h.lt).2.2
 rwa [(aFv o q l f h.lt).2.1] at r
theorem QJ.done {x y s N:Nat} {xs f:List Int} (h:QJ (x * 2 ^ s) (y * 2 ^ s) N 0 xs f):aJ f=x / y/\aJ xs / 2 ^ s=x % y:=by
 have r:=mA s;have j:=h.eq;have l:=h.lt;rw [vS,jN] at j l;have v:0<y * 2 ^ s:=by omega
 have o:x * 2 ^ s / (y * 2 ^ s)=aJ f:=by rw [j,dK (aJ f),aCt v,nM l,cU]
 have q:x * 2 ^ s % (y * 2 ^ s)=aJ xs:=by rw [j,dK (aJ f),aG7,lY l]
 rw [aGs _ _ r] at o;rw [aCh] at q;exact⟨o.symm,by rw [<-q,Nat.mul_div_cancel _ r]⟩
theorem aU0 {P:Program} {t e:TypeId} {g N i k s:Nat} (o:P.underlying t=some (.slice e)) (l:∀w,(sizeOf e).run P w = .ok s w) (f:i<=k) (h:k<=N) (q:i<N) (W:World) :
  (Instr.slice t (.slice (some ⟨g,0,none⟩) N N) (some (.int .i64 i)) (some (.int .i64 k)) none).run P W = .ok (.slice (some ⟨g,i * s,none⟩) (k - i) (N - i)) W:=by
 have j:¬N=i:=by omega
 have r:i<=N:=by omega
 simp [Instr.slice,Instr.sliceBounds,Instr.sliceBound,run_underlying o,l,f,h,j,asIntOf,Addr.add]
 try omega
theorem aOn {g N i n:Nat} (h:i+n+1<=N) (f:i<N) (W:World):(Instr.slice 34 (.slice (some ⟨g,0,none⟩) N N) (some (.int .i64 i)) (some (.int .i64 ((i+n+1:Nat):Int))) none).run prog W = .ok (.slice (some ⟨g,i,none⟩) (n+1) (N - i)) W:=by
 have:=aU0 (P:=prog) (g:=g) (N:=N) (i:=i) (k:=i+n+1) underlying34 aFq (by omega) h f W
 rwa [jN,show i+n+1 - i=n+1 by omega] at this
theorem aMi {P:Program} {f:FuncId} {args:Array Value} {w:World} {n:Nat} {v:Value}
  (h:Calls P f args (w.drewN n) fun e w'=>e = .returned v/\∃m,w'=(w.drewN n).drewN m) :
  Calls P f args (w.drewN n) fun e l=>e = .returned v/\∃m,l=w.drewN m:=
 h.mono fun _ _ ⟨j,m,hm⟩=>⟨j,n+m,by rw [hm,kP]⟩
theorem aRv (X n:Nat):aJ (limbs X++(List.replicate (n+1) 0).drop (limbs X).length)=X:=by
 rw [List.drop_replicate,eY,tR,nO,cU,aY]
theorem aHw {pre win post:List Int} {i t:Nat} (f:pre.length=i) (h:t<win.length):nth (pre++(win++post)) (i+t)=nth win t:=by
 have:=tS (pre:=pre) (ds:=win.take t) (win:=win) (post:=post) (i:=t) f (by rw [eS];omega) h
 rwa [xJ] at this
theorem aOo {xs:List Int} {i l:Nat} (h:i+l<=xs.length):∃pre win post,xs=pre++(win++post)/\pre.length=i/\win.length=l:=
 ⟨xs.take i,(xs.drop i).take l,(xs.drop i).drop l,by rw [xJ,xJ],by rw [eS];omega,by rw [eS,kQ];omega⟩
def aYl (y L:Nat) (w:World) (e:Ending) (w':World):Prop:=∃a c,e = .returned (.slice a L c)/\bT cH.u64 (fH w.heap.size w') w' a L (limbs y)/\L<=c/\c<=maxLen/\Below w.heap.size w w'
theorem uI.toL {y f z:Nat} {w w':World} {e:Ending} (h:uI z w e w') (l:z=y) (j:(limbs y).length=f):aYl y f w e w':=by subst l j;exact h
section
variable {S S' : Nat -> Prop} (a b : Option Addr) (n m c d x y : Nat) (w : World) (hx : bT cH.u64 S w a n (limbs x)) (hy : bT cH.u64 S' w b m (limbs y)) (hn : n <= 549755813888) (hm : m <= 549755813888) (hnc : n <= c) (hcm : c <= maxLen)
include hx hy hn hm hnc hcm
omit hnc hcm in
theorem aRw (bM:y<=x) (ap:0<y) (dT:2<=m):Calls prog 171 #[.slice a n c,.slice b m d] w fun e w'=>aOm x y w e w':=by
 have dg:=Z (fE a b n m c d x y w hx hy (by omega) (by omega));have dE:¬(fZ x y<0):=by unfold fZ;split <;> (try split) <;> omega
 obtain ⟨s,bW,aD,a6,b6,b5,df,aR⟩:=aPq hx.1 hy.1 bM ap;generalize a7:y * 2 ^ s=r at *;generalize b7:x * 2 ^ s=E at *;obtain ⟨p,rfl⟩:∃p,m=p+2:=⟨m - 2,by omega⟩;obtain ⟨cO,dl,rfl,ad,u0⟩:=hy.at64 (k:=p+1) (by have:=hy.1;omega);rw [show p+2 - 1=p+1 by omega] at aD;have bP:∀W,Calls prog 199 #[.int .u64 (nth (limbs y) (p+1))] W fun e w'=>e = .returned (.int .i64 s)/\w'=W:=fun W=>by
  have:=Tryz.bits_LeadingZeros64 (nth (limbs y) (p+1)) W u0.1 (by have:=u0.2;omega);rw [aD] at this;refine this.mono ?_;rintro e w' ⟨rfl,rfl⟩;exact⟨by rw [show(64 - ((64 - s:Nat):Int))=s by omega],rfl⟩
 have db:=Z bP;have dj:=Z hx;have dk:=Z hy;have aQ:=Z bW;have ag:=Z a6;have bk:=Z b6;have cv:=Z b5;have dy:=Z aR;obtain ⟨v,bQ⟩:∃v,n=p+1+v:=⟨n - (p+1),by omega⟩;have ay:=Z (show 0<r from by rw [<-a7];exact qW ap (mA s));have az:=Z (show r<aK ^ (p+2) from by rw [<-a6];exact uQ r);have ct:=Z (show E<r * aK ^ v from by rw [show v=n - (p+2)+1 by omega];exact aR);have bi:=Z (show n+2<=1099511627776/\p+2<=n/\n<=549755813888 from⟨by omega,df,hn⟩);have ee:=Z ap;have dA:1<=v:=by omega
 have C:=Z bQ;have dV:n<=549755813888:=by omega
 have dB:v<=549755813888:=by omega
 have dW:p<=549755813888:=by omega
 have dc:¬(((p:Int)+2)=1):=by omega
 have dU:(((p:Int)+2) == 1)=false:=by simpa using dc
 have bg:=Z a7;have bl:=Z b7;clear a7 b7;generalize fZ x y=d2 at *;clear bQ;clear hx hy hn hm bP aD a6 b6 b5 aR bM ap bW u0;go_enter func171,ntmps171
 go_wp2_with fail
 refine dg.o.mono ?_;rintro e dq ⟨rfl,q,rfl⟩
 go_wp2_with fail
 refine(db.o _).mono ?_;rintro e dq ⟨rfl,rfl⟩;have b1:=Z ((aBn (S:=S') (some ⟨cO,dl,none⟩) (p+2) d y s (w.drewN q) (dk.o.keep (fun _ _ _=>rfl) aA) (by have:=bi.o;omega) aQ.o).mono fun _ _ h=>h.toL bg.o ag.o)
 go_wp2_with fail
 refine b1.o.mono ?_;rintro e f ⟨cP,a3,rfl,b9,bA,cW,b0⟩;have a4:=Z (Below.ofDrew b0);have am:w.heap.size<=f.heap.size:=a4.o.size;have cF:=Z (b9.mono (S':=fun k=>k<f.heap.size) fun _ h _=>h);have dD:=Z bA;clear b9 bA cW b0 b1;obtain ⟨dr,dd,bR,aE,bX⟩:=nF (n+1) w.heap.size f (by omega) am;rw [show((n+1:Nat):Int)=(n:Int)+1 by simp] at dd;have c7:=Z bR;have ck:=Z aE;have br:=Z bX;have cu:=Z (a4.o.trans (aE.mono am));have b2:=Z ((aBn (S:=fun k=>S k) a n c x s dr (dj.o.below cu.o aA) (by omega) aQ.o).mono fun _ _ h=>h.toL bl.o rfl);clear bR aE bX
 go_wp2_with fail
 refine b2.o.mono ?_;rintro e ar ⟨d0,c2,rfl,b8,cT,cV,a5⟩;have a0:=c7.o.same (w':=ar) (a5.block _ br.o);have dF:=fun dn=>aPo (c:=n+1) (m:=c2) dn a0 b8 bk.o cv.o
 have bo:=Z (a0.copy (eO E) bk.o);have bc:=(zU.copyAt ((limbs E).map (Value.int .u64)) 0 ar (zU.refl f.heap.size ar));have ca:=Z (aRv E n);generalize limbs E++(List.replicate (n+1) 0).drop (limbs E).length=dx at *;generalize ar.setCells f.heap.size 0 ((limbs E).map (Value.int .u64))=D at *;generalize (limbs E).length=ei at *;have av:=Z ((ck.o.trans (a5.mono (gM br.o))).trans bc.below);have aM:f.heap.size<D.heap.size:=bo.o.lt;obtain ⟨dt,de,bS,aF,bZ⟩:=nF v w.heap.size D (by have:=C.o;omega) (by omega);rw [show((v:Nat):Int)=(n:Int) - ((p:Int)+2)+1 by have:=C.o;omega] at de;have c8:=Z bS;have aw:=Z aF;have dz:=Z bZ;have c9:=Z (bo.o.same (w':=dt) (aF.block _ aM));have dX:p+2<=n:=bi.o.2.1;clear b8 cT cV a5 a0 b2 bc bS aF bZ;go_wp2
 go_loopw [11] (fun aW wr=>∃(j:Nat) (xs Q:List Int),j<=v/\aW = .int .i64 ((j:Int) - 1)/\Hid (QJ E r v j xs Q)/\Hid (iO wr w.heap.size f.heap.size (n+1) xs)/\Hid (iO wr w.heap.size D.heap.size v (List.replicate j 0++Q))/\Hid (bT cH.u64 (fun k=>k<f.heap.size) wr cP (p+2) (limbs r))/\Hid (Below w.heap.size w wr)) (fun aW _=>(intOf aW+1).toNat)
 case atStart=>
  refine⟨v,dx,[],aA,(by first | go_num | (have:=C.o;congr 1;omega)),⟨by rw [iL,ca.o];simp,by rw [ca.o];exact ct.o,by simp,fun z K=>by simp at K⟩,c9.o,(by have:=c8.o;rw [lZ];exact this),?_,?_⟩
  ·exact cF.o.keep (fun k _ cZ=>((av.o.trans (aw.o.mono (gM aM))).block k cZ)) (aH av.o.size aw.o.size)
  ·exact a4.o.trans ((av.o.trans (aw.o.mono (gM aM))).mono am)
 case round=>
  obtain ⟨j,xs,Q,dR,rfl,a9,G,b3,aj,a8⟩:=hrel;by_cases cY:j=0
  case pos=>
   subst cY;obtain ⟨bv,bw⟩:=QJ.done (x:=x) (y:=y) (s:=s) (by rw [bg.o,bl.o];exact a9.o);have b4:iO wr w.heap.size D.heap.size v Q:=by have:=b3.o;simpa using this
   have aU:=gY (some ⟨D.heap.size,0,none⟩) v v Q wr b4.datF (by have:=C.o;omega) aA (by unfold maxLen;have:=C.o;omega);have cf:=gY (some ⟨f.heap.size,0,none⟩) (n+1) (n+1) xs wr G.o.datF (by omega) aA (by unfold maxLen;omega);have bN:=G.o.1;rw [bv] at aU;have bs:=Z aU;have bt:=Z cf;have cl:=Z bw;have dh:=Z (show(limbs (aJ xs)).length<=n+1 from fO (by have:=iC G.o.2.2.1;rwa [bN] at this));generalize aJ xs=M at *;generalize bV:x / y=bp at *;have cs:=Z bV;clear bv bw aU cf b4 bN bV
   go_wp2_with fail
   refine bs.o.mono ?_;rintro e aZ ⟨cM,c3,rfl,A,H,I,_,rfl⟩;have cn:=Z (show pN w.heap.size bp _ _ from⟨cM,c3,rfl,A,H,I⟩);clear A H I bs;generalize (limbs bp).length=ej at *
   go_wp2_with fail
   refine bt.o.mono ?_;rintro e aZ ⟨cN,c4,rfl,A,H,I,_,rfl⟩;have ce:=Z (aHv cN _ c4 M s _ A (by have:=dh.o;omega) H aQ.o);clear A H I bt;generalize (limbs M).length=eh at *
   go_wp2_with fail
   refine ce.o.mono ?_;rintro e ba ⟨bu,c5,rfl,A,H,I,aC⟩;have co:=Z (show pN w.heap.size (M / 2 ^ s) ba _ from pN.mono (⟨bu,c5,rfl,A,H,I⟩:pN _ (M / 2 ^ s) ba (.slice bu (limbs (M / 2 ^ s)).length c5)) a8.o.size);have cp:=Z (cn.o.all aC);have cq:=Z (aG a8 aC);clear A H I aC ce;generalize (limbs (M / 2 ^ s)).length=eg at *;go_wp2;go_ret2;refine⟨_,_,rfl,by rw [cs.o];exact cp.o,by rw [<-cl.o];exact co.o,cq.o⟩
  case neg=>
   obtain ⟨i,rfl⟩:∃i,j=i+1:=⟨j - 1,by omega⟩;obtain ⟨pre,win,post,rfl,aa,ab⟩:=aOo (xs:=xs) (i:=i) (l:=p+3) (by rw [G.o.1];have:=C.o;omega);have O:bY win:=fun z K=>G.o.2.2.1 z (by simp [K])
   have au:∀t,t<p+3->wr.cell? ⟨f.heap.size,i+t,none⟩=some (.int .u64 ((nth win t).toNat:Int))/\(nth win t).toNat<aK:=fun t ao=>by
    have ah:=G.o.cell (j:=i+t) (by have:=C.o;omega);rw [aHw aa (by omega)] at ah;have ai:=O.nth (i:=t) (by omega);rw [ai.cast];exact⟨ah,ai.lt⟩
   obtain ⟨a2,aT,rfl,y1,u1⟩:=aj.o.at64 (k:=p+1) (by rw [ag.o];omega);obtain ⟨d1,ek,aL,y0,u0⟩:=aj.o.at64 (k:=p) (by rw [ag.o];omega);injection aL with aL
   injection aL with he1 he2 _
   subst he1 he2;obtain ⟨dw,en⟩:=au (p+2) (by omega);obtain ⟨dv,cj⟩:=au (p+1) (by omega);obtain ⟨du,ci⟩:=au p (by omega);have aN:=aRt ab ag.o O;rw [aY] at aN;have bz:=u1.cast;have bx:=u0.cast;have cc:=u1.lt;have cb:=u0.lt;rw [<-bz] at y1;rw [<-bx] at y0;have bU:=QJ.digit a9.o aa ab G.o.2.2.1 az.o ay.o;clear au u1 u0 bz bx;generalize (nth win (p+2)).toNat=c2 at *;generalize (nth win (p+1)).toNat=c1 at *;generalize (nth win p).toNat=U at *;generalize (nth (limbs r) (p+1)).toNat=A at *;generalize (nth (limbs r) p).toNat=X at *;have bf:=fun W=>(aFt c2 c1 U A X W cj ci cc cb).mono fun _ _ h=>(⟨h.1,h.2.2⟩:_/\∃p,_)
   have ax:aJn c2 c1 U A X (xX c2 c1 U A X):=by
    obtain ⟨_,_,_,⟨_,g,_⟩,_⟩:=aFt c2 c1 U A X wr cj ci cc cb [];exact g
   have bH:=Z (ax.2 _ bU aN);have aO:=Z ax.1;generalize xX c2 c1 U A X=ad at *;have dM:(i:Int)<v:=by omega
   clear aN ax bU;have dL:i+(p+2)<=n:=by have:=C.o;omega
   have d4:IntKind.i64.wrap ((i:Int)+((p:Int)+2))=((i+(p+2):Nat):Int):=by simp only [vO];omega
   have d5:IntKind.i64.wrap ((i:Int)+((p:Int)+2) - 1)=((i+(p+1):Nat):Int):=by simp only [vO];omega
   have d6:IntKind.i64.wrap ((i:Int)+((p:Int)+2) - 2)=((i+p:Nat):Int):=by simp only [vO];omega
   have d7:IntKind.i64.wrap ((p:Int)+2 - 1)=((p+1:Nat):Int):=by simp only [vO];omega
   have d8:IntKind.i64.wrap ((p:Int)+2 - 2)=(p:Int):=by simp only [vO];omega
   have d9:IntKind.i64.wrap (p:Int)=(p:Int):=by simp only [vO];omega
   have dG:(i:Int)+((p:Int)+2)<(n:Int)+1:=by omega
   have dH:(i:Int)+((p:Int)+1)<(n:Int)+1:=by omega
   have dI:(i:Int)+(p:Int)<(n:Int)+1:=by omega
   have dN:0<=(i:Int)+((p:Int)+2):=by omega
   have dO:0<=(i:Int)+((p:Int)+1):=by omega
   have dP:0<=(i:Int)+(p:Int):=by omega
   have dY:((i:Int)+((p:Int)+2)).toNat=i+(p+2):=by omega
   have ea:((i:Int)+((p:Int)+1)).toNat=i+(p+1):=by omega
   have eb:((i:Int)+(p:Int)).toNat=i+p:=by omega
   have ec:((p:Int)+1).toNat=p+1:=by omega
   have dQ:0<=(p:Int)+1:=by omega
   have dJ:(p:Int)+1<(p:Int)+2:=by omega
   have dK:(p:Int)<(p:Int)+2:=by omega
   have bG:(((i+1:Nat):Int) - 1)=i:=by omega
   rw [bG];have cG:=fun W=>aOn (g:=f.heap.size) (N:=n+1) (i:=i) (n:=p+2) (by have:=C.o;omega) (by have:=C.o;omega) W
   rw [show((i+(p+2)+1:Nat):Int)=(i:Int)+((p:Int)+2)+1 by omega] at cG;have bq:=fun L=>bT.keep (w':=wr.drewN L) (aj.o.mono (S':=fun k=>k≠f.heap.size) fun _ _ h=>aCx h) (fun _ _ _=>rfl) aA
   have bm:=@Z (∀L,Calls prog 202 #[.slice (some ⟨f.heap.size,i,none⟩) (p+2+1) (n+1 - i),.slice (some ⟨a2,aT,none⟩) (p+2) a3,.int .u64 ad] (wr.drewN L) fun e w'=>∃(ds:List Int) (t:Bool),e = .returned (.bool t)/\ds.length=p+2+1/\aJ ds+aJ (limbs r) * ad=aJ win+aK ^ (p+2+1) * (if t then 1 else 0)/\iO w' w.heap.size f.heap.size (n+1) (pre++(ds++post))/\zU f.heap.size (wr.drewN L) w') fun L=>
    aRr f.heap.size i (p+2) (n+1) (n+1 - i) a3 w.heap.size ad pre win post (limbs r) (some ⟨a2,aT,none⟩) (wr.drewN L) (G.o.same rfl) aa ab (bq L) (eO r) (by omega) (by have:=C.o;omega) aO.o
   have di:=Z ab;have an:=Z aa;have ed:=Z O;clear bq ab aa O bG;go_wp2
   go_quiet ((go_at_call 201;exact aMi (bf _)))
   clear bf
   go_wp2_with fail
   refine(bm.o _).mono ?_;rintro e aZ ⟨cQ,dm,rfl,z1,z2,z3,z4⟩;rw [aY] at z2;have cI:=Z z1;have cJ:=Z z2;have cK:=Z z3;have cL:=Z (show zU f.heap.size wr aZ from⟨Below.ofDrew z4.below,z4.size,z4.other⟩);clear z1 z2 z3 z4 bm dw dv du y1 y0;have ef:=bH.o;have dS:=aO.o;obtain ⟨bb,O⟩:∃bb,bb=wr:=⟨_,rfl⟩;subst O;go_wp2
   go_loopw [12,13] (fun aX dp ch=>∃(k:Nat) (t:Bool) (ds:List Int),aX = .int .u64 k/\dp = .bool t/\Hid (k<aK)/\Hid (aJ win / r<=k)/\Hid (ds.length=p+2+1)/\Hid (aJ ds+r * k=aJ win+aK ^ (p+2+1) * (if t then 1 else 0))/\Hid (iO ch w.heap.size f.heap.size (n+1) (pre++(ds++post)))/\Hid (zU f.heap.size bb ch)) (fun aX _ _=>(intOf aX).toNat)
   case atStart=>exact⟨ad,dm,cQ,rfl,rfl,aO.o,bH.o,cI.o,cJ.o,cK.o,cL.o⟩
   case round=>
    obtain ⟨k,t,ds,rfl,rfl,aP,bJ,al,bD,ak,Y⟩:=hrel;have R:=b3.o.same (w':=wr) (Y.o.other _ (by omega));have bj:=Z (aj.o.keep (w':=wr) (fun b _ aB=>Y.o.other _ (aCx aB)) (cD Y.o.size.symm));have cr:=Z (a8.o.trans (Y.o.below.mono am));have cX:f.heap.size≠D.heap.size:=by omega
    by_cases ao:t=true
    case neg=>
     obtain rfl:t=false:=by simpa using ao
     have J:=bD.o;rw [if_neg (by simp),nO,cU] at J;obtain ⟨bL,bB⟩:=aMg ay.o J rfl bJ.o;have cS:=Z (QJ.step a9.o an.o di.o G.o.2.2.1 az.o ay.o bB).1;have da:=Z bL;have el:=R.cell (j:=i) (by omega);have em:=R.frz i;have a1:=R.set (j:=i) (x:=(k:Nat)) (gJ aP.o);rw [aOj] at a1;have cB:=Z a1;have cE:=Z (ak.o.same (w':=wr.setCell ⟨D.heap.size,i,none⟩ (.int .u64 (k:Nat))) (dZ _ _ _ _ cX));have cC:=Z (bj.o.keep (w':=wr.setCell ⟨D.heap.size,i,none⟩ (.int .u64 (k:Nat))) (fun b _ aB=>dZ _ _ _ _ (by have dC:b<f.heap.size:=aB;show b≠D.heap.size;omega)) (cD eX.symm));have cA:=Z (cr.o.setCell (p:=⟨D.heap.size,i,none⟩) (by show w.heap.size<=D.heap.size;omega) (.int .u64 (k:Nat)));clear R a1 J bL bB ao;go_wp2
     go_roundw
     case rel=>exact⟨i,pre++(ds++post),(k:Int) :: Q,by omega,by first | rfl | go_num,(by show QJ _ _ _ _ _ _;rw [da.o];exact cS.o),cE.o,cB.o,cC.o,cA.o⟩
     case measure=>first | (simp [intOf];done) | (simp [intOf];omega)
    case pos=>
     subst ao;have bn:=Z (aRq f.heap.size i (p+2) (n+1) (n+1 - i) a3 w.heap.size pre ds post (limbs r) (some ⟨a2,aT,none⟩) wr ak.o an.o al.o (bj.o.mono fun _ _ h=>aCx h) (eO r) (by omega) (by omega));have bC:=Z (show bY ds from fun z K=>ak.o.2.2.1 z (by simp [K]));have J:=bD.o;rw [if_pos rfl,jN] at J;have aV:=ak.o.cell (j:=i+(p+2)) (by omega);rw [aHw an.o (by rw [al.o];omega)] at aV;have V:=(bC.o.nth (i:=p+2) (by rw [al.o];omega)).cast;rw [<-V] at aV;have bF:=fun ds' ah ai cR=>aMh (ds':=ds') az.o al.o bC.o ah ai J rfl bJ.o cR
     have bh:=Z bF;clear V J R bF;generalize (nth ds (p+2)).toNat=bd at *
     go_wp2_with fail
     refine bn.o.mono ?_;rintro e ba ⟨rfl,ds',af,aS,aq,cd⟩;rw [aY] at aS;have cg:=aq.cell (j:=i+(p+2)) (by omega);rw [aHw an.o (by rw [af];omega)] at cg;have aI:bY ds':=fun z K=>aq.2.2.1 z (by simp [K])
     have V:=(aI.nth (i:=p+2) (by rw [af];omega)).cast;rw [<-V] at cg;obtain ⟨ae,bI,bK,bE⟩:=bh.o ds' af aI aS;have d3:IntKind.u64.wrap ((k:Int) - 1)=(ae:Int):=by rw [show((k:Int) - 1)=(ae:Int) by omega];exact bO (by have:=aP.o;unfold aK at this;omega)
     have cw:=Z bI;have cy:=Z (show ae<aK from by have:=aP.o;omega);have cx:=Z bK;have cz:=Z af;have c0:=Z aq;have c6:=Z (Y.o.trans cd);clear af aS aq cd bI bK V aI aV bn bh;generalize (nth ds' (p+2)).toNat=be at *;have cm:=Z (show aJ ds'+r * ae=aJ win+aK ^ (p+2+1) * (if decide (bd<=be)=true then 1 else 0) from by rw [bE];simp);clear bE;go_wp2
     go_roundw
     case rel=>exact⟨ae,decide (bd<=be),ds',by go_num,by first | rfl | simp,cy.o,cx.o,cz.o,cm.o,c0.o,c6.o⟩
     case measure=>have:=cw.o;first | (simp [intOf];done) | (simp [intOf];omega)
theorem uV (f:0<y):Calls prog 171 #[.slice a n c,.slice b m d] w fun e w'=>aOm x y w e w':=by
 rcases nZ x y with h | h
 ·exact aPp a b n m c d x y w hx hy hn hm hnc hcm h
 ·have l:0<m:=by rw [<-hy.1];exact bK.2 f
  by_cases j:m=1
  ·exact aRu a b n m c d x y w hx hy hn hm h f j
  ·exact aRw a b n m c d x y w hx hy hn hm h f (by omega)
end
def zW (y:Nat) (w:World) (v:Value):Prop:=∃a c,v = .slice a (limbs y).length c/\bT cH.u64 (fun _=>True) w a (limbs y).length (limbs y)/\(limbs y).length<=c/\c<=maxLen/\(limbs y).length<=549755813888
theorem zW.all {y:Nat} {w w':World} {v:Value} (h:zW y w v) (o:Below w.heap.size w w'):zW y w' v:=by
 obtain ⟨a,c,f,j,l⟩:=h;exact⟨a,c,f,j.below o aA,l⟩
theorem pN.toR {B y:Nat} {w:World} {v:Value} (h:pN B y w v) (q:(limbs y).length<=549755813888):zW y w v:=by
 obtain ⟨a,c,f,j,l,o⟩:=h;exact⟨a,c,f,j.mono fun _ _ _=>trivial,l,o,q⟩
def aU1 (x y:Nat) (w:World) (e:Ending) (w':World):Prop:=∃v,e = .returned v/\pN w.heap.size (Nat.gcd x y) w' v/\Below w.heap.size w w'
theorem rN (O Q:Value) (x y:Nat) (w:World) (hx:zW x w O) (hy:zW y w Q) :
  Calls prog 131 #[O,Q] w fun e w'=>aU1 x y w e w':=by
 have ai:=Z hx;have aj:=Z hy;clear hx hy;go_enter func131,ntmps131
 go_wp2
 go_loopg [0,1] y (fun g u0 u1 wr=>∃z,Hid (zW z wr u0)/\Hid (zW g wr u1)/\Hid (Nat.gcd z g=Nat.gcd x y)/\Hid (Below w.heap.size w wr))
 case atStart=>exact⟨x,ai.o,aj.o,rfl,aO _ _⟩
 case round=>
  obtain ⟨g,aa⟩:∃g,g=gk:=⟨_,rfl⟩;subst aa;obtain ⟨z,A,v,h,s⟩:=hrel;obtain ⟨a,c,rfl,l,C,D,E⟩:=A.o;obtain ⟨b,d,rfl,G,M,N,q⟩:=v.o;by_cases Y:g=0
  case pos=>
   subst Y;have H:=Z (eF a _ c _ wr l (by omega));have ab:=Z (show Nat.gcd x y=z from by rw [<-h.o,Nat.gcd_zero_right]);have ad:(limbs 0).length=0:=by rw [dI];rfl
   rw [ad] at *;clear l C D E G M N q A v h;generalize I:(limbs z).length=ak at *;have ao:=Z I;clear I
   go_wp2_with fail
   refine H.o.mono ?_;rintro e al ⟨am,c2,rfl,K,f⟩;have R:=Z K;have r:=Z (aG s f);have U:=Z s.o.size;clear K f H;go_wp2;go_ret;refine⟨_,rfl,?_,r.o⟩;rw [ab.o];exact pN.own R.o U.o
  case neg=>
   have j:0<g:=by omega
   have L:=Z (uV a b _ _ c d z g wr l G E q C D j);have an:0<(limbs g).length:=bK.2 j;have af:=Z (show(limbs (z % g)).length<=549755813888 from aH (iG (gM (gN _ j))) q);have ag:=Z (gN z j);have X:=Z (show Nat.gcd g (z % g)=Nat.gcd x y from by rw [<-h.o,aCy z g,Nat.gcd_rec g z,aCy]);clear l C D E G M N q A h;generalize (limbs z).length=ak at *;generalize ae:(limbs g).length=ap at *;clear ae
   go_wp2_with fail
   refine L.o.mono ?_;rintro e al ⟨aq,ar,rfl,ah,J,f⟩;have V:=Z (v.o.all f);have W:=Z (J.toR af.o);have r:=Z (aG s f);clear ah J f L;go_wp2
   go_roundg (z % g)
   case measure=>exact ag.o
   case rel=>exact⟨g,V.o,W.o,X.o,r.o⟩
theorem gP:limbs 1 = [1]:=by rw [iU (by decide),show 1 / aK=0 by decide,dI];rfl
theorem zX {g:Nat}:(fZ g 1 == 0)=(g == 1):=by
 unfold fZ;by_cases h:g<1
 ·rw [if_pos h];obtain rfl:g=0:=by omega
  rfl
 ·rw [if_neg h];by_cases f:g=1
  ·rw [if_pos f,f];rfl
  ·rw [if_neg f];have:(g == 1)=false:=by simpa using f
   rw [this];rfl
theorem aB6 {S:Nat->Prop} (l f:List Int) (x y:Nat) (a b:Option Addr) (c d:Nat) (w:World) (Y:l=limbs x) (D:f=limbs y) (I:bT cH.u64 S w a l.length l) (A:bT cH.u64 S w b f.length f) (hn:l.length<=1000000) (hm:f.length<=1000000) (V:l.length<=c/\c<=maxLen) (X:f.length<=d/\d<=maxLen) (O:iB l=true) (Q:iB f=true) (N:0<y) (hy:y=1) :
  Calls prog 85 #[fA ⟨false,l,f⟩ a c b d] w fun e w'=>e = .returned (.bool true)/\Below w.heap.size w w':=by
  have r:Below w.heap.size w (w.alloc (.cells #[.bool false,.slice a l.length c,.slice b f.length d] 36)):=bJ;have s:=Z r;have K:=Z (gS a l.length c l _ (I.below r aA) (by omega));have L:=Z (gS b f.length d f _ (A.below r aA) (by omega));rw [O] at K;rw [Q] at L;have ae:0<f.length:=by rw [D];exact bK.2 N
  have af:¬((f.length:Int)=0):=by omega
  have am:decide ((f.length:Int)=0)=false:=by simpa using af
  have ab:=Z hm;have ai:=Z (show fZ y 1=0 by rw [hy];exact vX 1);have ad:=Z (show bT cH.u64 S w b f.length (limbs y) by rw [<-D];exact A);clear I A r hn hm V X O Q N hy Y D ae;have v:=cC w (.cells #[.bool false,.slice a l.length c,.slice b f.length d] 36);generalize ah:w.alloc (.cells #[.bool false,.slice a l.length c,.slice b f.length d] 36)=w0 at *;have an:w0.cell? ⟨w.heap.size,0,none⟩=some (.bool false):=E v 0;have aj:w0.cell? ⟨w.heap.size,1,none⟩=some (.slice a l.length c):=E v 1;have R:w0.cell? ⟨w.heap.size,2,none⟩=some (.slice b f.length d):=E v 2;clear v;go_enter func85,ntmps85
  go_wp2_with fail
  refine K.o.mono ?_;rintro e w' ⟨rfl,rfl⟩
  go_wp2_with fail
  refine L.o.mono ?_;rintro e w' ⟨rfl,rfl⟩;clear ah;go_wp2;refine bF (S:=fun W=>Below w0.heap.size w0 W) 14 (by kernel_rfl) (by kernel_rfl) (aF w0) (fun _=>?_);refine aE 0 ?_;refine dF 1 (fun W h=>aB h R) ?_;refine aV 2 fun q j=>?_;go_simp
  go_at_call 130
  refine(tP _).mono ?_;rintro aa U ⟨rfl,G⟩;have z:Below w0.heap.size w0 U:=by rw [G];exact(aF w0).alloc (aF w0).size _
  have J:=Z (fE b (some ⟨w0.drew.heap.size,0,none⟩) f.length 1 d 1 y 1 U ((ad.o).below (s.o.trans (z.mono s.o.size)) aA) (by rw [G,gP];exact zO w0.drew) (by have:=ab.o;omega) (by decide));clear G;dsimp only;refine j.out _ _ (by(exact z)) (fun hHeld2=>?_);clear j q;refine aV 3 fun q j=>?_;go_simp
  go_at_call 129
  refine J.o.mono ?_;rintro aa al ⟨rfl,ak,M⟩;have H:Below w0.heap.size w0 al:=by rw [M];exact z.drewN ak
  rw [ai.o];clear M J;dsimp only;refine j.out _ _ (by(exact H)) (fun hHeld3=>?_);clear j q;(try simp only [Act.put,sA,sB,sC]);refine aE 4 ?_;refine aE 5 ?_;refine aE 6 (hy:=(by first | exact Or.inl ⟨by rfl,by(intro W C;have ag:=aB C aj;go_simp <;> with_reducible rfl)⟩ | exact Or.inr ⟨by rfl,rfl⟩)) ?_;refine aE 7 ?_;refine aE 8 (hy:=(by first | exact Or.inl ⟨by rfl,by(intro W C;have ag:=aB C R;go_simp <;> with_reducible rfl)⟩ | exact Or.inr ⟨by rfl,rfl⟩)) ?_;refine aE 9 ?_;refine aV 10 fun q j=>?_;go_simp;refine j.out _ _ (by(assumption)) (fun hHeld4=>?_);clear j q;refine aV 11 fun q j=>?_;go_simp;refine j.out _ _ (by(assumption)) (fun hHeld5=>?_);clear j q;refine aV 12 fun q j=>?_;go_simp;refine j.out _ _ (by(assumption)) (fun hHeld6=>?_);clear j q;(try simp only [Act.put,sA,sB,sC]);refine aE 13 ?_;refine cF (by decide +kernel) ?_;simp only [dL,cW];go_wp2;go_ret;exact⟨rfl,s.o.trans (H.mono s.o.size)⟩
theorem aB7 {S:Nat->Prop} (j f:List Int) (x y:Nat) (a b:Option Addr) (c d:Nat) (w:World) (z:j=limbs x) (s:f=limbs y) (L:bT cH.u64 S w a j.length j) (D:bT cH.u64 S w b f.length f) (hn:j.length<=1000000) (hm:f.length<=1000000) (M:j.length<=c/\c<=maxLen) (hd:f.length<=d/\d<=maxLen) (af:iB j=true) (ag:iB f=true) (Q:0<y) (hy:y≠1) :
  Calls prog 85 #[fA ⟨false,j,f⟩ a c b d] w fun e w'=>e = .returned (.bool (Nat.gcd x y == 1))/\Below w.heap.size w w':=by
  have G:Below w.heap.size w (w.alloc (.cells #[.bool false,.slice a j.length c,.slice b f.length d] 36)):=bJ;have r:=Z G;have aa:=Z (gS a j.length c j _ (L.below G aA) (by omega));have ab:=Z (gS b f.length d f _ (D.below G aA) (by omega));rw [af] at aa;rw [ag] at ab;have ar:0<f.length:=by rw [s];exact bK.2 Q
  have au:¬((f.length:Int)=0):=by omega
  have a4:decide ((f.length:Int)=0)=false:=by simpa using au
  have al:=Z hm;have ay:=Z (show fZ y 1=1 from vW (by omega));have aw:=Z (zX (g:=Nat.gcd x y));have aq:=Z (show bT cH.u64 S w b f.length (limbs y) by rw [<-s];exact D);have ao:=Z (show zW x w (.slice a j.length c) from⟨a,c,by rw [<-z],by rw [<-z];exact L.mono fun _ _ _=>trivial,by rw [<-z];exact M.1,M.2,by rw [<-z];omega⟩);have ap:=Z (show zW y w (.slice b f.length d) from⟨b,d,by rw [<-s],by rw [<-s];exact D.mono fun _ _ _=>trivial,by rw [<-s];exact hd.1,hd.2,by rw [<-s];omega⟩);have am:=Z (show(limbs (Nat.gcd x y)).length<=1000000 from aH (iG (aCv Q (aCq x y))) (by rw [<-s];exact hm));clear L D G hn hm M hd af ag Q hy z s ar;have H:=cC w (.cells #[.bool false,.slice a j.length c,.slice b f.length d] 36);generalize ax:w.alloc (.cells #[.bool false,.slice a j.length c,.slice b f.length d] 36)=w0 at *;have a5:w0.cell? ⟨w.heap.size,0,none⟩=some (.bool false):=E H 0;have az:w0.cell? ⟨w.heap.size,1,none⟩=some (.slice a j.length c):=E H 1;have ah:w0.cell? ⟨w.heap.size,2,none⟩=some (.slice b f.length d):=E H 2;clear H;go_enter func85,ntmps85
  go_wp2_with fail
  refine aa.o.mono ?_;rintro e w' ⟨rfl,rfl⟩
  go_wp2_with fail
  refine ab.o.mono ?_;rintro e w' ⟨rfl,rfl⟩;clear ax;go_wp2;refine bF (S:=fun W=>Below w0.heap.size w0 W) 14 (by kernel_rfl) (by kernel_rfl) (aF w0) (fun _=>?_);refine aE 0 ?_;refine dF 1 (fun W h=>aB h ah) ?_;refine aV 2 fun q l=>?_;go_simp
  go_at_call 130
  refine(tP _).mono ?_;rintro C ai ⟨rfl,N⟩;have I:Below w0.heap.size w0 ai:=by rw [N];exact(aF w0).alloc (aF w0).size _
  have Y:=Z (fE b (some ⟨w0.drew.heap.size,0,none⟩) f.length 1 d 1 y 1 ai ((aq.o).below (r.o.trans (I.mono r.o.size)) aA) (by rw [N,gP];exact zO w0.drew) (by have:=al.o;omega) (by decide));clear N;dsimp only;refine l.out _ _ (by(exact I)) (fun hHeld2=>?_);clear l q;refine aV 3 fun q l=>?_;go_simp
  go_at_call 129
  refine Y.o.mono ?_;rintro C aj ⟨rfl,a0,ad⟩;have v:Below w0.heap.size w0 aj:=by rw [ad];exact I.drewN a0
  rw [ay.o];clear ad Y;dsimp only;refine l.out _ _ (by(exact v)) (fun hHeld3=>?_);clear l q;(try simp only [Act.put,sA,sB,sC]);have hcm:=Z (rN (.slice a j.length c) (.slice b f.length d) x y aj (ao.o.all (r.o.trans (v.mono r.o.size))) (ap.o.all (r.o.trans (v.mono r.o.size))));refine aE 4 ?_;refine aE 5 ?_;refine aE 6 ?_;refine dF 7 (fun W h=>aB h az) ?_;refine aE 8 ?_;refine dF 9 (fun W h=>aB h ah) ?_;refine aV 10 fun q l=>?_;go_simp
  go_at_call 131
  refine hcm.o.mono ?_;rintro C A ⟨a6,rfl,an,X⟩;have J:Below w0.heap.size w0 A:=v.trans (X.mono v.size);obtain ⟨ak,c5,rfl,a2,_,_⟩:=an;clear X;dsimp only;refine l.out _ _ (by(exact J)) (fun hHeld4=>?_);clear l q;refine aV 11 fun q l=>?_;go_simp
  go_at_call 130
  refine(tP _).mono ?_;rintro C R ⟨rfl,O⟩;have K:Below A.heap.size A R:=by rw [O];exact bJ
  have U:Below w0.heap.size w0 R:=J.trans (K.mono J.size);have av:=Z (fE ak (some ⟨A.heap.size,0,none⟩) (limbs (Nat.gcd x y)).length 1 c5 1 (Nat.gcd x y) 1 R (a2.below K aA) (by rw [O,gP];exact zO A) (by have:=am.o;omega) (by decide));clear O K;dsimp only;refine l.out _ _ (by(exact U)) (fun hHeld5=>?_);clear l q;refine aV 12 fun q l=>?_;go_simp
  go_at_call 129
  refine av.o.mono ?_;rintro C a3 ⟨rfl,a1,ae⟩;have V:Below w0.heap.size w0 a3:=by rw [ae];exact U.drewN a1
  clear ae;dsimp only;refine l.out _ _ (by(exact V)) (fun hHeld6=>?_);clear l q;(try simp only [Act.put,sA,sB,sC]);refine aE 13 ?_;refine cF (by decide +kernel) ?_;simp only [dL,cW];go_wp2;go_ret;exact⟨aI aw.o,r.o.trans (V.mono r.o.size)⟩
theorem aB8 {S:Nat->Prop} (j f:List Int) (x y:Nat) (a b:Option Addr) (c d:Nat) (w:World) (Y:j=limbs x) (D:f=limbs y) (I:bT cH.u64 S w a j.length j) (A:bT cH.u64 S w b f.length f) (hn:j.length<=1000000) (hm:f.length<=1000000) (V:j.length<=c/\c<=maxLen) (X:f.length<=d/\d<=maxLen) (O:iB j=true) (Q:iB f=true) (N:0<y) (hy:y=1) (aj:j.length≠0) :
  Calls prog 85 #[fA ⟨true,j,f⟩ a c b d] w fun e w'=>e = .returned (.bool true)/\Below w.heap.size w w':=by
  have r:Below w.heap.size w (w.alloc (.cells #[.bool true,.slice a j.length c,.slice b f.length d] 36)):=bJ;have s:=Z r;have K:=Z (gS a j.length c j _ (I.below r aA) (by omega));have L:=Z (gS b f.length d f _ (A.below r aA) (by omega));rw [O] at K;rw [Q] at L;have ae:0<f.length:=by rw [D];exact bK.2 N
  have af:¬((f.length:Int)=0):=by omega
  have ao:decide ((f.length:Int)=0)=false:=by simpa using af
  have ag:¬((j.length:Int)=0):=by omega
  have ap:decide ((j.length:Int)=0)=false:=by simpa using ag
  have ab:=Z hm;have ak:=Z (show fZ y 1=0 by rw [hy];exact vX 1);have ad:=Z (show bT cH.u64 S w b f.length (limbs y) by rw [<-D];exact A);clear I A r hn hm V X O Q N hy Y D ae aj;have v:=cC w (.cells #[.bool true,.slice a j.length c,.slice b f.length d] 36);generalize ai:w.alloc (.cells #[.bool true,.slice a j.length c,.slice b f.length d] 36)=w0 at *;have aq:w0.cell? ⟨w.heap.size,0,none⟩=some (.bool true):=E v 0;have al:w0.cell? ⟨w.heap.size,1,none⟩=some (.slice a j.length c):=E v 1;have R:w0.cell? ⟨w.heap.size,2,none⟩=some (.slice b f.length d):=E v 2;clear v;go_enter func85,ntmps85
  go_wp2_with fail
  refine K.o.mono ?_;rintro e w' ⟨rfl,rfl⟩
  go_wp2_with fail
  refine L.o.mono ?_;rintro e w' ⟨rfl,rfl⟩;clear ai;go_wp2;refine bF (S:=fun W=>Below w0.heap.size w0 W) 14 (by kernel_rfl) (by kernel_rfl) (aF w0) (fun _=>?_);refine aE 0 ?_;refine dF 1 (fun W h=>aB h R) ?_;refine aV 2 fun q l=>?_;go_simp
  go_at_call 130
  refine(tP _).mono ?_;rintro aa U ⟨rfl,G⟩;have z:Below w0.heap.size w0 U:=by rw [G];exact(aF w0).alloc (aF w0).size _
  have J:=Z (fE b (some ⟨w0.drew.heap.size,0,none⟩) f.length 1 d 1 y 1 U ((ad.o).below (s.o.trans (z.mono s.o.size)) aA) (by rw [G,gP];exact zO w0.drew) (by have:=ab.o;omega) (by decide));clear G;dsimp only;refine l.out _ _ (by(exact z)) (fun hHeld2=>?_);clear l q;refine aV 3 fun q l=>?_;go_simp
  go_at_call 129
  refine J.o.mono ?_;rintro aa an ⟨rfl,am,M⟩;have H:Below w0.heap.size w0 an:=by rw [M];exact z.drewN am
  rw [ak.o];clear M J;dsimp only;refine l.out _ _ (by(exact H)) (fun hHeld3=>?_);clear l q;(try simp only [Act.put,sA,sB,sC]);refine aE 4 ?_;refine aE 5 ?_;refine aE 6 (hy:=(by first | exact Or.inl ⟨by rfl,by(intro W C;have ah:=aB C al;go_simp <;> with_reducible rfl)⟩ | exact Or.inr ⟨by rfl,rfl⟩)) ?_;refine aE 7 ?_;refine aE 8 (hy:=(by first | exact Or.inl ⟨by rfl,by(intro W C;have ah:=aB C R;go_simp <;> with_reducible rfl)⟩ | exact Or.inr ⟨by rfl,rfl⟩)) ?_;refine aE 9 ?_;refine aV 10 fun q l=>?_;go_simp;refine l.out _ _ (by(assumption)) (fun hHeld4=>?_);clear l q;refine aV 11 fun q l=>?_;go_simp;refine l.out _ _ (by(assumption)) (fun hHeld5=>?_);clear l q;refine aV 12 fun q l=>?_;go_simp;refine l.out _ _ (by(assumption)) (fun hHeld6=>?_);clear l q;(try simp only [Act.put,sA,sB,sC]);refine aE 13 ?_;refine cF (by decide +kernel) ?_;simp only [dL,cW];go_wp2;go_ret;exact⟨rfl,s.o.trans (H.mono s.o.size)⟩
theorem aB9 {S:Nat->Prop} (j f:List Int) (x y:Nat) (a b:Option Addr) (c d:Nat) (w:World) (z:j=limbs x) (s:f=limbs y) (L:bT cH.u64 S w a j.length j) (D:bT cH.u64 S w b f.length f) (hn:j.length<=1000000) (hm:f.length<=1000000) (M:j.length<=c/\c<=maxLen) (hd:f.length<=d/\d<=maxLen) (af:iB j=true) (ag:iB f=true) (Q:0<y) (hy:y≠1) (az:j.length≠0) :
  Calls prog 85 #[fA ⟨true,j,f⟩ a c b d] w fun e w'=>e = .returned (.bool (Nat.gcd x y == 1))/\Below w.heap.size w w':=by
  have G:Below w.heap.size w (w.alloc (.cells #[.bool true,.slice a j.length c,.slice b f.length d] 36)):=bJ;have r:=Z G;have aa:=Z (gS a j.length c j _ (L.below G aA) (by omega));have ab:=Z (gS b f.length d f _ (D.below G aA) (by omega));rw [af] at aa;rw [ag] at ab;have ar:0<f.length:=by rw [s];exact bK.2 Q
  have au:¬((f.length:Int)=0):=by omega
  have a6:decide ((f.length:Int)=0)=false:=by simpa using au
  have av:¬((j.length:Int)=0):=by omega
  have a7:decide ((j.length:Int)=0)=false:=by simpa using av
  have al:=Z hm;have a0:=Z (show fZ y 1=1 from vW (by omega));have ax:=Z (zX (g:=Nat.gcd x y));have aq:=Z (show bT cH.u64 S w b f.length (limbs y) by rw [<-s];exact D);have ao:=Z (show zW x w (.slice a j.length c) from⟨a,c,by rw [<-z],by rw [<-z];exact L.mono fun _ _ _=>trivial,by rw [<-z];exact M.1,M.2,by rw [<-z];omega⟩);have ap:=Z (show zW y w (.slice b f.length d) from⟨b,d,by rw [<-s],by rw [<-s];exact D.mono fun _ _ _=>trivial,by rw [<-s];exact hd.1,hd.2,by rw [<-s];omega⟩);have am:=Z (show(limbs (Nat.gcd x y)).length<=1000000 from aH (iG (aCv Q (aCq x y))) (by rw [<-s];exact hm));clear L D G hn hm M hd af ag Q hy z s ar az;have H:=cC w (.cells #[.bool true,.slice a j.length c,.slice b f.length d] 36);generalize ay:w.alloc (.cells #[.bool true,.slice a j.length c,.slice b f.length d] 36)=w0 at *;have a8:w0.cell? ⟨w.heap.size,0,none⟩=some (.bool true):=E H 0;have a1:w0.cell? ⟨w.heap.size,1,none⟩=some (.slice a j.length c):=E H 1;have ah:w0.cell? ⟨w.heap.size,2,none⟩=some (.slice b f.length d):=E H 2;clear H;go_enter func85,ntmps85
  go_wp2_with fail
  refine aa.o.mono ?_;rintro e w' ⟨rfl,rfl⟩
  go_wp2_with fail
  refine ab.o.mono ?_;rintro e w' ⟨rfl,rfl⟩;clear ay;go_wp2;refine bF (S:=fun W=>Below w0.heap.size w0 W) 14 (by kernel_rfl) (by kernel_rfl) (aF w0) (fun _=>?_);refine aE 0 ?_;refine dF 1 (fun W h=>aB h ah) ?_;refine aV 2 fun q l=>?_;go_simp
  go_at_call 130
  refine(tP _).mono ?_;rintro C ai ⟨rfl,N⟩;have I:Below w0.heap.size w0 ai:=by rw [N];exact(aF w0).alloc (aF w0).size _
  have Y:=Z (fE b (some ⟨w0.drew.heap.size,0,none⟩) f.length 1 d 1 y 1 ai ((aq.o).below (r.o.trans (I.mono r.o.size)) aA) (by rw [N,gP];exact zO w0.drew) (by have:=al.o;omega) (by decide));clear N;dsimp only;refine l.out _ _ (by(exact I)) (fun hHeld2=>?_);clear l q;refine aV 3 fun q l=>?_;go_simp
  go_at_call 129
  refine Y.o.mono ?_;rintro C aj ⟨rfl,a2,ad⟩;have v:Below w0.heap.size w0 aj:=by rw [ad];exact I.drewN a2
  rw [a0.o];clear ad Y;dsimp only;refine l.out _ _ (by(exact v)) (fun hHeld3=>?_);clear l q;(try simp only [Act.put,sA,sB,sC]);have hcm:=Z (rN (.slice a j.length c) (.slice b f.length d) x y aj (ao.o.all (r.o.trans (v.mono r.o.size))) (ap.o.all (r.o.trans (v.mono r.o.size))));refine aE 4 ?_;refine aE 5 ?_;refine aE 6 ?_;refine dF 7 (fun W h=>aB h a1) ?_;refine aE 8 ?_;refine dF 9 (fun W h=>aB h ah) ?_;refine aV 10 fun q l=>?_;go_simp
  go_at_call 131
  refine hcm.o.mono ?_;rintro C A ⟨a9,rfl,an,X⟩;have J:Below w0.heap.size w0 A:=v.trans (X.mono v.size);obtain ⟨ak,c5,rfl,a4,_,_⟩:=an;clear X;dsimp only;refine l.out _ _ (by(exact J)) (fun hHeld4=>?_);clear l q;refine aV 11 fun q l=>?_;go_simp
  go_at_call 130
  refine(tP _).mono ?_;rintro C R ⟨rfl,O⟩;have K:Below A.heap.size A R:=by rw [O];exact bJ
  have U:Below w0.heap.size w0 R:=J.trans (K.mono J.size);have aw:=Z (fE ak (some ⟨A.heap.size,0,none⟩) (limbs (Nat.gcd x y)).length 1 c5 1 (Nat.gcd x y) 1 R (a4.below K aA) (by rw [O,gP];exact zO A) (by have:=am.o;omega) (by decide));clear O K;dsimp only;refine l.out _ _ (by(exact U)) (fun hHeld5=>?_);clear l q;refine aV 12 fun q l=>?_;go_simp
  go_at_call 129
  refine aw.o.mono ?_;rintro C a5 ⟨rfl,a3,ae⟩;have V:Below w0.heap.size w0 a5:=by rw [ae];exact U.drewN a3
  clear ae;dsimp only;refine l.out _ _ (by(exact V)) (fun hHeld6=>?_);clear l q;(try simp only [Act.put,sA,sB,sC]);refine aE 13 ?_;refine cF (by decide +kernel) ?_;simp only [dL,cW];go_wp2;go_ret;exact⟨aI ax.o,r.o.trans (V.mono r.o.size)⟩
theorem fX {S:Nat->Prop} (r:cJ) (a b:Option Addr) (c d:Nat) (w:World) (v:bT cH.u64 S w a r.num.length r.num) (z:bT cH.u64 S w b r.den.length r.den) (hn:r.num.length<=1000000) (hm:r.den.length<=1000000) (D:r.num.length<=c/\c<=maxLen) (hd:r.den.length<=d/\d<=maxLen) :
  Calls prog 85 #[fA r a c b d] w fun e w'=>e = .returned (.bool (iR r))/\Below w.heap.size w w':=by
 have A:=@Z (iR r=(iB r.num && (iB r.den && (!decide (r.den.length=0) && (!(r.neg && decide (r.num.length=0)) && (Nat.gcd (aJ r.num) (aJ r.den) == 1)))))) rfl;obtain ⟨s,j,f⟩:=r;dsimp only at *;have G:Below w.heap.size w (w.alloc (.cells #[.bool s,.slice a j.length c,.slice b f.length d] 36)):=bJ;have K:=Z G;have E:=Z (gS a j.length c j _ (v.below G aA) (by omega));have H:=Z (gS b f.length d f _ (z.below G aA) (by omega));cases l:iB j
 case false=>
  have C:=@Z (false=iR ⟨s,j,f⟩) (by rw [A.o,l];rfl);rw [l] at E;clear l A H v z hn hm D hd G;go_enter func85,ntmps85
  go_wp2_with fail
  refine E.o.mono ?_;rintro e w' ⟨rfl,rfl⟩;go_wp2;go_ret;exact⟨aI C.o,K.o⟩
 cases q:iB f
 case false=>
  have C:=@Z (false=iR ⟨s,j,f⟩) (by rw [A.o,l,q];rfl);rw [l] at E;rw [q] at H;clear l q A v z hn hm D hd G;go_enter func85,ntmps85
  go_wp2_with fail
  refine E.o.mono ?_;rintro e w' ⟨rfl,rfl⟩
  go_wp2_with fail
  refine H.o.mono ?_;rintro e w' ⟨rfl,rfl⟩;go_wp2;go_ret;exact⟨aI C.o,K.o⟩
 by_cases L:f.length=0
 ·obtain rfl:f = []:=jR L;have C:=@Z (false=iR ⟨s,j,[]⟩) (by rw [A.o,l,q];rfl);rw [l] at E;rw [q] at H;clear l q A v z hn hm D hd G L;go_enter func85,ntmps85
  go_wp2_with fail
  refine E.o.mono ?_;rintro e w' ⟨rfl,rfl⟩
  go_wp2_with fail
  refine H.o.mono ?_;rintro e w' ⟨rfl,rfl⟩;go_wp2;go_ret;exact⟨aI C.o,K.o⟩
 by_cases O:s=true/\j.length=0
 ·obtain ⟨rfl,Q⟩:=O;obtain rfl:j = []:=jR Q;have C:=@Z (false=iR ⟨true,[],f⟩) (by rw [A.o,l,q];simp);rw [l] at E;rw [q] at H;have R:¬((f.length:Int)=0):=by omega
  have V:decide ((f.length:Int)=0)=false:=by simpa using R
  clear l q A v z hn hm D hd G L Q;go_enter func85,ntmps85
  go_wp2_with fail
  refine E.o.mono ?_;rintro e w' ⟨rfl,rfl⟩
  go_wp2_with fail
  refine H.o.mono ?_;rintro e w' ⟨rfl,rfl⟩;go_wp2;go_ret;exact⟨aI C.o,K.o⟩
 have J:=(mQ v.us l).1;have I:=(mQ z.us q).1;have M:0<aJ f:=by rw [<-bK,<-I];omega
 have N:s=true->j.length≠0:=fun h e=>O ⟨h,e⟩
 have U:(s && decide (j.length=0))=false:=by
  cases s with
  | false=>rfl
  | true=>simp [N rfl]
 have C:iR ⟨s,j,f⟩=(Nat.gcd (aJ j) (aJ f) == 1):=by rw [A.o,l,q,U,aR L];rfl
 rw [C];by_cases hy:aJ f=1
 ·rw [show(Nat.gcd (aJ j) (aJ f) == 1)=true by rw [hy,Nat.gcd_one_right];rfl];cases s with
  | false=>exact aB6 j f (aJ j) (aJ f) a b c d w J I v z hn hm D hd l q M hy
  | true=>exact aB8 j f (aJ j) (aJ f) a b c d w J I v z hn hm D hd l q M hy (N rfl)
 ·cases s with
  | false=>exact aB7 j f (aJ j) (aJ f) a b c d w J I v z hn hm D hd l q M hy
  | true=>exact aB9 j f (aJ j) (aJ f) a b c d w J I v z hn hm D hd l q M hy (N rfl)
def cZ (B p:Nat) (T:aC) (op:Int) (nm:ByteArray) (val:cJ) (args:List Int) (w:World) (e:Ending) (w':World):Prop:=
 e = .returned (.tuple #[.int .i64 (bQ T op nm val args).1.1,.int .i64 (bQ T op nm val args).1.2])/\dG B p (bQ T op nm val args).2 w'/\dA p w w'
structure oH (w:World) (nm:ByteArray) (val:cJ) (args:List Int) (op:Int) (a b g:Option Addr) (c d e:Nat):Prop where
 rnum:bT cH.u64 (fun _=>True) w a val.num.length val.num
 rden:bT cH.u64 (fun _=>True) w b val.den.length val.den
 rargs:bT cH.int (dU w) w g args.length args
 nc:val.num.length<=c/\c<=maxLen
 dc:val.den.length<=d/\d<=maxLen
 ac:args.length<=e/\e<=maxLen
 nl:val.num.length<=1000000
 nml:nm.size<=1000000
 opk:eI op
 one:op=11->val.den.length<=1000000
section
variable {w w' : World} {nm : ByteArray} {val : cJ} {args : List Int} {op : Int} {a b g : Option Addr} {c d e : Nat} {B p : Nat} {T : aC}
theorem bT.datB {j:Type} {R:cH j} {n:Nat} {xs:List j} (h:bT R (dU w) w a n xs) (f:Below w.heap.size w w'):bT R (dU w') w' a n xs:=
 (h.keep (fun b l _=>f.block b l) f.size).mono fun b _ hd=>hd.same (f.block b hd.lt)
theorem oH.all (h:oH w nm val args op a b g c d e) (f:Below w.heap.size w w'):oH w' nm val args op a b g c d e:=
 ⟨h.rnum.below f aA,h.rden.below f aA,h.rargs.datB f,h.nc,h.dc,h.ac,h.nl,h.nml,h.opk,h.one⟩
theorem cZ.err (h:dG B p T w) (f:Below w.heap.size w w') {z:Int} (j:bQ T op nm val args=((0,z),T)):cZ B p T op nm val args w (.returned (.tuple #[.int .i64 0,.int .i64 z])) w':=
 ⟨by rw [j],by rw [j];exact h.all f,.of_below h.plt f⟩
theorem cZ.put (h:dG B p T w) (r:Below w.heap.size w w') {x:aZ} {j:World} {e:Ending} (f:bQ T op nm val args=eW T x) (s:zN B p T x w' e j):cZ B p T op nm val args w e j:=by
 obtain ⟨l,o,q⟩:=s;exact⟨by rw [f];exact l,by rw [f];exact o,(dA.of_below h.plt r).trans q⟩
theorem oH.node (h:oH w nm val args op a b g c d e) {s:Int} (f:eI s):eD (fun _=>True) w ⟨op,nm,val,args,s⟩ a c b d g e:=⟨h.rnum,h.nc,h.rden,h.dc,h.rargs.mono fun _ _ _=>trivial,h.ac,h.opk,f⟩
theorem oH.key (h:oH w nm val args op a b g c d e) {s:Int} (f:args.length<=64) (hd:val.den.length<=1000000):aFn ⟨op,nm,val,args,s⟩:=
 ⟨h.nml,h.nl,hd,aH f (by decide),fun _=>⟨h.rnum.us,h.rden.us⟩⟩
theorem tT (q:∀x∈T.nodes,eI x.sort) (o:∀f∈T.S.funs,eI f.res):eI (aD T op nm args).1:=by
 have h:eI 0:=by unfold eI;omega
 have l:eI 1:=by unfold eI;omega
 have hn:∀i,eI (nodeAt T i).sort:=fun i=>by
  unfold nodeAt;rw [iW];cases j:T.nodes[i.toNat]? with
  | none=>exact h
  | some x=>exact q x (fP j)
 unfold aD xM iA
 repeat' split
 all_goals first | exact h | exact l | exact hn _ | skip
 all_goals
  unfold fM;cases j:jA T.S nm with
  | none=>exact h
  | some f=>exact o f (mK j)
theorem dG.srts (h:dG B p T w):(∀x∈T.nodes,eI x.sort)/\∀f∈T.S.funs,eI f.res:=by
 obtain ⟨q,C,c1,D,c2,m,l⟩:=h.look;constructor
 ·intro x hx;obtain ⟨k,j,rfl⟩:=gU hx;have:=(l.sortCell j).choose_spec.choose_spec.2.2;have e:=cR j;rw [cK j] at e;injection e with e
  rw [e];exact this
 ·intro f r;obtain ⟨A,s⟩:=l.srt;obtain ⟨k,j,rfl⟩:=gU r;obtain ⟨_,_,_,_,_,_,_,_,z,_⟩:=s.look;have v:=z.read (S':=fun _=>True) (fun _ _ _=>trivial) (fun _ _=>trivial);obtain ⟨_,_,_,_,_,_,_,_,_,o,_⟩:=v.funAt (cK j);exact o
theorem aMj (h:(aD T 16 nm args).2=true):1<=args.length:=by
 have e:aD T 16 nm args=(1,bP T 16 args):=rfl;rw [e] at h;simp only at h;unfold bP jW at h;simp at h;omega
theorem oI (h:(aD T op nm args).2=true) (e:op=16):1<=args.length:=by subst e;exact aMj h
end
theorem aU2 (B p:Nat) (T:aC) (op:Int) (nm:ByteArray) (val:cJ) (args:List Int) (a b g:Option Addr) (c d e:Nat) (w:World) (h:dG B p T w) (j:SmT T) (f:lF w) (l:oH w nm val args op a b g c d e) (s:op<1) :
  Calls prog 33 #[.pointer (some ⟨p,0,none⟩),.int .i64 op,.string nm,fA val a c b d,.slice g args.length e] w fun e w'=>cZ B p T op nm val args w e w':=by
 have r:=@Z (bQ T op nm val args=((0,1),T)) (by unfold bQ;rw [if_pos (by unfold eN;simp;omega)]);have q:=Z h;clear h j f l;go_enter func33,ntmps33
 go_wp2;go_ret2;exact cZ.err q.o (cV w _ _) r.o
theorem aRx (B p:Nat) (T:aC) (op:Int) (nm:ByteArray) (val:cJ) (args:List Int) (a b g:Option Addr) (c d e:Nat) (w:World) (h:dG B p T w) (j:SmT T) (f:lF w) (l:oH w nm val args op a b g c d e) (s:1<=op) (z:20<op) :
  Calls prog 33 #[.pointer (some ⟨p,0,none⟩),.int .i64 op,.string nm,fA val a c b d,.slice g args.length e] w fun e w'=>cZ B p T op nm val args w e w':=by
 have r:=@Z (bQ T op nm val args=((0,1),T)) (by unfold bQ;rw [if_pos (by unfold eN;simp;omega)]);have v:decide (op<1)=false:=by simp;omega
 have q:=Z h;clear h j f l;go_enter func33,ntmps33
 go_wp2;go_ret2;exact cZ.err q.o (cV w _ _) r.o
theorem aRy (B p:Nat) (T:aC) (op:Int) (nm:ByteArray) (val:cJ) (args:List Int) (a b g:Option Addr) (c d e:Nat) (w:World) (h:dG B p T w) (j:SmT T) (f:lF w) (l:oH w nm val args op a b g c d e) (s:1<=op) (z:op<=20) (C:64<args.length) :
  Calls prog 33 #[.pointer (some ⟨p,0,none⟩),.int .i64 op,.string nm,fA val a c b d,.slice g args.length e] w fun e w'=>cZ B p T op nm val args w e w':=by
 have r:=@Z (bQ T op nm val args=((0,1),T)) (by unfold bQ;rw [if_pos (by unfold eN;simp;omega)]);have v:decide (op<1)=false:=by simp;omega
 have A:decide (20<op)=false:=by simp;omega
 have D:(64:Int)<args.length:=by omega
 have q:=Z h;clear h j f l;go_enter func33,ntmps33
 go_wp2;go_ret2;exact cZ.err q.o (cV w _ _) r.o
theorem aU3 (B p:Nat) (T:aC) (op:Int) (nm:ByteArray) (val:cJ) (args:List Int) (a b g:Option Addr) (c d e:Nat) (w:World) (h:dG B p T w) (aa:SmT T) (X:lF w) (hx:oH w nm val args op a b g c d e) (ar:op=12) (ax:args.length<=64) :
  Calls prog 33 #[.pointer (some ⟨p,0,none⟩),.int .i64 op,.string nm,fA val a c b d,.slice g args.length e] w fun e w'=>cZ B p T op nm val args w e w':=by
 have f:=Z h;have ab:=Z aa;have au:=Z X;have H:=Z hx;have O:=Z (aJg val a b c d ((w.alloc (.cells #[.pointer (some ⟨p,0,none⟩)] 26)).alloc (.cells #[.bool val.neg,.slice a val.num.length c,.slice b val.den.length d] 36)));subst ar;have ay:¬(64:Int)<args.length:=by omega
 have a4:decide ((64:Int)<args.length)=false:=by simpa using ay
 have N:=@Z (bQ T 12 nm val args=if fR 12 nm val then((0,1),T) else if args.any (fun i=>!dH T i) then((0,1),T) else if (aD T 12 nm args).2 then eW T ⟨12,nm,val,args,(aD T 12 nm args).1⟩ else((0,3),T)) (by unfold bQ;rw [if_neg (by unfold eN;simp;omega)]);cases j:mE val
 case false=>
  have C:=@Z (bQ T 12 nm val args=((0,1),T)) (by rw [N.o,if_pos (by unfold fR;rw [j];simp)]);rw [j] at O;clear j N h aa X hx;go_enter func33,ntmps33
  go_wp2_with fail
  refine O.o.mono ?_;rintro V an ⟨rfl,r⟩;have ao:=Z ((cV w (.cells #[.pointer (some ⟨p,0,none⟩)] 26) (.cells #[.bool val.neg,.slice a val.num.length c,.slice b val.den.length d] 36)).trans (r.mono (cV w (.cells #[.pointer (some ⟨p,0,none⟩)] 26) (.cells #[.bool val.neg,.slice a val.num.length c,.slice b val.den.length d] 36)).size));clear r;go_wp2;go_ret2;exact cZ.err f.o ao.o C.o
 case true=>
  have Y:=@Z (bQ T 12 nm val args=if args.any (fun i=>!dH T i) then((0,1),T) else if (aD T 12 nm args).2 then eW T ⟨12,nm,val,args,(aD T 12 nm args).1⟩ else((0,3),T)) (by rw [N.o,if_neg (by unfold fR;rw [j];simp)]);have av:=@Z (val.den.length<=1000000) (by unfold mE at j;simp at j;rw [j.2.2];simp);rw [j] at O;clear j N h aa X hx;go_enter func33,ntmps33
  go_wp2_with fail
  refine O.o.mono ?_;rintro V an ⟨rfl,r⟩;have l:=Z (Below.trans (cV w (.cells #[.pointer (some ⟨p,0,none⟩)] 26) (.cells #[.bool val.neg,.slice a val.num.length c,.slice b val.den.length d] 36)) (r.mono (cV w (.cells #[.pointer (some ⟨p,0,none⟩)] 26) (.cells #[.bool val.neg,.slice a val.num.length c,.slice b val.den.length d] 36)).size));have L:=Z ((r.block w.heap.size (by simp;omega)).trans (fI w (.cells #[.pointer (some ⟨p,0,none⟩)] 26) (.cells #[.bool val.neg,.slice a val.num.length c,.slice b val.den.length d] 36)));have Q:=Z ((r.block (w.heap.size+1) (by simp)).trans (eV w (.cells #[.pointer (some ⟨p,0,none⟩)] 26) (.cells #[.bool val.neg,.slice a val.num.length c,.slice b val.den.length d] 36)));clear r;have I:=Z (aDf (fun i=>!dH T i) g args.length e w.heap.size args an (H.o.rargs.toI.below l.o aA) (by omega) (fun K am y _=>aAu B p T y w.heap.size K ((f.o.all l.o).all am) (E (bD am L.o) 0)));cases A:args.any (fun i=>!dH T i)
  case true=>
   have C:=@Z (bQ T 12 nm val args=((0,1),T)) (by rw [Y.o,A];rfl);rw [A] at I;clear A
   go_wp2_with fail
   refine I.o.mono ?_;rintro W K ⟨rfl,v⟩;have G:=Z (l.o.trans (v.mono l.o.size));clear v;go_wp2;go_ret2;exact cZ.err f.o G.o C.o
  case false=>
   rw [A] at I;have ak:=Z (tO A);have aj:=@Z (bQ T 12 nm val args=if (aD T 12 nm args).2 then eW T ⟨12,nm,val,args,(aD T 12 nm args).1⟩ else((0,3),T)) (by rw [Y.o,A];rfl);clear A Y
   go_wp2_with fail
   refine I.o.mono ?_;rintro W K ⟨rfl,v⟩;have G:=Z (l.o.trans (v.mono l.o.size));have U:=Z ((v.block w.heap.size (bH L.o).1).trans L.o);have ad:=Z ((v.block (w.heap.size+1) (bH Q.o).1).trans Q.o);have y0:K.cell? ⟨w.heap.size,0,none⟩=some (.pointer (some ⟨p,0,none⟩)):=E U.o 0;have al:=Z (xO B p T 12 nm g args.length e args K ⟨f.o.all G.o,H.o.rargs.toI.below G.o aA,by omega,H.o.ac.1,ak.o,ab.o.s,ab.o.nn⟩ (by omega) (by omega));clear v L Q I l;have az:=Z (tT (nm:=nm) (args:=args) (op:=12) f.o.srts.1 f.o.srts.2);have aw:=@Z ((aD T 12 nm args).2=true->12=16->1<=args.length) (fun V W=>oI V W);generalize af:aD T 12 nm args=R at *;obtain ⟨J,a1⟩:=R;have ag:=Z af;clear af;dsimp only at *;cases a1
   case false=>
    have C:=@Z (bQ T 12 nm val args=((0,3),T)) (by rw [aj.o];rfl)
    go_wp2_with fail
    refine al.o.mono ?_;rintro aq D ⟨rfl,z⟩;rw [ag.o];have q:=Z (aG G z);clear z;go_wp2;go_ret2;exact cZ.err f.o q.o C.o
   case true=>
    have C:=@Z (bQ T 12 nm val args=eW T ⟨12,nm,val,args,J⟩) (by rw [aj.o];rfl)
    go_wp2_with fail
    refine al.o.mono ?_;rintro aq D ⟨rfl,z⟩;rw [ag.o];have q:=Z (aG G z);have ae:=(z.block w.heap.size (bH U.o).1).trans U.o;have M:=(z.block (w.heap.size+1) (bH ad.o).1).trans ad.o;have a5:D.cell? ⟨w.heap.size,0,none⟩=some (.pointer (some ⟨p,0,none⟩)):=E ae 0;have z1:D.cell? ⟨w.heap.size+1,0,none⟩=some (.bool val.neg):=E M 0;have z2:D.cell? ⟨w.heap.size+1,1,none⟩=some (.slice a val.num.length c):=E M 1;have z3:D.cell? ⟨w.heap.size+1,2,none⟩=some (.slice b val.den.length d):=E M 2;have a0:=Z (aC3 B p T ⟨12,nm,val,args,J⟩ a b g c d e D (f.o.all q.o) ((H.o.all q.o).node az.o) (H.o.all q.o).rargs (H.o.key ax av.o) ab.o ak.o (fun e=>aw.o (by first | trivial | rfl) e) (au.o.all q.o));clear z ae M
    go_wp2_with fail
    refine a0.o.mono ?_;rintro a3 a2 ⟨rfl,ai,ah⟩;have ap:=@Z (zN B p T ⟨12,nm,val,args,J⟩ D (.returned (.tuple #[.int .i64 (eW T ⟨12,nm,val,args,J⟩).1.1,.int .i64 (eW T ⟨12,nm,val,args,J⟩).1.2])) a2) ⟨rfl,ai,ah⟩;clear ai ah;go_wp2;go_ret2;exact cZ.put f.o q.o C.o ap.o
theorem aPr (B p:Nat) (T:aC) (op:Int) (nm:ByteArray) (val:cJ) (args:List Int) (a b g:Option Addr) (c d e:Nat) (w:World) (h:dG B p T w) (V:SmT T) (Q:lF w) (hx:oH w nm val args op a b g c d e) (a9:1<=op) (aF:op<=20) (ah:¬op=11) (aw:¬op=12) (a1:args.length<=64) :
  Calls prog 33 #[.pointer (some ⟨p,0,none⟩),.int .i64 op,.string nm,fA val a c b d,.slice g args.length e] w fun e w'=>cZ B p T op nm val args w e w':=by
 have f:=Z h;have ae:=Z V;have ax:=Z Q;have J:=Z hx;have W:=Z (aJg val a b c d ((w.alloc (.cells #[.pointer (some ⟨p,0,none⟩)] 26)).alloc (.cells #[.bool val.neg,.slice a val.num.length c,.slice b val.den.length d] 36)));have a2:¬(64:Int)<args.length:=by omega
 have aJ:decide ((64:Int)<args.length)=false:=by simpa using a2
 have I:=@Z (bQ T op nm val args=if fR op nm val then((0,1),T) else if args.any (fun i=>!dH T i) then((0,1),T) else if (aD T op nm args).2 then eW T ⟨op,nm,val,args,(aD T op nm args).1⟩ else((0,3),T)) (by unfold bQ;rw [if_neg (by unfold eN;simp;omega)]);have aB:decide (op<1)=false:=by simp;omega
 have aH:decide (20<op)=false:=by simp;omega
 have aE:¬op<1:=by omega
 have aI:¬20<op:=by omega
 by_cases U:nm.size=0
 case neg=>
  have j:=@Z (bQ T op nm val args=((0,1),T)) (by rw [I.o,if_pos (by unfold fR;simp [U,aw])]);have aK:nm.toList.isEmpty=false:=by
   rw [tJ];cases a0:nm.data.toList with
   | nil=>exact absurd (by rw [gO,a0];rfl) U
   | cons _ _=>rfl
  clear I h V Q hx;go_enter func33,ntmps33
  go_wp2;go_ret2;exact cZ.err f.o (cV w _ _) j.o
 have a3:nm=ByteArray.mk #[]:=by
  obtain ⟨l⟩:=nm;have:l = #[]:=aC7 U;rw [this]
 subst a3;clear U;cases q:mE val
 case false=>
  have j:=@Z (bQ T op (ByteArray.mk #[]) val args=((0,1),T)) (by rw [I.o,if_pos (by unfold fR;rw [q];simp [ah,show(ByteArray.mk #[]).size=0 from rfl])]);rw [q] at W;clear q I h V Q hx;go_enter func33,ntmps33
  go_wp2_with fail
  refine W.o.mono ?_;rintro aa aq ⟨rfl,z⟩;have ar:=Z ((cV w (.cells #[.pointer (some ⟨p,0,none⟩)] 26) (.cells #[.bool val.neg,.slice a val.num.length c,.slice b val.den.length d] 36)).trans (z.mono (cV w (.cells #[.pointer (some ⟨p,0,none⟩)] 26) (.cells #[.bool val.neg,.slice a val.num.length c,.slice b val.den.length d] 36)).size));clear z;go_wp2;go_ret2;exact cZ.err f.o ar.o j.o
 case true=>
  have ad:=@Z (bQ T op (ByteArray.mk #[]) val args=if args.any (fun i=>!dH T i) then((0,1),T) else if (aD T op (ByteArray.mk #[]) args).2 then eW T ⟨op,(ByteArray.mk #[]),val,args,(aD T op (ByteArray.mk #[]) args).1⟩ else((0,3),T)) (by rw [I.o,if_neg (by unfold fR;rw [q];simp [ah,show(ByteArray.mk #[]).size=0 from rfl])]);have ay:=@Z (val.den.length<=1000000) (by unfold mE at q;simp at q;rw [q.2.2];simp);rw [q] at W;clear q I h V Q hx;go_enter func33,ntmps33
  go_wp2_with fail
  refine W.o.mono ?_;rintro aa aq ⟨rfl,z⟩;have r:=Z (Below.trans (cV w (.cells #[.pointer (some ⟨p,0,none⟩)] 26) (.cells #[.bool val.neg,.slice a val.num.length c,.slice b val.den.length d] 36)) (z.mono (cV w (.cells #[.pointer (some ⟨p,0,none⟩)] 26) (.cells #[.bool val.neg,.slice a val.num.length c,.slice b val.den.length d] 36)).size));have N:=Z ((z.block w.heap.size (by simp;omega)).trans (fI w (.cells #[.pointer (some ⟨p,0,none⟩)] 26) (.cells #[.bool val.neg,.slice a val.num.length c,.slice b val.den.length d] 36)));have X:=Z ((z.block (w.heap.size+1) (by simp)).trans (eV w (.cells #[.pointer (some ⟨p,0,none⟩)] 26) (.cells #[.bool val.neg,.slice a val.num.length c,.slice b val.den.length d] 36)));clear z;have K:=Z (aDf (fun i=>!dH T i) g args.length e w.heap.size args aq (J.o.rargs.toI.below r.o aA) (by omega) (fun M ap y _=>aAu B p T y w.heap.size M ((f.o.all r.o).all ap) (E (bD ap N.o) 0)));cases D:args.any (fun i=>!dH T i)
  case true=>
   have j:=@Z (bQ T op (ByteArray.mk #[]) val args=((0,1),T)) (by rw [ad.o,D];rfl);rw [D] at K;clear D
   go_wp2_with fail
   refine K.o.mono ?_;rintro ab M ⟨rfl,A⟩;have H:=Z (r.o.trans (A.mono r.o.size));clear A;go_wp2;go_ret2;exact cZ.err f.o H.o j.o
  case false=>
   rw [D] at K;have an:=Z (tO D);have am:=@Z (bQ T op (ByteArray.mk #[]) val args=if (aD T op (ByteArray.mk #[]) args).2 then eW T ⟨op,(ByteArray.mk #[]),val,args,(aD T op (ByteArray.mk #[]) args).1⟩ else((0,3),T)) (by rw [ad.o,D];rfl);clear D ad
   go_wp2_with fail
   refine K.o.mono ?_;rintro ab M ⟨rfl,A⟩;have H:=Z (r.o.trans (A.mono r.o.size));have Y:=Z ((A.block w.heap.size (bH N.o).1).trans N.o);have af:=Z ((A.block (w.heap.size+1) (bH X.o).1).trans X.o);have y0:M.cell? ⟨w.heap.size,0,none⟩=some (.pointer (some ⟨p,0,none⟩)):=E Y.o 0;have ao:=Z (xO B p T op (ByteArray.mk #[]) g args.length e args M ⟨f.o.all H.o,J.o.rargs.toI.below H.o aA,by omega,J.o.ac.1,an.o,ae.o.s,ae.o.nn⟩ (by omega) (by omega));clear A N X K r;have a4:=Z (tT (nm:=(ByteArray.mk #[])) (args:=args) (op:=op) f.o.srts.1 f.o.srts.2);have az:=@Z ((aD T op (ByteArray.mk #[]) args).2=true->op=16->1<=args.length) (fun aa ab=>oI aa ab);generalize ai:aD T op (ByteArray.mk #[]) args=R at *;obtain ⟨L,a6⟩:=R;have aj:=Z ai;clear ai;dsimp only at *;cases a6
   case false=>
    have j:=@Z (bQ T op (ByteArray.mk #[]) val args=((0,3),T)) (by rw [am.o];rfl)
    go_wp2_with fail
    refine ao.o.mono ?_;rintro av G ⟨rfl,C⟩;rw [aj.o];have v:=Z (aG H C);clear C;go_wp2;go_ret2;exact cZ.err f.o v.o j.o
   case true=>
    have j:=@Z (bQ T op (ByteArray.mk #[]) val args=eW T ⟨op,(ByteArray.mk #[]),val,args,L⟩) (by rw [am.o];rfl)
    go_wp2_with fail
    refine ao.o.mono ?_;rintro av G ⟨rfl,C⟩;rw [aj.o];have v:=Z (aG H C);have ag:=(C.block w.heap.size (bH Y.o).1).trans Y.o;have O:=(C.block (w.heap.size+1) (bH af.o).1).trans af.o;have aL:G.cell? ⟨w.heap.size,0,none⟩=some (.pointer (some ⟨p,0,none⟩)):=E ag 0;have z1:G.cell? ⟨w.heap.size+1,0,none⟩=some (.bool val.neg):=E O 0;have z2:G.cell? ⟨w.heap.size+1,1,none⟩=some (.slice a val.num.length c):=E O 1;have z3:G.cell? ⟨w.heap.size+1,2,none⟩=some (.slice b val.den.length d):=E O 2;have a5:=Z (aC3 B p T ⟨op,(ByteArray.mk #[]),val,args,L⟩ a b g c d e G (f.o.all v.o) ((J.o.all v.o).node a4.o) (J.o.all v.o).rargs (J.o.key a1 ay.o) ae.o an.o (fun e=>az.o (by first | trivial | rfl) e) (ax.o.all v.o));clear C ag O
    go_wp2_with fail
    refine a5.o.mono ?_;rintro a8 a7 ⟨rfl,al,ak⟩;have au:=@Z (zN B p T ⟨op,(ByteArray.mk #[]),val,args,L⟩ G (.returned (.tuple #[.int .i64 (eW T ⟨op,(ByteArray.mk #[]),val,args,L⟩).1.1,.int .i64 (eW T ⟨op,(ByteArray.mk #[]),val,args,L⟩).1.2])) a7) ⟨rfl,al,ak⟩;clear al ak;go_wp2;go_ret2;exact cZ.put f.o v.o j.o au.o
theorem aU4 (B p:Nat) (T:aC) (op:Int) (nm:ByteArray) (val:cJ) (args:List Int) (a b g:Option Addr) (c d e:Nat) (w:World) (h:dG B p T w) (V:SmT T) (Q:lF w) (hx:oH w nm val args op a b g c d e) (av:op=11) (a0:args.length<=64) :
  Calls prog 33 #[.pointer (some ⟨p,0,none⟩),.int .i64 op,.string nm,fA val a c b d,.slice g args.length e] w fun e w'=>cZ B p T op nm val args w e w':=by
 have f:=Z h;have ae:=Z V;have aw:=Z Q;have I:=Z hx;subst av;have ax:=@Z (val.den.length<=1000000) (hx.one rfl);have W:=Z (fX val a b c d ((w.alloc (.cells #[.pointer (some ⟨p,0,none⟩)] 26)).alloc (.cells #[.bool val.neg,.slice a val.num.length c,.slice b val.den.length d] 36)) (hx.rnum.below (cV w (.cells #[.pointer (some ⟨p,0,none⟩)] 26) (.cells #[.bool val.neg,.slice a val.num.length c,.slice b val.den.length d] 36)) aA) (hx.rden.below (cV w (.cells #[.pointer (some ⟨p,0,none⟩)] 26) (.cells #[.bool val.neg,.slice a val.num.length c,.slice b val.den.length d] 36)) aA) hx.nl (hx.one rfl) hx.nc hx.dc);have a1:¬(64:Int)<args.length:=by omega
 have a8:decide ((64:Int)<args.length)=false:=by simpa using a1
 have H:=@Z (bQ T 11 nm val args=if fR 11 nm val then((0,1),T) else if args.any (fun i=>!dH T i) then((0,1),T) else if (aD T 11 nm args).2 then eW T ⟨11,nm,val,args,(aD T 11 nm args).1⟩ else((0,3),T)) (by unfold bQ;rw [if_neg (by unfold eN;simp;omega)]);by_cases U:nm.size=0
 case neg=>
  have j:=@Z (bQ T 11 nm val args=((0,1),T)) (by rw [H.o,if_pos (by unfold fR;simp [U])]);have a9:nm.toList.isEmpty=false:=by
   rw [tJ];cases az:nm.data.toList with
   | nil=>exact absurd (by rw [gO,az];rfl) U
   | cons _ _=>rfl
  clear H h V Q hx;go_enter func33,ntmps33
  go_wp2;go_ret2;exact cZ.err f.o (cV w _ _) j.o
 have a2:nm=ByteArray.mk #[]:=by
  obtain ⟨l⟩:=nm;have:l = #[]:=aC7 U;rw [this]
 subst a2;clear U;cases J:iR val
 case false=>
  have j:=@Z (bQ T 11 (ByteArray.mk #[]) val args=((0,1),T)) (by rw [H.o,if_pos (by unfold fR;rw [J];simp [show(ByteArray.mk #[]).size=0 from rfl])]);rw [J] at W;clear J H h V Q hx;go_enter func33,ntmps33
  go_wp2_with fail
  refine W.o.mono ?_;rintro aa ap ⟨rfl,v⟩;have aq:=Z ((cV w (.cells #[.pointer (some ⟨p,0,none⟩)] 26) (.cells #[.bool val.neg,.slice a val.num.length c,.slice b val.den.length d] 36)).trans (v.mono (cV w (.cells #[.pointer (some ⟨p,0,none⟩)] 26) (.cells #[.bool val.neg,.slice a val.num.length c,.slice b val.den.length d] 36)).size));clear v;go_wp2;go_ret2;exact cZ.err f.o aq.o j.o
 case true=>
  have ad:=@Z (bQ T 11 (ByteArray.mk #[]) val args=if args.any (fun i=>!dH T i) then((0,1),T) else if (aD T 11 (ByteArray.mk #[]) args).2 then eW T ⟨11,(ByteArray.mk #[]),val,args,(aD T 11 (ByteArray.mk #[]) args).1⟩ else((0,3),T)) (by rw [H.o,if_neg (by unfold fR;rw [J];simp [show(ByteArray.mk #[]).size=0 from rfl])]);rw [J] at W;clear J H h V Q hx;go_enter func33,ntmps33
  go_wp2_with fail
  refine W.o.mono ?_;rintro aa ap ⟨rfl,v⟩;have q:=Z (Below.trans (cV w (.cells #[.pointer (some ⟨p,0,none⟩)] 26) (.cells #[.bool val.neg,.slice a val.num.length c,.slice b val.den.length d] 36)) (v.mono (cV w (.cells #[.pointer (some ⟨p,0,none⟩)] 26) (.cells #[.bool val.neg,.slice a val.num.length c,.slice b val.den.length d] 36)).size));have N:=Z ((v.block w.heap.size (by simp;omega)).trans (fI w (.cells #[.pointer (some ⟨p,0,none⟩)] 26) (.cells #[.bool val.neg,.slice a val.num.length c,.slice b val.den.length d] 36)));have X:=Z ((v.block (w.heap.size+1) (by simp)).trans (eV w (.cells #[.pointer (some ⟨p,0,none⟩)] 26) (.cells #[.bool val.neg,.slice a val.num.length c,.slice b val.den.length d] 36)));clear v;have K:=Z (aDf (fun i=>!dH T i) g args.length e w.heap.size args ap (I.o.rargs.toI.below q.o aA) (by omega) (fun M ao y _=>aAu B p T y w.heap.size M ((f.o.all q.o).all ao) (E (bD ao N.o) 0)));cases C:args.any (fun i=>!dH T i)
  case true=>
   have j:=@Z (bQ T 11 (ByteArray.mk #[]) val args=((0,1),T)) (by rw [ad.o,C];rfl);rw [C] at K;clear C
   go_wp2_with fail
   refine K.o.mono ?_;rintro ab M ⟨rfl,z⟩;have G:=Z (q.o.trans (z.mono q.o.size));clear z;go_wp2;go_ret2;exact cZ.err f.o G.o j.o
  case false=>
   rw [C] at K;have am:=Z (tO C);have al:=@Z (bQ T 11 (ByteArray.mk #[]) val args=if (aD T 11 (ByteArray.mk #[]) args).2 then eW T ⟨11,(ByteArray.mk #[]),val,args,(aD T 11 (ByteArray.mk #[]) args).1⟩ else((0,3),T)) (by rw [ad.o,C];rfl);clear C ad
   go_wp2_with fail
   refine K.o.mono ?_;rintro ab M ⟨rfl,z⟩;have G:=Z (q.o.trans (z.mono q.o.size));have Y:=Z ((z.block w.heap.size (bH N.o).1).trans N.o);have af:=Z ((z.block (w.heap.size+1) (bH X.o).1).trans X.o);have y0:M.cell? ⟨w.heap.size,0,none⟩=some (.pointer (some ⟨p,0,none⟩)):=E Y.o 0;have an:=Z (xO B p T 11 (ByteArray.mk #[]) g args.length e args M ⟨f.o.all G.o,I.o.rargs.toI.below G.o aA,by omega,I.o.ac.1,am.o,ae.o.s,ae.o.nn⟩ (by omega) (by omega));clear z N X K q;have a3:=Z (tT (nm:=(ByteArray.mk #[])) (args:=args) (op:=11) f.o.srts.1 f.o.srts.2);have ay:=@Z ((aD T 11 (ByteArray.mk #[]) args).2=true->11=16->1<=args.length) (fun aa ab=>oI aa ab);generalize ah:aD T 11 (ByteArray.mk #[]) args=R at *;obtain ⟨L,a5⟩:=R;have ai:=Z ah;clear ah;dsimp only at *;cases a5
   case false=>
    have j:=@Z (bQ T 11 (ByteArray.mk #[]) val args=((0,3),T)) (by rw [al.o];rfl)
    go_wp2_with fail
    refine an.o.mono ?_;rintro au D ⟨rfl,A⟩;rw [ai.o];have r:=Z (aG G A);clear A;go_wp2;go_ret2;exact cZ.err f.o r.o j.o
   case true=>
    have j:=@Z (bQ T 11 (ByteArray.mk #[]) val args=eW T ⟨11,(ByteArray.mk #[]),val,args,L⟩) (by rw [al.o];rfl)
    go_wp2_with fail
    refine an.o.mono ?_;rintro au D ⟨rfl,A⟩;rw [ai.o];have r:=Z (aG G A);have ag:=(A.block w.heap.size (bH Y.o).1).trans Y.o;have O:=(A.block (w.heap.size+1) (bH af.o).1).trans af.o;have aB:D.cell? ⟨w.heap.size,0,none⟩=some (.pointer (some ⟨p,0,none⟩)):=E ag 0;have z1:D.cell? ⟨w.heap.size+1,0,none⟩=some (.bool val.neg):=E O 0;have z2:D.cell? ⟨w.heap.size+1,1,none⟩=some (.slice a val.num.length c):=E O 1;have z3:D.cell? ⟨w.heap.size+1,2,none⟩=some (.slice b val.den.length d):=E O 2;have a4:=Z (aC3 B p T ⟨11,(ByteArray.mk #[]),val,args,L⟩ a b g c d e D (f.o.all r.o) ((I.o.all r.o).node a3.o) (I.o.all r.o).rargs (I.o.key a0 ax.o) ae.o am.o (fun e=>ay.o (by first | trivial | rfl) e) (aw.o.all r.o));clear A ag O
    go_wp2_with fail
    refine a4.o.mono ?_;rintro a7 a6 ⟨rfl,ak,aj⟩;have ar:=@Z (zN B p T ⟨11,(ByteArray.mk #[]),val,args,L⟩ D (.returned (.tuple #[.int .i64 (eW T ⟨11,(ByteArray.mk #[]),val,args,L⟩).1.1,.int .i64 (eW T ⟨11,(ByteArray.mk #[]),val,args,L⟩).1.2])) a6) ⟨rfl,ak,aj⟩;clear ak aj;go_wp2;go_ret2;exact cZ.put f.o r.o j.o ar.o
theorem sH (B p:Nat) (T:aC) (op:Int) (nm:ByteArray) (val:cJ) (args:List Int) (a b g:Option Addr) (c d e:Nat) (w:World) (h:dG B p T w) (j:SmT T) (f:lF w) (hx:oH w nm val args op a b g c d e) :
  Calls prog 33 #[.pointer (some ⟨p,0,none⟩),.int .i64 op,.string nm,fA val a c b d,.slice g args.length e] w fun e w'=>cZ B p T op nm val args w e w':=by
 by_cases q:op<1
 ·exact aU2 B p T op nm val args a b g c d e w h j f hx q
 by_cases r:20<op
 ·exact aRx B p T op nm val args a b g c d e w h j f hx (by omega) r
 by_cases s:64<args.length
 ·exact aRy B p T op nm val args a b g c d e w h j f hx (by omega) (by omega) s
 by_cases l:op=11
 ·exact aU4 B p T op nm val args a b g c d e w h j f hx l (by omega)
 by_cases o:op=12
 ·exact aU3 B p T op nm val args a b g c d e w h j f hx o (by omega)
 exact aPr B p T op nm val args a b g c d e w h j f hx (by omega) (by omega) l o (by omega)
def nG (T:aC) (i:Int):Int × Bool:=if dH T i then((nodeAt T i).sort,true) else(0,false)
theorem aFw (B p:Nat) (T:aC) (i:Int) (w:World) (h:dG B p T w):Calls prog 77 #[.pointer (some ⟨p,0,none⟩),.int .i64 i] w fun e w'=>e = .returned (.tuple #[.int .i64 (nG T i).1,.bool (nG T i).2])/\w=w':=by
 have l:=Z (aC2 B p T i w h);have hd:=@Z (nG T i=if dH T i then((nodeAt T i).sort,true) else(0,false)) rfl;obtain ⟨q,v,c1,A,c2,m,j⟩:=h.look;have D:w.cell? ⟨p,1,none⟩=some (.slice v T.nodes.length c1):=E j.blk 1;cases f:dH T i
 case false=>
  have r:=@Z (nG T i=(0,false)) (by rw [hd.o,f];rfl);rw [f] at l;clear h j f hd;go_enter func77,ntmps77
  go_wp2_with fail
  refine l.o.mono ?_;rintro e w' ⟨rfl,rfl⟩;go_wp2;go_ret2;exact⟨by rw [r.o];rfl,rfl⟩
 case true=>
  obtain ⟨s,C⟩:=cX.1 f;obtain ⟨k,rfl⟩:=fK s;obtain ⟨b,o,rfl,G,_⟩:=j.sortCell (k:=k) (by omega);have r:=@Z (nG T (k:Int)=((nodeAt T k).sort,true)) (by rw [hd.o,f];rfl);rw [f] at l;clear h j f hd s;generalize (nodeAt T k).sort=z at *;go_enter func77,ntmps77
  go_wp2_with fail
  refine l.o.mono ?_;rintro e w' ⟨rfl,rfl⟩;go_wp2;go_ret2;exact⟨by rw [r.o];rfl,rfl⟩
def aRz (x:aZ) (ok:Bool) (w:World) (e:Ending) (w':World):Prop:=
 ∃a c b d g h,e = .returned (.tuple #[lI x a c b d g h,.bool ok])/\eD (fH w.heap.size w') w' x a c b d g h/\Below w.heap.size w w'
def SmN (T:aC):Prop:=∀x∈T.nodes,x.val.num.length<17592186044416/\x.val.den.length<17592186044416/\x.args.length<17592186044416
theorem zY (B p:Nat) (T:aC) (k:Nat) (w:World) (h:dG B p T w) (r:k<T.nodes.length) (ab:SmN T):Calls prog 20 #[.pointer (some ⟨p,0,none⟩),.int .i64 k] w fun e w'=>aRz (nodeAt T k) true w e w':=by
 have L:Below w.heap.size w (w.alloc (.cells #[.int .i64 0,.string ByteArray.empty,.bool false,.slice none 0 0,.slice none 0 0,.slice none 0 0,.int .i64 0] 38)):=bJ;have V:=Z L;have Y:dH T (k:Int)=true:=cX.2 ⟨by omega,by omega⟩;have X:=Z (aC2 B p T k _ (h.all L));rw [Y] at X;obtain ⟨q,ak,c1,au,c2,m,R⟩:=(h.all L).look;have a3:(w.alloc (.cells #[.int .i64 0,.string ByteArray.empty,.bool false,.slice none 0 0,.slice none 0 0,.slice none 0 0,.int .i64 0] 38)).cell? ⟨p,1,none⟩=some (.slice ak T.nodes.length c1):=E R.blk 1;obtain ⟨b,o,aj,am,al,d,g,e,rfl,hn,j⟩:=(R.nodes.read (S':=fun _=>True) (fun _ _ _=>trivial) (fun _ _=>trivial)).nodeAt (cR r);have M:=ab (nodeAt T k) (fP (cR r));have aq:=Z (aOe (nodeAt T k) aj al g am d e _ hn M.1 M.2.1 M.2.2);have ap:=Z (cC w (.cells #[.int .i64 0,.string ByteArray.empty,.bool false,.slice none 0 0,.slice none 0 0,.slice none 0 0,.int .i64 0] 38));have ar:=j 0 _ rfl;rw [cU] at ar;have a4:=j 1 _ rfl;have a5:=j 2 _ rfl;have a6:=j 3 _ rfl;have a7:=j 4 _ rfl;have a8:=j 5 _ rfl;have a9:=j 6 _ rfl;have a2:(k:Int)<T.nodes.length:=by omega
 clear R hn j M Y h ab L;generalize nodeAt T k=x at *;obtain ⟨op,nm,⟨H,I,G⟩,args,J⟩:=x;dsimp only at *;go_enter func20,ntmps20
 go_wp2_with fail
 refine X.o.mono ?_;rintro an w' ⟨rfl,rfl⟩
 go_wp2_with fail
 refine aq.o.mono ?_;rintro an ad ⟨s,c3,z,A,D,C,rfl,aa,U⟩;have K:=(U.block w.heap.size (by simp)).trans ap.o;obtain ⟨aB,aD,aE,aF,aG,aH,aI⟩:=pT K;obtain ⟨av,aw,ax,ay,az,a0,a1⟩:=aWj K;have af:=Z (show eD (fH w.heap.size ad) ad ⟨op,nm,⟨H,I,G⟩,args,J⟩ s c3 z A D C from aa.mono fun _ _ r=>⟨r.1,by have:=r.2;simp at this;omega⟩);have ae:=Z (V.o.trans (U.mono V.o.size));have ag:=Z K;clear aa U K;go_wp2;refine bodyPost_ret (v:=.tuple #[lI ⟨op,nm,⟨H,I,G⟩,args,J⟩ s c3 z A D C,.bool true]) (by simp [results,results20,go_sem, *]) rfl ?_;have ao:∀(l:List (Nat × Value)) (W:World) (cs:Array Value),Below w.heap.size w W->W.heap[w.heap.size]? = some (.cells cs 38 (0,0))->eD (fH w.heap.size W) W ⟨op,nm,⟨H,I,G⟩,args,J⟩ s c3 z A D C ->
   Below w.heap.size w (l.foldl (fun W f=>W.setCell ⟨w.heap.size,f.1,none⟩ f.2) W)/\eD (fH w.heap.size (l.foldl (fun W f=>W.setCell ⟨w.heap.size,f.1,none⟩ f.2) W)) (l.foldl (fun W f=>W.setCell ⟨w.heap.size,f.1,none⟩ f.2) W) ⟨op,nm,⟨H,I,G⟩,args,J⟩ s c3 z A D C:=by
  intro l
  induction l with
  | nil=>exact fun W cs N O Q=>⟨N,Q⟩
  |
   cons f l ih=>
   intro W cs N O Q;refine ih _ (cs.setIfInBounds f.1 f.2) (N.setCell aA _) ?_ (Q.move (fun k r=>dZ _ _ _ _ (fun e=>?_)) (cD eX.symm))
   ·unfold World.setCell;rw [iN,if_pos rfl,O];rfl
   ·subst e;exact dU.ne r (by decide) (by decide) ⟨_,_,O⟩
 obtain ⟨ah,ai⟩:=ao [(0,.int .i64 op),(1,.string nm),(2,.bool H),(3,.slice s I.length c3),(4,.slice z G.length A),(5,.slice D args.length C),(6,.int .i64 J)] _ _ ae.o ag.o af.o;exact⟨s,c3,z,A,D,C,rfl,ai,ah⟩
def jO (S:gE):aC:=⟨[],[],fun _=>none,0,0,S,fun _=>False⟩
theorem aOp (f q:Nat) (S:gE) (w:World) (h:TabIs f q S w):Calls prog 66 #[.pointer (some ⟨q,0,none⟩)] w fun e w'=>e = .returned (.pointer (some ⟨w.heap.size+1,0,none⟩))/\dG w.heap.size (w.heap.size+1) (jO S) w'/\Below w.heap.size w w':=by
 have r:=@run_makeMap prog;have l:=Z h;clear h;go_enter func66,ntmps66
 go_wp2;go_ret;have j:Below w.heap.size w ((w.alloc (.map #[] 0)).alloc (.cells #[.pointer (some ⟨q,0,none⟩),.slice none 0 0,.slice none 0 0,.map (some w.heap.size),.int .i64 0,.int .i64 16384] 130)):=cV w _ _;refine⟨rfl,⟨q,.slice none 0 0,.slice none 0 0,w.heap.size,tL _,eV w _ _,cA.nil _ _ _ _ _,cA.nil _ _ _ _ _,?_,aA,⟨f,l.o.all j⟩,fun _ h=>h.elim⟩,j⟩;have:=(qQ.made (P:=prog) (k:=9) w).same (w':=(w.alloc (.map #[] 0)).alloc (.cells #[.pointer (some ⟨q,0,none⟩),.slice none 0 0,.slice none 0 0,.map (some w.heap.size),.int .i64 0,.int .i64 16384] 130)) (fB _ _ _ (by simp));exact this
def aFx (B p:Nat) (T:aC) (s:Int) (w:World) (e:Ending) (w':World):Prop:=
 e = .returned (.tuple #[.int .i64 (dC T s).1.1,.int .i64 (dC T s).1.2])/\dG B p (dC T s).2 w'/\dA p w w'
theorem aMk {w:World} (T:aC) {s:Int} (f:eI s):eD (dU w) w (cY T s) none 0 none 0 none 0:=
 ⟨bT.nil _ _ _ _,⟨aA,aN⟩,bT.nil _ _ _ _,⟨aA,aN⟩,bT.nil _ _ _ _,⟨aA,aN⟩,by unfold eI cY;dsimp only;omega,f⟩
theorem aPs (T:aC) (s:Int) (h:0<=T.fresh/\T.fresh<=1099511627776):aFn (cY T s):=
 ⟨by show(iS T.fresh).size<=_;rw [gO];unfold iS;simp only [fQ];have:=nD (n:=T.fresh) (by unfold eI;omega);omega,aN,aN,aN,fun e=>by cases e⟩
theorem aPt (B p:Nat) (T:aC) (s:Int) (w:World) (h:dG B p T w) (l:SmT T) (r:lF w) (aj:eI s):Calls prog 74 #[.pointer (some ⟨p,0,none⟩),.int .i64 s] w fun e w'=>aFx B p T s w e w':=by
 have J:=Z h;have au:=Z r;have aw:=Z l;obtain ⟨q,am,c1,an,c2,m,v⟩:=h.look;obtain ⟨ab,H⟩:=v.srt;have A:=Z (aHb ab q T.S s w H l.s.s);have ay:w.cell? ⟨p,0,none⟩=some (.pointer (some ⟨q,0,none⟩)):=E v.blk 0;have az:w.cell? ⟨p,4,none⟩=some (.int .i64 T.fresh):=E v.blk 4;have af:=l.fr;have O:eI T.fresh:=by unfold eI;omega
 have ah:=Z (aDj T.fresh O w r);have hd:=@Z (dC T s=if xK T.S.sorts.length s then(if (eW T (cY T s)).1.2=0 then((eW T (cY T s)).1,{ (eW T (cY T s)).2 with fresh:=T.fresh+1 }) else eW T (cY T s)) else((0,1),T)) rfl;cases j:xK T.S.sorts.length s
 case false=>
  have f:=@Z (dC T s=((0,1),T)) (by rw [hd.o,j];rfl);rw [j] at A;clear h r l v H j hd;go_enter func74,ntmps74
  go_wp2_with fail
  refine A.o.mono ?_;rintro e w' ⟨rfl,rfl⟩;go_wp2;go_ret2;exact⟨by rw [f.o];rfl,by rw [f.o];exact J.o,dA.refl _ _⟩
 case true=>
  rw [j] at A;have M:=@Z (dC T s=if (eW T (cY T s)).1.2=0 then((eW T (cY T s)).1,{ (eW T (cY T s)).2 with fresh:=T.fresh+1 }) else eW T (cY T s)) (by rw [hd.o,j];rfl);have al:(iK T.fresh).size<=21:=by rw [gO];exact nD O
  have ax:¬9223372036854775807<1+(iK T.fresh).size:=by omega
  have Q:ByteArray.mk #[124]++iK T.fresh=iS T.fresh:=by unfold iS iK;apply ByteArray.ext;simp
  have U:=Z (fun(C:World) (V:Below w.heap.size w C)=>aC3 B p T (cY T s) none none none 0 0 0 C (h.all V) (aMk T aj) (bT.nil _ _ _ _) (aPs T s af) l (fun x hx=>by cases hx) (fun e=>by cases e) (r.all V));have ai:=Z Q;clear h r l v H j hd Q al;go_enter func74,ntmps74
  go_wp2_with fail
  refine A.o.mono ?_;rintro e w' ⟨rfl,rfl⟩
  go_wp2_with fail
  refine ah.o.mono ?_;rintro e C ⟨rfl,G⟩;have aa:=Z G;have R:=Z (U.o C G);clear G U
  go_wp2_with fail
  rw [ai.o];refine R.o.mono ?_;rintro e W ⟨rfl,D,L⟩;have ae:=Z D;have I:=Z ((dA.of_below J.o.plt aa.o).trans L);have ag:=@Z ((eW T (cY T s)).2.fresh=T.fresh) (by unfold eW;split <;> (try split) <;> rfl);obtain ⟨ak,ao,ap,b2,aq,m2,z⟩:=D.look;have z4:W.cell? ⟨p,4,none⟩=some (.int .i64 (eW T (cY T s)).2.fresh):=E z.blk 4;have ar:W.frozen? ⟨p,4,none⟩=false:=aQ z.blk 4;have X:=Z z;rw [ag.o] at z4;clear D L R z;generalize K:eW T (cY T s)=P at *;have av:=Z K;clear K;obtain ⟨⟨i,er⟩,T'⟩:=P;dsimp only at *;by_cases N:er=0
  ·subst N;have f:=@Z (dC T s=((i,0),{ T' with fresh:=T.fresh+1 })) (by rw [M.o];rfl);go_wp2;go_ret2;obtain ⟨Y,ad⟩:=X.o.setFresh (T.fresh+1);exact⟨by rw [f.o];rfl,by rw [f.o];exact⟨ak,_,_,m2,Y⟩,I.o.trans ad⟩
  ·have f:=@Z (dC T s=((i,er),T')) (by rw [M.o,if_neg N]);go_wp2;go_ret2;exact⟨by rw [f.o];rfl,by rw [f.o];exact ae.o,I.o⟩
end Go.Proofs.YtgoojkiccdjplaaGreatDoor
namespace Go.Proofs.YtgoojkiccdjplaaGreatDoor
open Go.RowKit Go.Maps Go.Proofs.Tryz
def aHx (v:Value):Option (DataW Value × List MemPlace):=some (.held v,[])
def aE7 (x:Int):Lit:=.int .i64 x
def okJ (x:Int):Prop:=-9223372036854775808<=x/\x<=9223372036854775807
theorem aR0 {x:Int} (h:okJ x):(Lit.int .i64 x).wf=true:=WalkArith.wf_i64 (by unfold okJ at h;omega)
theorem aJp (x:Int):WideAt.IsKeyLit (aE7 x):=by simp [aE7,WideAt.IsKeyLit]
theorem aOq {x y:Int} (h:x≠y):aE7 x≠aE7 y:=by intro e;cases e;exact h rfl
def nT (P:Program) (k:TypeId) (b n:Nat) (F:Int->Option Value) (w:World):Prop:=
 ∃D:DataW Value,w.ownsMap P k aHx b n D/\Maps.size D=n/\∀x,Maps.has D (aE7 x)=(F x).isSome/\∀z,D.atKey (aE7 x) (.held z) = .held ((F x).getD z)
def upd (F:Int->Option Value) (x:Int) (v:Option Value):Int->Option Value:=fun y=>if y=x then v else F y
theorem upd_same (F:Int->Option Value) (x:Int) (v:Option Value):upd F x v x=v:=by simp [upd]
theorem aFy (F:Int->Option Value) {x y:Int} (v:Option Value) (h:y≠x):upd F x v y=F y:=by simp [upd,h]
variable {P : Program} {k t e : TypeId} {b n : Nat} {F : Int -> Option Value} {w w' : World}
theorem nT.lt (h:nT P k b n F w):b<w.heap.size:=by obtain ⟨f,h,_⟩:=h;exact h.lt
theorem nT.made (w:World):nT P k w.heap.size 0 (fun _=>none) (w.alloc (.map #[] 0)):=
 ⟨.map [],World.ownsMap_made w P k aHx,rfl,fun _=>⟨rfl,fun _=>rfl⟩⟩
theorem nT.same (h:nT P k b n F w) (q:w'.heap[b]? = w.heap[b]?):nT P k b n F w':=by
 obtain ⟨f,⟨l,j,s,r⟩,o⟩:=h;exact⟨f,⟨l,j,q.trans s,r⟩,o⟩
theorem nT.setCell (h:nT P k b n F w) {a:Addr} (o:b≠a.block) (u:Value):nT P k b n F (w.setCell a u):=by
 obtain ⟨f,j,l⟩:=h;exact⟨f,j.setCell o u,l⟩
theorem nT.look (h:nT P k b n F w) (l:P.underlying k=some (.int .i64)) (s:P.underlying t=some (.map k e)) {z:Value} (A:(zeroValue e).run P w = .ok z w) {x:Int} (hx:okJ x) :
  (Instr.lookup t (.map (some b)) (.int .i64 x) false).run P w = .ok ((F x).getD z) w:=by
 obtain ⟨C,o,D,q⟩:=h;obtain ⟨v,ps,r,f⟩:=o.lookup (int_keyed l) s A (zd:=.held z) (zp:=[]) rfl (keyOf_int_mk l (aR0 hx));have j:=(q x).2 z;unfold aE7 at j;rw [j] at f;simp only [aHx,aGz,Prod.mk.injEq,aG2] at f;rw [r,f.1]
theorem nT.store (h:nT P k b n F w) (q:P.underlying k=some (.int .i64)) (K:P.underlying t=some (.map k e)) (hn:n<maxLen) {x:Int} (hx:okJ x) (v:Value) :
  ∃w',(Instr.mapUpdate t (.map (some b)) (.int .i64 x) v).run P w = .ok () w'/\nT P k b (if (F x).isSome then n else n+1) (upd F x (some v)) w'/\w.mapTurned w' b:=by
 obtain ⟨j,f,G,o⟩:=h;obtain ⟨w',J,I,H⟩:=f.store (int_keyed q) K hn (keyOf_int_mk q (aR0 hx)) (d:=.held v) (ps:=[]) (val:=v) rfl;have r:=size_put (f.tidy (int_keyed q)) (k:=aE7 x) (.held v);rw [(o x).1,G] at r;refine⟨w',J,⟨j.put (aE7 x) (.held v),?_,r,fun y=>?_⟩,H⟩
 ·obtain ⟨l,D,A,C,L,s⟩:=I;refine⟨l,D,A,C,?_,s⟩;have E:Maps.size (j.put (aE7 x) (.held v))=l.size:=by
   show Maps.size (j.put (.int .i64 x) (.held v))=l.size;rw [s];simp [Maps.size,length_sorted]
  rw [<-E,r];exact aA
 ·by_cases hy:y=x
  ·subst hy;rw [upd_same];exact⟨has_put_same f.isMap (aJp y) _,fun z=>by rw [atKey_put_same f.isMap (aJp y)];rfl⟩
  ·rw [aFy F _ hy];exact⟨by rw [has_put_other (aOq hy)];exact(o y).1,fun z=>by rw [atKey_put_other (aOq hy)];exact(o y).2 z⟩
def dY (T:aC):Nat->List Int × List Int->Int->List Int × List Int
 | 0,st,_=>st
 |
  f+1,st,i=>if st.1.contains i then st else
  (((nodeAt T i).args.foldl (dY T f) (i :: st.1,st.2)).1,((nodeAt T i).args.foldl (dY T f) (i :: st.1,st.2)).2 ++ [i])
def mD (T:aC):Prop:=∀(k:Nat) (x:aZ),T.nodes[k]? = some x->∀i∈x.args,0<=i/\i<(k:Int)
structure uW (T:aC) (st:List Int × List Int):Prop where
 le:st.2.length<=st.1.length
 nd:st.1.Nodup
 lt:∀x∈st.1,0<=x/\x<(T.nodes.length:Int)
theorem aMl:∀(n:Nat) (l:List Int),l.Nodup->(∀x∈l,0<=x/\x<(n:Int))->l.length<=n
 |
  0,l,_,h=>by
  cases l with
  | nil=>simp
  | cons x l=>have:=h x (by simp);omega
 |
  n+1,l,hn,h=>by
  by_cases hm:(n:Int)∈l
  ·have f:=aMl n (l.erase n) (hn.erase _) (fun x hx=>by
    have j:=(hn.mem_erase_iff).1 hx;have o:=h x j.2;have q:=j.1;omega)
   rw [List.length_erase_of_mem hm] at f;omega
  ·have f:=aMl n l hn (fun x hx=>by
    have o:=h x hx;have:x≠n:=fun e=>hm (by rw [<-e];exact hx)
    omega)
   omega
theorem uW.small {T:aC} {f:List Int × List Int} (h:uW T f):f.1.length<=T.nodes.length/\f.2.length<=T.nodes.length:=by
 have:=aMl _ _ h.nd h.lt;exact⟨this,aH h.le this⟩
def Grow (st st':List Int × List Int):Prop:=st'.2.length+st.1.length<=st'.1.length+st.2.length
theorem aDs {T:aC} (C:mD T):∀(f:Nat) (k:Nat) (h:List Int × List Int),k<T.nodes.length->h.1.Nodup->(∀x∈h.1,0<=x/\x<(T.nodes.length:Int)) ->
  (dY T f h k).1.Nodup/\(∀x∈(dY T f h k).1,0<=x/\x<(T.nodes.length:Int))/\Grow h (dY T f h k)
 | 0,k,h,_,o,q=>⟨o,q,by unfold Grow dY;omega⟩
 |
  f+1,k,h,hk,o,q=>by
  unfold dY;by_cases v:h.1.contains (k:Int)=true
  ·rw [if_pos v];exact⟨o,q,by unfold Grow;omega⟩
  ·rw [if_neg v];have D:=C k _ (cR hk);have E:∀(l:List Int),(∀i∈l,0<=i/\i<(k:Int))->∀h:List Int × List Int,h.1.Nodup->(∀x∈h.1,0<=x/\x<(T.nodes.length:Int)) ->
     (l.foldl (dY T f) h).1.Nodup/\(∀x∈(l.foldl (dY T f) h).1,0<=x/\x<(T.nodes.length:Int))/\Grow h (l.foldl (dY T f) h):=by
    intro l
    induction l with
    | nil=>exact fun _ h o q=>⟨o,q,by unfold Grow;simp only [pJ];omega⟩
    |
     cons i l ih=>
     intro z h o q;obtain ⟨j,rfl⟩:=fK (z i (by simp)).1;have K:=(z (j:Int) (by simp)).2;obtain ⟨r,s,A⟩:=aDs C f j h (by omega) o q;obtain ⟨H,I,L⟩:=ih (fun x hx=>z x (by simp [hx])) _ r s;rw [tD];exact⟨H,I,by unfold Grow at *;omega⟩
   have G:¬(k:Int)∈h.1:=by simpa using v
   obtain ⟨r,s,A⟩:=E (nodeAt T k).args D ((k:Int) :: h.1,h.2) (List.nodup_cons.2 ⟨G,o⟩) (fun x hx=>by
    rcases mB.1 hx with rfl | hx
    ·omega
    ·exact q x hx)
   refine⟨r,s,?_⟩;generalize (nodeAt T k).args.foldl (dY T f) ((k:Int) :: h.1,h.2)=R at *;have J:R.2.length+(h.1.length+1)<=R.1.length+h.2.length:=A;show(R.2 ++ [(k:Int)]).length+h.1.length<=R.1.length+h.2.length;rw [dM,kZ];omega
def aE8 (met:List Int):Int->Option Value:=fun x=>if met.contains x then some (.bool true) else none
theorem aR1 (met:List Int) (k:Int):upd (aE8 met) k (some (.bool true))=aE8 (k :: met):=by
 funext x
 unfold upd aE8;by_cases h:x=k
 ·subst h;simp
 ·rw [if_neg h,List.contains_cons,show(x == k)=false by simpa using h,Bool.false_or]
abbrev uX (b:Nat):Value:=.func (.func 138) #[] #[.pointer (some ⟨b+3,0,none⟩),.pointer (some ⟨b,0,none⟩),.pointer (some ⟨b+4,0,none⟩),.pointer (some ⟨b+1,0,none⟩)]
structure WkS (p:Nat) (w wr:World) (met out:List Int):Prop where
 b:Below w.heap.size w wr
 t:wr.heap[w.heap.size]? = some (.cells #[.pointer (some ⟨p,0,none⟩)] 26 (0,0))
 o:∃v,wr.heap[w.heap.size+1]? = some (.cells #[v] 23 (0,0))/\wr.ownsRow w.heap.size 3 1 v out.length (out.map (Value.int .i64))
 m:wr.heap[w.heap.size+3]? = some (.cells #[.map (some (w.heap.size+2))] 192 (0,0))
 f:wr.heap[w.heap.size+4]? = some (.cells #[uX w.heap.size] 193 (0,0))
 s:∃n,nT prog 3 (w.heap.size+2) n (aE8 met) wr/\n<=met.length
theorem aPv (w:World):(zeroValue 4).run prog w = .ok (.bool false) w:=by kernel_rfl
theorem nT.noCells {P:Program} {k:TypeId} {b n:Nat} {F:Int->Option Value} {w:World} (h:nT P k b n F w) {cs:Array Value} {t:TypeId} {f:Nat × Nat}:w.heap[b]? ≠ some (.cells cs t f):=by
 obtain ⟨l,⟨q,o,j,_⟩,_⟩:=h;rw [j];intro e;cases e
section
variable {p : Nat} {w wr w' : World} {met out : List Int}
theorem WkS.lt (h:WkS p w wr met out):w.heap.size+4<wr.heap.size:=(bH h.f).1
theorem tU {base n:Nat} {e:TypeId} {v:Value} {xs:List Value} (h:wr.ownsRow base e 1 v n xs) (q:∀k,v.ownBlock=some k->w'.heap[k]? = wr.heap[k]?):w'.ownsRow base e 1 v n xs:=by
 refine⟨h.1,?_⟩;rcases h.2 with hn | ⟨g,f,cur,rfl,j,l,o⟩
 ·exact .inl hn
 ·exact .inr ⟨g,f,cur,rfl,j,by rw [q g rfl];exact l,o⟩
theorem WkS.meet (h:WkS p w wr met out) {k:Int} {n:Nat} (z:wr.mapTurned w' (w.heap.size+2)) (hm:nT prog 3 (w.heap.size+2) n (aE8 (k :: met)) w') (hn:n<=met.length+1):WkS p w w' (k :: met) out:=by
 have q:=z.grown;obtain ⟨v,D,r⟩:=h.o;obtain ⟨H,m1,m2⟩:=h.s;have G:=h.lt;have l:∀k,k<wr.heap.size->k≠w.heap.size+2->w'.heap[k]? = wr.heap[k]?:=fun k j C=>q.block k j (by simpa using C)
 exact⟨⟨q.os.trans h.b.os,q.tape.trans h.b.tape,q.output.trans h.b.output,aH h.b.size q.size,fun k j=>(l k (by omega) (by omega)).trans (h.b.block k j)⟩,(l _ (by omega) (by omega)).trans h.t,⟨v,(l _ (by omega) (by omega)).trans D,tU r fun k j=>l k (r.lt k j).2 (fun e=>by
  subst e;rcases r.2 with ⟨rfl,_⟩ | ⟨g,E,cur,rfl,_,A,_⟩
  ·simp [Value.ownBlock] at j
  ·simp [Value.ownBlock] at j;subst j;exact m1.noCells A)⟩,(l _ (by omega) (by omega)).trans h.m,(l _ (by omega) (by omega)).trans h.f,n,hm,by simpa using hn⟩
end
theorem WkS.push {p:Nat} {w wr l:World} {met out:List Int} (h:WkS p w wr met out) {v v':Value} {o:Obj} {k:Int} (H:wr.heap[w.heap.size+1]? = some (.cells #[v] 23 (0,0))) (r:wr.ownsRow w.heap.size 3 1 v out.length (out.map (Value.int .i64)))
  (G:l.ownsRow w.heap.size 3 1 v' (out.length+1) (out.map (Value.int .i64) ++ [.int .i64 k])) (D:(wr.alloc o).grownBy l v.ownBlock):WkS p w (l.setCell ⟨w.heap.size+1,0,none⟩ v') met (out ++ [k]):=by
 have N:=h.lt;have z:=cT D;obtain ⟨L,m1,m2⟩:=h.s;have A:∀k cs t f,wr.heap[k]? = some (Obj.cells cs t f)->t≠3->k≠w.heap.size+1->(l.setCell ⟨w.heap.size+1,0,none⟩ v').heap[k]? = wr.heap[k]?:=fun k cs t f q I j=>
  (dZ _ _ _ _ (fun e=>j e)).trans (z.block k (bH q).1 (fun e=>vP r q I e.symm))
 have J:∀k,v.ownBlock=some k->k≠w.heap.size+1:=fun k j e=>by subst e;exact vP r H (by decide) j
 have C:l.heap[w.heap.size+1]? = some (.cells #[v] 23 (0,0)):=(z.block _ (by omega) (fun e=>J _ e.symm rfl)).trans H;have K:∀k,v'.ownBlock=some k->k≠w.heap.size+1:=fun k j e=>by subst e;exact vP G C (by decide) j
 refine⟨((h.b.alloc h.b.size o).grown D (by have:=h.b.size;simp;omega) (fun k j=>(r.lt k j).1)).setCell (by simp) _,(A _ _ _ _ h.t (by decide) (by omega)).trans h.t,⟨v',?_,?_⟩,(A _ _ _ _ h.m (by decide) (by omega)).trans h.m,(A _ _ _ _ h.f (by decide) (by omega)).trans h.f,L,?_,m2⟩
 ·unfold World.setCell;rw [iN,if_pos rfl,C];rfl
 ·have:=tU (w':=l.setCell ⟨w.heap.size+1,0,none⟩ v') G fun k j=>dZ _ _ _ _ (fun e=>K k j e)
  simpa using this
 ·refine m1.same ((dZ _ _ _ _ (by simp)).trans (z.block _ (by omega) (fun e=>?_)));obtain ⟨cs,f,q⟩:∃cs f,wr.heap[w.heap.size+2]? = some (.cells cs 3 f):=by
   rcases r.2 with ⟨rfl,_⟩ | ⟨g,M,cur,rfl,_,E,_⟩
   ·simp [Value.ownBlock] at e
   ·simp [Value.ownBlock] at e;rw [<-e] at E;exact⟨_,_,E⟩
  exact m1.noCells q
theorem aPw (B p:Nat) (T:aC) (w:World) (ak:dG B p T w) (aq:mD T) (aE:SmN T) (bf:T.nodes.length<=16384):∀(f k:Nat),k<f->k<T.nodes.length->∀(wr:World) (h:List Int × List Int),WkS p w wr h.1 h.2->uW T h ->
  Calls prog 138 #[.int .i64 k,.pointer (some ⟨w.heap.size+3,0,none⟩),.pointer (some ⟨w.heap.size,0,none⟩),.pointer (some ⟨w.heap.size+4,0,none⟩),.pointer (some ⟨w.heap.size+1,0,none⟩)] wr fun e w'=>e = .returned (.tuple #[])/\WkS p w w' (dY T f h k).1 (dY T f h k).2:=by
 intro f
 induction f with
 | zero=>intro k K;omega
 |
  succ f ih=>
  intro k bd K wr h I Y;have aJ:=Z ih;have a4:=Z ak;have ar:=Z aq;have aj:=Z I;have aa:=Z Y;have hd:=@Z (dY T (f+1) h k=if h.1.contains (k:Int) then h else(((nodeAt T k).args.foldl (dY T f) ((k:Int) :: h.1,h.2)).1,((nodeAt T k).args.foldl (dY T f) ((k:Int) :: h.1,h.2)).2 ++ [(k:Int)])) rfl;have c3:wr.cell? ⟨w.heap.size+3,0,none⟩=some (.map (some (w.heap.size+2))):=E I.m 0;obtain ⟨n,hm,bg⟩:=I.s;have an:eI (k:Int):=by unfold eI;omega
  have L:=hm.look underlying3 underlying192 (aPv wr) (x:=(k:Int)) an;have ao:=Z hm;have bi:=Y.small;clear ih ak aq I Y hm;cases r:h.1.contains (k:Int)
  case true=>
   have A:aE8 h.1 (k:Int)=some (.bool true):=by unfold aE8;rw [if_pos r]
   have ad:=@Z (dY T (f+1) h k=h) (by rw [hd.o,if_pos r]);rw [A] at L;simp only [yW] at L;clear A r hd;go_enter func138,ntmps138
   go_wp2;(try simp only [Exit.inBlock,Exit.then]);refine bodyPost_ret (results_none rfl _ _ _) rfl ?_;exact⟨rfl,by rw [ad.o];exact aj.o⟩
  case false=>
   have A:aE8 h.1 (k:Int)=none:=by unfold aE8;rw [if_neg (by rw [r];decide)]
   have ap:¬(k:Int)∈h.1:=fun hm=>by rw [List.contains_iff_mem.2 hm] at r;cases r
   have a6:=@Z (dY T (f+1) h k=(((nodeAt T k).args.foldl (dY T f) ((k:Int) :: h.1,h.2)).1,((nodeAt T k).args.foldl (dY T f) ((k:Int) :: h.1,h.2)).2 ++ [(k:Int)])) (by rw [hd.o,if_neg (by rw [r];decide)]);obtain ⟨ae,bj,D,au⟩:=ao.o.store underlying3 underlying192 (by unfold maxLen;omega) (x:=(k:Int)) an (.bool true);rw [A] at L D;simp only [Option.getD_none,vL,vM,if_false] at L D;rw [aR1] at D;have H:=Z (aj.o.meet au D (by omega));have a8:=@Z (uW T ((k:Int) :: h.1,h.2)) ⟨by have:=aa.o.le;simp only [fQ];omega,List.nodup_cons.2 ⟨ap,aa.o.nd⟩,fun x hx=>by
    rcases mB.1 hx with rfl | hx
    ·omega
    ·exact aa.o.lt x hx⟩
   have c2:ae.cell? ⟨w.heap.size,0,none⟩=some (.pointer (some ⟨p,0,none⟩)):=E H.o.t 0;obtain ⟨q,a1,c1,aM,aV,m,V⟩:=a4.o.look;have bk:ae.cell? ⟨p,1,none⟩=some (.slice a1 T.nodes.length c1):=aB H.o.b (E V.blk 1);obtain ⟨b,o,aL,ah,aO,d,g,e,rfl,hn,al⟩:=(V.nodes.read (S':=fun _=>True) (fun _ _ _=>trivial) (fun _ _=>trivial)).nodeAt (cR K);have bl:ae.cell? ⟨b,o+k * 7+5,none⟩=some (.slice g (nodeAt T k).args.length e):=aB H.o.b (al 5 _ rfl);have a7:=Z (ar.o k _ (cR K));have aD:=Z hn.args.toI;have be:(k:Int)<T.nodes.length:=by omega
   have ba:=(aE (nodeAt T k) (fP (cR K))).2.2;clear V hn al A r hd D au ap ao;generalize (nodeAt T k).args=args at *;go_enter func138,ntmps138
   go_wp2
   go_loopw [7,22] (fun _ i wr=>∃j:Nat,j<=args.length/\i = .int .i64 j/\Hid (WkS p w wr ((args.take j).foldl (dY T f) ((k:Int) :: h.1,h.2)).1 ((args.take j).foldl (dY T f) ((k:Int) :: h.1,h.2)).2)/\Hid (uW T ((args.take j).foldl (dY T f) ((k:Int) :: h.1,h.2)))) (fun _ i _=>args.length - (intOf i).toNat)
   case atStart=>exact⟨0,aN,rfl,H.o,a8.o⟩
   case round=>
    obtain ⟨j,bb,rfl,l,C⟩:=hrel;by_cases M:j<args.length
    ·obtain ⟨aP,O,rfl,aK⟩:=(aD.o.below l.o.b aA).at j M;obtain ⟨ai,a2⟩:=a7.o (nth args j) (cB M);have ab:=@Z ((args.take (j+1)).foldl (dY T f) ((k:Int) :: h.1,h.2)=dY T f ((args.take j).foldl (dY T f) ((k:Int) :: h.1,h.2)) (nth args j)) (by rw [jD M,vN,cE M];rfl);obtain ⟨i,J⟩:=fK ai;rw [J] at aK a2 ab;generalize (args.take j).foldl (dY T f) ((k:Int) :: h.1,h.2)=G at *;have a5:=Z (aJ.o i (by omega) (by omega) wr G l.o C.o);have N:=Z (aDs ar.o f i G (by omega) C.o.nd C.o.lt);have a9:=@Z (uW T (dY T f G i)) ⟨by have aZ:=C.o.le;have a3:=N.o.2.2;unfold Grow at a3;omega,N.o.1,N.o.2.1⟩;have aS:wr.cell? ⟨w.heap.size+4,0,none⟩=some (uX w.heap.size):=E l.o.f 0;have bc:(j:Int)<args.length:=by omega
     clear ai J N
     go_wp2_with fail
     refine a5.o.mono ?_;rintro A bm ⟨rfl,af⟩;have az:=Z af;clear af;go_wp2
     go_roundw
     case rel=>exact⟨j+1,by omega,by go_num,by rw [ab.o];exact az.o,by rw [ab.o];exact a9.o⟩
     case measure=>simp [intOf];omega
    ·have am:args.take j=args:=fL (by omega);rw [am] at l C;clear am;generalize args.foldl (dY T f) ((k:Int) :: h.1,h.2)=G at *;obtain ⟨v,O,aw⟩:=l.o.o;have aT:wr.cell? ⟨w.heap.size+1,0,none⟩=some v:=E O 0;have bh:=C.o.small.2;have Q:=Z O;have R:=Z aw;obtain ⟨aI,J,aF,aG,aH⟩:=info_parts lE;clear O aw
     go_wp2_with (at_builtin;refine wpList_append_own _ rfl _ _ 23 rfl w.heap.size 3 aI (.int .i64 0) 1 8 underlying23 J aF aG aH rfl (by decide) _ _ _ rfl (R.o.alloc _) ⟨wr.heap.size,0,none⟩ 1 1 [.int .i64 (k:Int)] rfl rfl ?c1 ?c2 ?c3 ?c4 ?c5 ?_)
     case c1=>intro y u z;match y,z with | 0,z=>simp at z;subst z;simp [Addr.add]
     case c2=>intro u z;simp at z;subst z;rfl
     case c3=>unfold maxLen;omega
     case c4=>omega
     case c5=>have:=l.o.b.size;simp;omega
     intro v' ax X W _;have a0:=Z (l.o.push Q.o R.o X W);have ay:=Z (cT W);have av:v.ownBlock≠some (w.heap.size+1):=fun e=>vP R.o Q.o (by decide) e
     have U:=(ay.o.block (w.heap.size+1) (by have:=l.o.lt;omega) (fun e=>av e.symm)).trans Q.o;have c4:ax.cell? ⟨w.heap.size+1,0,none⟩=some v:=E U 0;have aW:ax.frozen? ⟨w.heap.size+1,0,none⟩=false:=aQ U 0;obtain ⟨ag,aU,rfl⟩:∃ag ah,v' = .slice ag (G.2.length+1) ah:=by
      rcases X.2 with ⟨_,aY⟩ | ⟨aX,aR,cur,ad,_⟩
      ·omega
      ·exact⟨_,_,ad⟩
     clear X W U av;go_wp2;go_end0;exact⟨rfl,by rw [a6.o];exact a0.o⟩
def gH (T:aC) (st:List Int × List Int) (i:Int):List Int × List Int:=if dH T i then dY T (T.nodes.length+1) st i else st
def jY (T:aC) (ids:List Int):List Int × List Int:=ids.foldl (gH T) ([],[])
structure iP (T:aC):Prop where
 sm:SmT T
 sn:SmN T
 ord:mD T
theorem uW.nil (T:aC):uW T ([],[]):=⟨aA,List.nodup_nil,by simp⟩
theorem uW.at {T:aC} (s:mD T) {f:List Int × List Int} (h:uW T f) (i:Int):uW T (gH T f i):=by
 unfold gH
 split
 ·rename_i r
  obtain ⟨j,v⟩:=cX.1 r;obtain ⟨k,rfl⟩:=fK j;obtain ⟨l,o,q⟩:=aDs s (T.nodes.length+1) k f (by omega) h.nd h.lt;exact⟨by have:=h.le;unfold Grow at q;omega,l,o⟩
 ·exact h
theorem aR2 (p:Nat) (w W:World) (j:(((((w.alloc (.cells #[.pointer (some ⟨p,0,none⟩)] 26)).alloc (.cells #[.slice none 0 0] 23)).alloc (.map #[] 0)).alloc (.cells #[.map (some (w.heap.size+1+1))] 192)).alloc (.cells #[.nilFunc] 193))=W):W.heap[w.heap.size+4]? = some (.cells #[.nilFunc] 193 (0,0))/\WkS p w (W.setCell ⟨w.heap.size+4,0,none⟩ (uX w.heap.size)) [] []:=by
 rw [show w.heap.size+1+1=w.heap.size+2 from rfl] at j;generalize A:w.alloc (.cells #[.pointer (some ⟨p,0,none⟩)] 26)=q at j;have G:q.heap.size=w.heap.size+1:=by rw [<-A];simp
 have N:q.heap[w.heap.size]? = some (.cells #[.pointer (some ⟨p,0,none⟩)] 26 (0,0)):=by rw [<-A];exact cC w _
 have J:Below w.heap.size w q:=by rw [<-A];exact bJ
 generalize r:q.alloc (.cells #[.slice none 0 0] 23)=l at j;have H:l.heap.size=w.heap.size+2:=by rw [<-r];simp [G]
 have O:l.heap[w.heap.size+1]? = some (.cells #[.slice none 0 0] 23 (0,0)):=by rw [<-r,<-G];exact cC q _
 have R:∀k,k<q.heap.size->l.heap[k]? = q.heap[k]?:=fun k f=>by rw [<-r];exact fB _ _ _ f
 have b2:Below w.heap.size w l:=by rw [<-r];exact J.alloc (by omega) _
 generalize s:l.alloc (.map #[] 0)=o at j;have I:o.heap.size=w.heap.size+3:=by rw [<-s];simp [H]
 have E:∀k,k<l.heap.size->o.heap[k]? = l.heap[k]?:=fun k f=>by rw [<-s];exact fB _ _ _ f
 have K:Below w.heap.size w o:=by rw [<-s];exact b2.alloc (by omega) _
 have m3:nT prog 3 (w.heap.size+2) 0 (aE8 []) o:=by rw [<-s,<-H];exact nT.made l
 generalize v:o.alloc (.cells #[.map (some (w.heap.size+2))] 192)=h at j;have V:h.heap.size=w.heap.size+4:=by rw [<-v];simp [I]
 have Q:h.heap[w.heap.size+3]? = some (.cells #[.map (some (w.heap.size+2))] 192 (0,0)):=by rw [<-v,<-I];exact cC o _
 have C:∀k,k<o.heap.size->h.heap[k]? = o.heap[k]?:=fun k f=>by rw [<-v];exact fB _ _ _ f
 have L:Below w.heap.size w h:=by rw [<-v];exact K.alloc (by omega) _
 have U:∀k,k<h.heap.size->W.heap[k]? = h.heap[k]?:=fun k f=>by rw [<-j];exact fB _ _ _ f
 have D:W.heap[w.heap.size+4]? = some (.cells #[.nilFunc] 193 (0,0)):=by rw [<-j,<-V];exact cC h _
 have M:Below w.heap.size w W:=by rw [<-j];exact L.alloc (by omega) _
 have z:∀k,k<h.heap.size->(W.setCell ⟨w.heap.size+4,0,none⟩ (uX w.heap.size)).heap[k]? = h.heap[k]?:=fun k f=>(dZ _ _ _ _ (by simp;omega)).trans (U k f)
 refine⟨D,M.setCell (by simp) _,(z _ (by omega)).trans ((C _ (by omega)).trans ((E _ (by omega)).trans ((R _ (by omega)).trans N))),⟨.slice none 0 0,(z _ (by omega)).trans ((C _ (by omega)).trans ((E _ (by omega)).trans O)),yU _ _ _ _⟩,(z _ (by omega)).trans Q,?_,0,m3.same ((z _ (by omega)).trans (C _ (by omega))),aA⟩;unfold World.setCell;rw [iN,if_pos rfl,D];rfl
def aWw (xs:List Int) (w:World) (e:Ending) (w':World):Prop:=∃a c,e = .returned (.slice a xs.length c)/\w'.ownsRow w.heap.size 3 1 (.slice a xs.length c) xs.length (xs.map (Value.int .i64))/\Below w.heap.size w w'
theorem aJq (B p:Nat) (T:aC) (a:Option Addr) (n c:Nat) (xs:List Int) (w:World) (C:dG B p T w) (r:iP T) (hx:jQ w a n xs) (hn:n<1099511627776) :
  Calls prog 89 #[.pointer (some ⟨p,0,none⟩),.slice a n c] w fun e w'=>aWw (jY T xs).2 w e w':=by
 have a1:=@run_makeMap prog;have ao:=Z hx;have af:=Z hx.len;have ay:=Z C;have an:=Z r;have ak:=Z (aPw B p T w C r.ord r.sn r.sm.le);have al:=Z (fun(i:Int) (W:World) (D:Below w.heap.size w W)=>aC2 B p T i W (C.all D));clear hx C r;go_enter func89,ntmps89
 go_wp2;generalize D:(((((w.alloc (.cells #[.pointer (some ⟨p,0,none⟩)] 26)).alloc (.cells #[.slice none 0 0] 23)).alloc (.map #[] 0)).alloc (.cells #[.map (some (w.heap.size+1+1))] 192)).alloc (.cells #[.nilFunc] 193))=W;obtain ⟨L,Y⟩:=aR2 p w W D;have c5:W.cell? ⟨w.heap.size+4,0,none⟩=some .nilFunc:=E L 0;have R:W.frozen? ⟨w.heap.size+4,0,none⟩=false:=aQ L 0;have ai:=Z Y;clear D L Y;have ad:(store ⟨w.heap.size+4,0,none⟩ (uX w.heap.size)).run prog W = .ok () (W.setCell ⟨w.heap.size+4,0,none⟩ (uX w.heap.size)):=by
  rw [run_store _ _ _ _ _ rfl];simp [c5,R]
 simp only [nB,Nat.reduceAdd];rw [ad];simp only [Result.andThen];rw [Oper.upon_skip];clear ad c5 R;generalize W.setCell ⟨w.heap.size+4,0,none⟩ (uX w.heap.size)=ap at *;go_wp2
 go_loopw [8,13] (fun _ i wr=>∃j:Nat,j<=n/\i = .int .i64 j/\Hid (WkS p w wr ((xs.take j).foldl (gH T) ([],[])).1 ((xs.take j).foldl (gH T) ([],[])).2)/\Hid (uW T ((xs.take j).foldl (gH T) ([],[])))) (fun _ i _=>n - (intOf i).toNat)
 case atStart=>exact⟨0,aN,rfl,ai.o,uW.nil T⟩
 case round=>
  obtain ⟨j,az,rfl,h,H⟩:=hrel;by_cases aa:j<n
  ·have X:j<xs.length:=by rw [af.o];exact aa
   obtain ⟨aq,z,rfl,a2⟩:=(ao.o.below h.o.b aA).at j aa;have I:=@Z ((xs.take (j+1)).foldl (gH T) ([],[])=gH T ((xs.take j).foldl (gH T) ([],[])) (nth xs j)) (by rw [jD X,vN,cE X];rfl);generalize hy:nth xs j=y at *;generalize (xs.take j).foldl (gH T) ([],[])=A at *;have ab:=Z (H.o.at an.o.ord y);have G:=Z (al.o y wr h.o.b);have av:wr.cell? ⟨w.heap.size,0,none⟩=some (.pointer (some ⟨p,0,none⟩)):=E h.o.t 0;have ar:wr.cell? ⟨w.heap.size+4,0,none⟩=some (uX w.heap.size):=E h.o.f 0;have a0:(j:Int)<n:=by omega
   clear hy;cases l:dH T y
   case false=>
    have s:=@Z (gH T A y=A) (by unfold gH;rw [l];rfl);rw [l] at G;clear l
    go_wp2_with fail
    refine G.o.mono ?_;rintro Q w' ⟨rfl,rfl⟩;go_wp2
    go_roundw
    case rel=>exact⟨j+1,by omega,by go_num,by rw [I.o,s.o];exact h.o,by rw [I.o];exact ab.o⟩
    case measure=>simp [intOf];omega
   case true=>
    have s:=@Z (gH T A y=dY T (T.nodes.length+1) A y) (by unfold gH;rw [l];rfl);rw [l] at G;obtain ⟨U,ax⟩:=cX.1 l;obtain ⟨k,rfl⟩:=fK U;have aj:=Z (ak.o (T.nodes.length+1) k (by omega) (by omega) wr A h.o H.o);clear l U
    go_wp2_with fail
    refine G.o.mono ?_;rintro Q w' ⟨rfl,rfl⟩
    go_wp2_with fail
    refine aj.o.mono ?_;rintro Q a3 ⟨rfl,N⟩;have ah:=Z N;clear N;go_wp2
    go_roundw
    case rel=>exact⟨j+1,by omega,by go_num,by rw [I.o,s.o];exact ah.o,by rw [I.o];exact ab.o⟩
    case measure=>simp [intOf];omega
  ·have V:xs.take j=xs:=fL (by rw [af.o];omega);rw [V] at h H;obtain ⟨v,z,J⟩:=h.o.o;have ae:=@Z (xs.foldl (gH T) ([],[])=jY T xs) rfl;rw [ae.o] at J h H;clear V ae;have au:wr.cell? ⟨w.heap.size+1,0,none⟩=some v:=E z 0;have aw:wr.frozen? ⟨w.heap.size+1,0,none⟩=false:=aQ z 0;obtain ⟨q,O,rfl⟩:∃q K,v = .slice q (jY T xs).2.length K:=by
    obtain ⟨q,K,s,_⟩:=(aW.of J).slice;exact⟨q,K,s⟩
   have ag:=Z z;have M:=Z J;clear z J;go_wp2;refine bodyPost_ret (v:=.slice q (jY T xs).2.length O) (by simp [results,results89,go_sem, *]) rfl ?_;refine⟨q,O,rfl,tU M.o fun k am=>dZ _ _ _ _ (fun e=>?_),h.o.b.setCell (by simp) _⟩;subst e;exact vP M.o ag.o (by decide) am
theorem aFz {T:aC} (s:mD T):∀(f:Nat) (k:Nat) (o:List Int × List Int),k<T.nodes.length->(∀x∈o.2,0<=x/\x<(T.nodes.length:Int))->∀x∈(dY T f o k).2,0<=x/\x<(T.nodes.length:Int)
 | 0,_,_,_,h=>h
 |
  f+1,k,o,hk,h=>by
  unfold dY;by_cases r:o.1.contains (k:Int)=true
  ·rw [if_pos r];exact h
  ·rw [if_neg r];have v:∀(l:List Int),(∀i∈l,0<=i/\i<(k:Int))->∀o:List Int × List Int,(∀x∈o.2,0<=x/\x<(T.nodes.length:Int))->∀x∈(l.foldl (dY T f) o).2,0<=x/\x<(T.nodes.length:Int):=by
    intro l
    induction l with
    | nil=>exact fun _ o h=>h
    |
     cons i l ih=>
     intro q o h;obtain ⟨j,rfl⟩:=fK (q i (by simp)).1;have z:=(q (j:Int) (by simp)).2;exact ih (fun x hx=>q x (by simp [hx])) _ (aFz s f j o (by omega) h)
   intro x hx;rcases fT.1 hx with hx | hx
   ·exact v _ (s k _ (cR hk)) ((k:Int) :: o.1,o.2) h x hx
   ·obtain rfl:=eP.1 hx;omega
def aXm (xs:List Int) (w:World) (e:Ending) (w':World):Prop:=∃a c,e = .returned (.slice a xs.length c)/\bT cH.u64 (fH w.heap.size w') w' a xs.length xs/\xs.length<=c/\c<=maxLen/\Below w.heap.size w w'
theorem bT.take64 {S:Nat->Prop} {w:World} {a:Option Addr} {n:Nat} {xs:List Int} (h:bT cH.u64 S w a n xs) {k:Nat} (z:k<=n):bT cH.u64 S w a k (xs.take k):=by
 refine⟨by rw [eS,h.1];omega,fun v=>?_⟩;obtain ⟨b,o,l,s,f,q⟩:=h.2 (by omega);refine⟨b,o,l,s,f,fun j x hx=>q j x ?_⟩;have r:=(gK.1 hx).1;rw [eS] at r;rw [sS (by omega)] at hx;exact hx
theorem aR3 (w:World):(sizeOf 177).run prog w = .ok 1 w:=by kernel_rfl
theorem aR4 {S:Nat->Prop} (a:Option Addr) (n c:Nat) (xs:List Int) (k:Nat) (w:World) (hx:bT cH.u64 S w a n xs) (hn:n<17592186044416) (hnc:n<=c) (l:k<=n) (J:∀j,k<=j->j<n->nth xs j=0) (D:k=0\/nth xs (k - 1)≠0) :
  Calls prog 149 #[.slice a n c] w fun e w'=>aXm (xs.take k) w e w':=by
 have r:=Z hx;have K:=Z hx.1;have af:=Z J;have N:=Z D;have h:=Z (show(xs.take k).length=k by rw [eS,hx.1];omega);have az:=fun W=>aAs (P:=prog) (a:=a) (n:=n) (c:=c) (k:=k) underlying34 aR3 l hnc W
 obtain ⟨aj,X,ag,ah,ai⟩:=info_parts rV;clear hx J D;go_enter func149,ntmps149
 go_wp2
 go_loopw [3] (fun i wr=>∃j:Nat,k<=j/\j<=n/\i = .int .i64 j/\wr=w) (fun i _=>(intOf i).toNat)
 case atStart=>exact⟨n,l,aA,rfl,rfl⟩
 case round=>
  obtain ⟨j,ax,av,rfl,rfl⟩:=hrel;by_cases Y:j=k
  ·subst Y;have H:(0<j->∃b o,a=some ⟨b,o,none⟩/\∃y:Int,y≠0/\wr.cell? ⟨b,o+(j - 1),none⟩=some (.int .u64 y)):=fun ay=>by
    obtain ⟨b,o,Q,f,_⟩:=r.o.at64 (k:=j - 1) (by rw [K.o];omega);rcases N.o with e | e
    ·omega
    ·exact⟨b,o,Q,_,e,f⟩
   have an:∀(al:World),al=wr->True:=fun _ _=>trivial
   rcases gD j with s | s
   ·subst s;clear H;cases a with
    |
     none=>
     go_wp2;go_ret;exact⟨_,0,rfl,bT.nil _ _ _ _,aA,aN,bJ⟩
    |
     some a=>
     go_wp2;go_ret;exact⟨_,0,rfl,bT.nil _ _ _ _,aA,aN,bJ⟩
   ·obtain ⟨b,o,rfl,y,hy,f⟩:=H s;have au:((j:Int) - 1)=((j - 1:Nat):Int):=by omega
    have aq:((j - 1:Nat):Int)<n:=by omega
    have ar:j - 1<n:=by omega
    have a0:(y == 0)=false:=by simpa using hy
    have aw:(0:Int)<j:=by omega
    have ae:=Z (((r.o.take64 l).src64).2 (by omega))
    go_wp2_with (at_builtin;refine wpList_append_own _ rfl _ _ 34 rfl wr.heap.size 177 aj (.int .u64 0) 1 8 underlying34 X ag ah ai rfl (by decide) _ _ _ rfl (World.ownsRow_made wr #[] 0 aA aN rfl) ⟨b,o,none⟩ j c ((xs.take j).map (Value.int .u64)) rfl ?m1 ?m2 ?m3 ?m4 ?m5 ?m6 ?_)
    case m1=>rw [lB,h.o,jN]
    case m2=>
     intro z u C;obtain ⟨am,R,V⟩:=ae.o;cases R;exact aB ((aO wr.heap.size wr).alloc aA _) (V z u C)
    case m3=>intro u C;obtain ⟨x,_,rfl⟩:=qA.1 C;rfl
    case m4=>unfold maxLen;omega
    case m5=>omega
    case m6=>simp
    intro v' ak A G aa;have ab:=Z (aW.toU (w:=ak) (base:=wr.heap.size) (v:=v') (xs:=xs.take j) (by rw [h.o];simpa using aW.of A) (r.o.take64 l).us);obtain ⟨L,M,rfl,E⟩:=(aW.of A).slice;have U:=Z (((aO wr.heap.size wr).alloc aA (.cells #[] 177)).grown G (by simp) (by intro q ad;simp [Value.ownBlock] at ad;omega));clear A G aa;go_wp2;go_ret;exact⟨L,M,by rw [h.o];simp,by rw [h.o];have O:=ab.o.datF (n:=wr.heap.size) aA;simpa using O,by rw [h.o];simpa using E.1,E.2,U.o⟩
  ·obtain ⟨b,o,rfl,f,_⟩:=r.o.at64 (k:=j - 1) (by rw [K.o];omega);have I:=af.o (j - 1) (by omega) (by omega);rw [I] at f;obtain ⟨i,rfl⟩:∃i,j=i+1:=⟨j - 1,by omega⟩;rw [rH] at f;have ao:(i:Int)<n:=by omega
   have ap:i<n:=by omega
   clear I;go_wp2
   go_roundw
   case rel=>exact⟨i,by omega,by omega,by go_num,trivial⟩
   case measure=>first | (simp [intOf];done) | (simp [intOf];omega)
theorem or_bit {x t:Nat} (h:x % 2 ^ (t+1)=0):x ||| 2 ^ t=x+2 ^ t:=by
 have f:=qT x (2 ^ (t+1));rw [h,cU] at f;rw [<-f];exact(Nat.two_pow_add_eq_or_of_lt (aCk (by decide) (aG3 t)) (x / 2 ^ (t+1))).symm
theorem aR5 {x t:Nat} (o:t<64) (hx:x<2 ^ 64) (h:x % 2 ^ (t+1)=0):x+2 ^ t<2 ^ 64:=by
 have f:=qT x (2 ^ (t+1));rw [h,cU] at f;have e:(2:Nat) ^ 64=2 ^ (t+1) * 2 ^ (63 - t):=by rw [<-jT];congr 1;omega
 have j:x / 2 ^ (t+1)<2 ^ (63 - t):=by
  apply yK (a:=2 ^ (t+1));rw [f,<-e];exact hx
 have l:2 ^ (t+1) * (x / 2 ^ (t+1)+1)<=2 ^ (t+1) * 2 ^ (63 - t):=lU _ j;rw [cN,f,<-e,jN,iF] at l;have:=mA t;omega
theorem aU5 {a b f r k:Nat} (h:a=f * b+r) (l:r<b * 2 ^ (k+1)) (o:f % 2 ^ (k+1)=0) :
  f % 2 ^ k=0/\(f+2 ^ k) % 2 ^ k=0/\(b * 2 ^ k<=r->a=(f+2 ^ k) * b+(r - b * 2 ^ k)/\r - b * 2 ^ k<b * 2 ^ k):=by
 have j:f % 2 ^ k=0:=by
  have:=Nat.mod_mod_of_dvd f (Nat.pow_dvd_pow 2 (tL k));rw [o] at this;rw [<-this];rw [Nat.zero_mod]
 refine⟨j,by rw [Nat.add_mod_right];exact j,fun q=>?_⟩;rw [iF,<-eU] at l;rw [fC,dK (2 ^ k) b];omega
theorem aR6 {a b p q:Nat} (l:a<2 ^ p) (j:2 ^ q<=b):a<b * 2 ^ (p - q):=by
 have:2 ^ p<=b * 2 ^ (p - q):=by
  rcases Nat.le_total q p with h | h
  ·have f:=kF (2 ^ (p - q)) j;rw [<-jT,show q+(p - q)=p by omega] at f;exact f
  ·rw [Nat.sub_eq_zero_of_le h,vS,jN];exact aH (pW (by decide) h) j
 omega
theorem aWx {a b f r:Nat} (h:a=f * b+r) (j:r<b):f=a / b/\r=a % b:=by
 have l:0<b:=by omega
 rw [h,dK,aCt l,nM j,aG7,lY j];exact⟨rfl,rfl⟩
theorem aR7 {t:Nat} {v W x n bl:Nat} (f:W=2 ^ (64 * n)) (o:v<W) (hx:x=v+W * t) (l:1<=bl) (h:2 ^ (bl - 1)<=t) (j:t<2 ^ bl):2 ^ (64 * n+bl - 1)<=x/\x<2 ^ (64 * n+bl):=by
 constructor
 ·rw [hx,show 64 * n+bl - 1=64 * n+(bl - 1) by omega,jT,<-f];exact aH (lU _ h) (Nat.le_add_left _ _)
 ·rw [hx,jT,<-f];have:W * (t+1)<=W * 2 ^ bl:=lU _ j;rw [cN,jN] at this;omega
theorem aJr {f W t j x rest v:Nat} (r:f % (W * 2 ^ (t+1))=0) (s:0<W) (hx:f=v+W * (x+2 ^ 64 * rest)) (z:v<W) (A:t<64) (_:j=j):x % 2 ^ (t+1)=0:=by
 have h:=qT f (W * 2 ^ (t+1));rw [r,cU,eU] at h;have o:v=0:=by
  have:f % W=v:=by rw [hx,aAq,lY z]
  rw [<-this,<-h,Nat.mul_mod_right]
 have q:x+2 ^ 64 * rest=2 ^ (t+1) * (f / (W * 2 ^ (t+1))):=by
  apply Nat.eq_of_mul_eq_mul_left s;rw [h,hx,o,dT]
 have l:(x+2 ^ 64 * rest) % 2 ^ (t+1)=0:=by rw [q,Nat.mul_mod_right]
 rw [show(2:Nat) ^ 64=2 ^ (t+1) * 2 ^ (63 - t) by rw [<-jT];congr 1;omega,eU,aAq] at l;exact l
theorem aR8 {l:List Int} {i:Nat} (y:Int) (h:i<l.length):aJ (l.set i y)+aK ^ i * (nth l i).toNat=aJ l+aK ^ i * y.toNat:=by
 have j:=vV h;have f:=vV (xs:=l.set i y) (i:=i) (by rw [nN];exact h);rw [List.take_set_of_le aA,List.drop_set_of_lt (aG3 i),cE (xs:=l.set i y) (by rw [nN];exact h),List.getElem_set_self] at f;rw [cN] at j f;have e:l.drop i.succ=l.drop (i+1):=rfl;rw [e] at f;omega
theorem aPx {l:List Int} {i t:Nat} (o:bY l) (f:i<l.length) (q:t<64) (s:aJ l % 2 ^ (64 * i+t+1)=0) :
  ∃x z:Nat,nth l i=(x:Int)/\x<aK/\z<aK/\x ||| 2 ^ t=z/\aJ (l.set i (z:Int))=aJ l+2 ^ (64 * i+t):=by
 have hx:=o.nth f;have e:=fV;have A:=vV f;have r:=iC (o.take i);rw [eS,pZ (by omega)] at r;have C:(2:Nat) ^ (64 * i+t+1)=aK ^ i * 2 ^ (t+1):=by rw [nB,xU]
 rw [C] at s;have h:=aJr (j:=0) (t:=t) (W:=aK ^ i) s (zF gT) (by rw [e];exact A) r q rfl;have v:=hx.lt;have D:=aR5 q (by rw [e];exact v) h;refine⟨(nth l i).toNat,(nth l i).toNat+2 ^ t,hx.cast.symm,v,by rw [<-e];exact D,or_bit h,?_⟩;have E:=aR8 (l:=l) (((nth l i).toNat+2 ^ t:Nat):Int) f;rw [pX,cN] at E;rw [xU];omega
def pG (x:Nat):Nat:=if x=0 then 0 else 64 * ((limbs x).length - 1)+Go.Lib.bitLen (nth (limbs x) ((limbs x).length - 1)).toNat
theorem zZ {x:Nat} (h:0<x):2 ^ (pG x - 1)<=x/\x<2 ^ pG x/\1<=pG x/\pG x<=64 * (limbs x).length:=by
 have J:=bK.2 h;have j:=vV (xs:=limbs x) (i:=(limbs x).length - 1) (by omega);have f:=(eO x).nth (i:=(limbs x).length - 1) (by omega);have l:=iC ((eO x).take ((limbs x).length - 1));rw [eS,pZ (by omega)] at l;rw [aY,List.drop_eq_nil_of_le (by omega),iL,nO,cU] at j;have L:(nth (limbs x) ((limbs x).length - 1)).toNat≠0:=by
  have:=rK x (nth (limbs x) ((limbs x).length - 1)) (by rw [cE (by omega),aGk,cK (by omega)]);have:=f.1;omega
 unfold pG;rw [if_neg (by omega)];have D:=f.lt;have C:=aMb (y:=(nth (limbs x) ((limbs x).length - 1)).toNat) (by omega) D;have K:(limbs x).length - 1+1=(limbs x).length:=by omega
 generalize (nth (limbs x) ((limbs x).length - 1)).toNat=t at *;generalize (limbs x).length - 1=n at *;obtain ⟨s,M,A,r,v⟩:=C;rw [A];have z:aK ^ n=2 ^ (64 * n):=by rw [Nat.pow_mul,fV]
 have E:(9223372036854775808:Nat)=2 ^ (64 - s - 1) * 2 ^ s:=by rw [<-jT,show 64 - s - 1+s=63 by omega]
 have G:(18446744073709551616:Nat)=2 ^ (64 - s) * 2 ^ s:=by rw [<-jT,show 64 - s+s=64 by omega]
 have o:2 ^ (64 - s - 1)<=t:=Nat.le_of_mul_le_mul_right (by rw [<-E];exact r) (mA s);have q:t<2 ^ (64 - s):=aCc (a:=2 ^ s) (by rw [<-G];exact v);obtain ⟨H,I⟩:=aR7 (bl:=64 - s) z l j (by omega) o q;refine⟨H,I,by omega,?_⟩;omega
theorem aMm:pG 0=0:=by unfold pG;rw [if_pos rfl]
section
variable {S S' : Nat -> Prop}
theorem aR9 (a b:Option Addr) (n m c d x y:Nat) (w:World) (hx:bT cH.u64 S w a n (limbs x)) (hy:bT cH.u64 S' w b m (limbs y)) (hn:n<17592186044416) (hm:m<17592186044416) :
  Calls prog 161 #[.slice a n c,.slice b m d] w fun e w'=>e = .returned (.int .i64 (fZ x y))/\∃q,w'=w.drewN q:=by
 have D:=hx.1;have E:=hy.1;by_cases I:n=m
 case neg=>
  have X:¬((n:Int)=m):=by omega
  have al:((n:Int) != m)=true:=by simpa using X
  by_cases C:n<m
  ·have J:=Z (show fZ x y = -1 from tQ (pM (by omega)));have R:(n:Int)<m:=by omega
   clear hx hy D E I;go_enter func161,ntmps161
   go_wp2;go_ret;exact⟨by rw [J.o];rfl,0,rfl⟩
  ·have J:=Z (show fZ x y=1 from vW (pM (by omega)));have R:¬(n:Int)<m:=by omega
   have ak:decide ((n:Int)<m)=false:=by simpa using R
   clear hx hy D E I;go_enter func161,ntmps161
   go_wp2;go_ret;exact⟨by rw [J.o];rfl,0,rfl⟩
 subst I;have ab:=Z hx;have ad:=Z hy;have Y:=Z (eO x);have aa:=Z (eO y);have K:=Z (aY x);have L:=Z (aY y);have f:=Z D;have l:=Z E;generalize limbs x=xs at *;generalize limbs y=ys at *;clear hx hy D E;go_enter func161,ntmps161
 go_wp2
 go_loopw [4,5] (fun af M wr=>∃j:Nat,j<=n/\af = .int .i64 0/\M = .int .i64 ((j:Int) - 1)/\Hid (∀k,j<=k->k<n->nth xs k=nth ys k)/\∃q,wr=w.drewN q) (fun _ M _=>(intOf M+1).toNat)
 case atStart=>exact⟨n,aA,rfl,rfl,fun k r h=>absurd r (by omega),0,rfl⟩
 case round=>
  obtain ⟨j,aj,rfl,rfl,H,q,rfl⟩:=hrel;by_cases V:j=0
  ·subst V;go_wp2;go_ret;have e:xs=ys:=aC0 (by rw [f.o,l.o]) fun k Q=>H.o k aN (by have:=f.o;omega)
   exact⟨by rw [<-K.o,<-L.o,e,vX];rfl,q,rfl⟩
  ·obtain ⟨i,rfl⟩:∃i,j=i+1:=⟨j - 1,by omega⟩;obtain ⟨ag,an,rfl,am,u1⟩:=ab.o.at64 (k:=i) (by rw [f.o];omega);obtain ⟨b2,ao,rfl,ae,u2⟩:=ad.o.at64 (k:=i) (by rw [l.o];omega);have A:(((i+1:Nat):Int) - 1)=i:=by omega
   rw [A];have ai:(i:Int)<n:=by omega
   have O:i<n:=by omega
   by_cases s:nth xs i=nth ys i
   ·have U:=@Z (∀k,i<=k->k<n->nth xs k=nth ys k) (fun k r h=>by
     by_cases Q:k=i
     ·rw [Q];exact s
     ·exact H.o k (by omega) h)
    rw [<-s] at ae;clear s A u1 u2;generalize nth xs i=z at *;go_wp2
    go_quiet (fail)
    go_wp2
    go_quiet (fail)
    go_wp2
    go_roundw
    case rel=>exact⟨i,by omega,rfl,rfl,U.o,_,by first | rfl | (rw [kP,kP]) | (rw [kP])⟩
    case measure=>first | (simp [intOf];done) | (simp [intOf];omega)
   ·have v:∀k,i<k->k<xs.length->nth xs k=nth ys k:=fun k r h=>H.o k (by omega) (by have:=f.o;omega)
    by_cases C:nth xs i<nth ys i
    ·have G:=Z (show fZ x y = -1 from by
      apply tQ;have:=aOh Y.o (by rw [f.o,l.o]) (by rw [f.o];exact O) v C
      rwa [K.o,L.o] at this)
     have W:decide (nth xs i<nth ys i)=true:=by simpa using C
     clear s A v u1 u2;generalize nth xs i=z at *;generalize nth ys i=z' at *;go_wp2
     go_quiet (fail)
     go_wp2;go_ret;exact⟨by rw [G.o];rfl,_,by first | rfl | (rw [kP])⟩
    ·have N:nth ys i<nth xs i:=by omega
     have G:=Z (show fZ x y=1 from by
      apply vW;have:=aOh aa.o (by rw [f.o,l.o]) (by rw [l.o];exact O) (fun k r h=>(v k r (by rw [f.o];rw [l.o] at h;exact h)).symm) N
      rwa [K.o,L.o] at this)
     have W:decide (nth xs i<nth ys i)=false:=by simpa using C
     have ah:decide (nth ys i<nth xs i)=true:=by simpa using N
     clear s A v u1 u2;generalize nth xs i=z at *;generalize nth ys i=z' at *;go_wp2
     go_quiet (fail)
     go_wp2
     go_quiet (fail)
     go_wp2;go_ret;exact⟨by rw [G.o];rfl,_,by first | rfl | (rw [kP,kP]) | (rw [kP])⟩
theorem aF0 (a:Option Addr) (n c x:Nat) (w:World) (hx:bT cH.u64 S w a n (limbs x)) (hn:n<=1099511627776):Calls prog 217 #[.slice a n c] w fun e w'=>e = .returned (.int .i64 (pG x))/\w=w':=by
 rcases gD x with rfl | l
 ·have f:=hx.1;rw [dI] at f;have s:n=0:=f.symm;subst s;rw [aMm];clear hx f;go_enter func217,ntmps217
  go_wp2;go_ret;exact⟨rfl,rfl⟩
 ·have j:=hx.1;have v:=bK.2 l;obtain ⟨k,rfl⟩:∃k,n=k+1:=⟨n - 1,by omega⟩;obtain ⟨A,E,rfl,D,u1⟩:=hx.at64 (k:=k) (by omega);have h:pG x=64 * k+Go.Lib.bitLen (nth (limbs x) k).toNat:=by unfold pG;rw [if_neg (by omega),j,rH]
  have f:=Z (Tryz.bits_Len64 (nth (limbs x) k) w u1.1 u1.2);have q:=Z (show Lib.bitLen (nth (limbs x) k).toNat<=64 from Lib.bitLen_le _ 64 aA (by have:=u1.lt;unfold aK at this;exact this));have r:=Z h;generalize Lib.bitLen (nth (limbs x) k).toNat=bl at *;generalize nth (limbs x) k=z at *;have C:=q.o;clear hx j v h u1;go_enter func217,ntmps217
  go_wp2_with fail
  refine f.o.mono ?_;rintro e w' ⟨rfl,rfl⟩;go_wp2;go_ret;exact⟨mI (by rw [r.o];omega),rfl⟩
end
theorem aV4 {w:World} {base:Nat} {v:Value} {xs:List Int} {n:Nat} {us:List Value} (h:w.ownsRow base 177 1 v n us) (j:aWq xs) (hn:n=xs.length:=by rfl) (f:us=xs.map (Value.int .u64):=by rfl):cA cH.u64 (fun _=>False) w base 177 v xs:=by
 subst hn f;exact aW.toU (aW.of h) j
theorem nU {S:Nat->Prop} (a:Option Addr) (n c:Nat) (xs:List Int) (w:World) (hx:bT cH.u64 S w a n xs) (hn:n<17592186044416) (hnc:n<=c) :
  Calls prog 149 #[.slice a n c] w fun e w'=>uI (aJ xs) w e w':=by
 obtain ⟨k,l,o,f⟩:=aRl xs;have h:=aR4 a n c xs k w hx hn hnc (by rw [<-hx.1];exact l) (fun j q r=>o j q (by rw [hx.1];exact r)) f;rw [xS hx.us l o f] at h;exact h
theorem uI.from {y:Nat} {w wr w':World} {e:Ending} (h:uI y wr e w') (f:Below w.heap.size w wr):uI y w e w':=by
 obtain ⟨a,c,l,o,q,r,s⟩:=h;exact⟨a,c,l,o.mono fun _ _ j=>⟨j.1,aH f.size j.2⟩,q,r,f.trans (s.mono f.size)⟩
theorem vZ {ds:List Int} {i b x y j B d f:Nat} (h:aJ ds+B=j+aK ^ i * b) (q:ds.length=i) (l:d+y+b=x+aK * f) :
  aJ (ds ++ [(d:Int)])+(B+aK ^ i * y)=j+aK ^ i * x+aK ^ (i+1) * f:=by
 have o:aK ^ i * (d+y+b)=aK ^ i * (x+aK * f):=by rw [l]
 rw [cN,cN,cN,<-eU] at o;rw [iV,q,iF];omega
theorem aOr {f x y P b:Nat} (h:f+y=x+P * b) (l:f<P) (o:y<=x):f=x - y:=by
 rcases gD b with rfl | j
 ·rw [nO] at h;omega
 ·have:P * 1<=P * b:=lU _ j;omega
theorem aHy {l:List Int} {i:Nat} (h:l.length<=i):aJ (l.take (i+1))=aJ (l.take i)+aK ^ i * 0:=by
 rw [fL (by omega),fL h,nO,cU]
section
variable {S S' : Nat -> Prop}
theorem aSa (a b:Option Addr) (n m c d x y:Nat) (w:World) (hx:bT cH.u64 S w a n (limbs x)) (hy:bT cH.u64 S' w b m (limbs y)) (hn:n<=1099511627776) (O:y<=x) :
  Calls prog 219 #[.slice a n c,.slice b m d] w fun e w'=>uI (x - y) w e w':=by
 have ax:=Z hx;have ay:=Z hy;have R:=Z hx.1;have G:=Z hy.1;have a1:m<=n:=by rw [<-hx.1,<-hy.1];exact iG O
 have a0:=Z O;have a3:=Z (aY x);have a4:=Z (aY y);generalize limbs x=xs at *;generalize limbs y=ys at *;obtain ⟨ao,af,al,am,an⟩:=info_parts rV;clear hx hy O;go_enter func219,ntmps219
 go_wp2
 go_loopw [5,6,7,8,9,10] (fun a9 a8 V _ _ _ wr=>∃(i q:Nat) (ds:List Int),i<=n/\a8 = .int .u64 q/\V = .int .i64 i/\q<=1/\Hid (ds.length=i)/\Hid (bY ds)/\Hid (aJ ds+aJ (ys.take i)=aJ (xs.take i)+aK ^ i * q)/\Hid (wr.ownsRow w.heap.size 177 1 a9 i (ds.map (Value.int .u64)))/\Hid (Below w.heap.size w wr)) (fun _ _ V _ _ _ _=>n - (intOf V).toNat)
 case atStart=>exact⟨0,0,[],aN,rfl,rfl,by omega,(by show([]:List Int).length=0;rfl),(fun x hx=>(by simp at hx):bY []),(by show aJ []+_=_;simp [iL]),yU _ _ _ _,aO _ _⟩
 case round=>
  obtain ⟨i,q,ds,aD,rfl,rfl,ae,s,E,M,r,h⟩:=hrel;by_cases ah:i<n
  case pos=>
   obtain ⟨aC,aH,rfl,a5,u1⟩:=((ax.o).below h.o aA).at64 (k:=i) (by rw [R.o];exact ah);have X:=u1.cast;have ap:=Z u1.lt;have aq:=Z (bU (l:=xs) (i:=i) (by rw [R.o];exact ah));rw [<-X] at a5;generalize (nth xs i).toNat=ar at *;clear X u1;have aE:(i:Int)<n:=by omega
   have aG:=h.o.size;by_cases ag:i<m
   case pos=>
    obtain ⟨b2,aI,rfl,a6,u2⟩:=((ay.o).below h.o aA).at64 (k:=i) (by rw [G.o];exact ag);have Y:=u2.cast;have a7:=Z u2.lt;have U:=Z (bU (l:=ys) (i:=i) (by rw [G.o];exact ag));rw [<-Y] at a6;generalize (nth ys i).toNat=y1 at *;clear Y u2;have ai:(i:Int)<m:=by omega
    obtain ⟨j,J,aj,v,K,D⟩:=sG ar y1 q ap.o a7.o ae;have Q:=Z (vZ M.o s.o D);have L:=Z (E.o.snoc v);clear D v
    go_wp2_with (at_builtin;refine wpList_append_own _ rfl _ _ 34 rfl w.heap.size 177 ao (.int .u64 0) 1 8 underlying34 af al am an rfl (by decide) _ _ _ rfl (r.o.alloc _) ⟨wr.heap.size,0,none⟩ 1 1 [.int .u64 (j:Nat)] rfl rfl ?m1 ?m2 ?m3 ?m4 ?m5 ?_)
    (try case m1=>intro z u f;match z,f with | 0,f=>simp at f;subst f;(simp [Addr.add]) <;> decide)
    case m2=>first | rfl | (intro u f;simp at f;subst f;rfl)
    case m3=>unfold maxLen;omega
    case m4=>omega
    case m5=>first | omega | (simp;omega)
    intro v' W C A _;have H:=Z (((h.o.alloc h.o.size _).grown A (by simp;omega) (fun k N=>(r.o.lt k N).1)));have I:=Z (show W.ownsRow w.heap.size 177 1 v' (i+1) ((ds ++ [(j:Int)]).map (Value.int .u64)) from by rw [mL];exact C);clear C A;go_wp2
    go_roundw
    case rel=>exact⟨i+1,J,ds ++ [(j:Int)],by omega,by first | rfl | go_num,by first | rfl | go_num,K,(by show(ds++_).length=_;have:=s.o;simp;omega),L.o,(by show aJ _+_=_;rw [aq.o,U.o];exact Q.o),I.o,H.o⟩
    case measure=>first | (simp [intOf];done) | (simp [intOf];omega)
   case neg=>
    have U:=Z (aHy (l:=ys) (i:=i) (by rw [G.o];omega));have ai:¬((i:Int)<m):=by omega
    have aF:decide ((i:Int)<m)=false:=by simpa using ai
    obtain ⟨j,J,aj,v,K,D⟩:=sG ar 0 q ap.o (by decide) ae;have Q:=Z (vZ M.o s.o D);have L:=Z (E.o.snoc v);rw [show(((0:Nat):Int))=0 from rfl] at aj;clear D v
    go_wp2_with (at_builtin;refine wpList_append_own _ rfl _ _ 34 rfl w.heap.size 177 ao (.int .u64 0) 1 8 underlying34 af al am an rfl (by decide) _ _ _ rfl (r.o.alloc _) ⟨wr.heap.size,0,none⟩ 1 1 [.int .u64 (j:Nat)] rfl rfl ?m1 ?m2 ?m3 ?m4 ?m5 ?_)
    (try case m1=>intro z u f;match z,f with | 0,f=>simp at f;subst f;(simp [Addr.add]) <;> decide)
    case m2=>first | rfl | (intro u f;simp at f;subst f;rfl)
    case m3=>unfold maxLen;omega
    case m4=>omega
    case m5=>first | omega | (simp;omega)
    intro v' W C A _;have H:=Z (((h.o.alloc h.o.size _).grown A (by simp;omega) (fun k N=>(r.o.lt k N).1)));have I:=Z (show W.ownsRow w.heap.size 177 1 v' (i+1) ((ds ++ [(j:Int)]).map (Value.int .u64)) from by rw [mL];exact C);clear C A;go_wp2
    go_roundw
    case rel=>exact⟨i+1,J,ds ++ [(j:Int)],by omega,by first | rfl | go_num,by first | rfl | go_num,K,(by show(ds++_).length=_;have:=s.o;simp;omega),L.o,(by show aJ _+_=_;rw [aq.o,U.o];exact Q.o),I.o,H.o⟩
    case measure=>first | (simp [intOf];done) | (simp [intOf];omega)
  case neg=>
   obtain rfl:i=n:=by omega
   obtain ⟨au,av,rfl,az⟩:=(aW.of r.o).slice;have a2:=Z (show aJ ds=x - y from by
    have aa:=M.o;rw [fL (l:=xs) (by rw [R.o];exact aA),fL (l:=ys) (by rw [G.o];exact a1),a3.o,a4.o] at aa;have ab:=iC E.o;rw [s.o] at ab;exact aOr aa ab a0.o)
   have ak:=Z (nU au i av ds wr ((aV4 r.o E.o s.o.symm).datF (n:=0) aN) (by omega) az.1);rw [a2.o] at ak
   go_wp2_with fail
   refine ak.o.mono ?_;rintro e aL ad;have aw:=Z (ad.from h.o);obtain ⟨aB,c2,rfl,_⟩:=ad;go_wp2;go_ret;exact aw.o
theorem aU6 (x c k:Nat) (hx:x<aK) (f:c<2 ^ k) (j:k<64):∃q d v t:Nat,IntKind.u64.wrap ((x:Int) * 2 ^ k)=(q:Nat)/\bits .or .u64 (q:Int) (c:Int)=(d:Nat)/\d<aK /\
  IntKind.u64.wrap (64 - (k:Int))=(t:Nat)/\(0<k->min t 64=t)/\(x:Int) / 2 ^ t=(v:Nat)/\v<2 ^ k/\d+aK * v=c+x * 2 ^ k:=by
 have o:=zR hx j;have h:c<aK:=pK f (by rw [<-fV];exact aCk (by decide) j);have l:x * 2 ^ k % aK<aK:=gN _ gT;have r:=aL8 (x:=x) (k:=k) (t:=c) (by omega) f;refine⟨x * 2 ^ k % aK,c ||| (x * 2 ^ k % aK),x / 2 ^ (64 - k),64 - k,?_,?_,?_,?_,?_,sF _ _,o.2,?_⟩
 ·rw [sD,tB];unfold aK;omega
 ·rw [Nat.or_comm];exact(bits_nat .u64 64 (by decide) wraps_u64 (x * 2 ^ k % aK) c (by rw [fV];exact l) (by rw [fV];exact h)).2
 ·rw [<-fV];exact aG0 (by rw [fV];exact h) (by rw [fV];exact l)
 ·rw [show(64 - (k:Int))=((64 - k:Nat):Int) by omega];exact bO (by omega)
 ·intro _;omega
 ·rw [r,nB,o.1]
theorem aSb (n:Nat) (w:World) (hn:n<=1099511627776) :
  ∃w',(Instr.makeSlice 34 (.int .i64 n) (.int .i64 n)).run prog w = .ok (.slice (some ⟨w.heap.size,0,none⟩) n n) w'/\w'.ownsRow w.heap.size 177 1 (.slice (some ⟨w.heap.size,0,none⟩) n n) n ((List.replicate n (0:Int)).map (Value.int .u64))/\Below w.heap.size w w':=by
 obtain ⟨v,l,q,r,s⟩:=info_parts rV;obtain ⟨w',j,h,f⟩:=run_make_full (P:=prog) w w.heap.size 34 177 v (.int .u64 0) 1 underlying34 l q r .i64 .i64 n (by rw [s];omega) (by unfold maxLen;omega) aA;refine⟨w',j,?_,⟨f.os,f.tape,f.output,f.size,fun k o=>f.block k o (by simp)⟩⟩;rw [jN,show(Value.int IntKind.u64 0).cells = #[.int .u64 0] from rfl,toList_madeCells_one] at h;rw [List.map_replicate];exact h
theorem aWy {x k m:Nat} {ds:List Int} {c:Nat} (h:aJ ds+aK ^ m * c=x * 2 ^ (k % 64)) (f:ds.length=m):aJ (List.replicate (k / 64) 0++(ds ++ [(c:Int)]))=x * 2 ^ k:=by
 rw [eY,tR,List.length_replicate,dT,iV,f,h];have:2 ^ k=aK ^ (k / 64) * 2 ^ (k % 64):=by rw [<-xU,qT]
 rw [this,<-eU,<-eU,dK x]
theorem aMn (a:Option Addr) (n c x k:Nat) (w:World) (hx:bT cH.u64 S w a n (limbs x)) (hn:n<=1000000) (I:k<=1000000) :
  Calls prog 218 #[.slice a n c,.int .i64 k] w fun e w'=>uI (x * 2 ^ k) w e w':=by
 obtain ⟨bp,aE,av,al⟩:=aSb (k / 64) w (by omega);have ak:=Z hx;have X:=Z hx.1;have aM:=Z (aY x);have af:=Z av;have a3:=Z al;obtain ⟨s,aw⟩:∃s,s=k % 64:=⟨_,rfl⟩;obtain ⟨z,O⟩:∃z,z=k / 64:=⟨_,rfl⟩;have ax:s<64:=by omega
 have bk:Int.tdiv (k:Int) 64=(z:Nat):=by rw [aAp (by omega)];omega
 have bl:Int.tmod (k:Int) 64=(s:Nat):=by rw [aC8 (by omega)];omega
 have bm:IntKind.u64.wrap (s:Int)=s:=bO (by omega);have bn:min s 64=s:=by omega
 have bb:z<=15625:=by omega
 have a9:=Z (fun(m j:Nat) (ds:List Int) (h:aJ ds+aK ^ m * j=x * 2 ^ s) (aB:ds.length=m)=>show aJ (List.replicate z 0++(ds ++ [(j:Int)]))=x * 2 ^ k from by
  rw [aw] at h;rw [O];exact aWy h aB)
 have au:¬((k:Int)<0):=by omega
 have aX:decide ((k:Int)<0)=false:=aR au;rw [<-O] at aE af;generalize limbs x=xs at *;obtain ⟨V,N,Q,R,U⟩:=info_parts rV;clear hx av al aw O au;go_enter func218,ntmps218
 go_wp2
 go_loopw [9,11,12] (fun aS aQ ae wr=>∃(i j:Nat) (ds:List Int),i<=n/\aQ = .int .u64 j/\ae = .int .i64 i/\Hid (j<2 ^ s)/\Hid (ds.length=i)/\Hid (bY ds)/\Hid (aJ ds+aK ^ i * j=aJ (xs.take i) * 2 ^ s)/\Hid (wr.ownsRow w.heap.size 177 1 aS (z+i) ((List.replicate z 0++ds).map (Value.int .u64)))/\Hid (Below w.heap.size w wr)) (fun _ _ ae _=>n - (intOf ae).toNat)
 case atStart=>exact⟨0,0,[],aN,rfl,rfl,mA s,(by show([]:List Int).length=0;rfl),(fun x hx=>(by simp at hx):bY []),(by show aJ []+_=_;simp [iL]),(by rw [lZ];exact af.o),a3.o⟩
 case round=>
  obtain ⟨i,j,ds,aU,rfl,rfl,am,J,an,ap,H,q⟩:=hrel;have ba:=q.o.size;have a8:=Z (show j<aK from bG am.o (by rw [<-fV];exact pW (by decide) (gM ax)));by_cases aq:i<n
  case pos=>
   obtain ⟨E,Y,rfl,W,u1⟩:=((ak.o).below q.o aA).at64 (k:=i) (by rw [X.o];exact aq);have ah:=u1.cast;have aP:=Z u1.lt;have aZ:=Z (uK wr _ W);have a0:=Z (bU (l:=xs) (i:=i) (by rw [X.o];exact aq));rw [<-ah] at W;generalize (nth xs i).toNat=a2 at *;clear ah u1;have aV:(i:Int)<n:=by omega
   obtain ⟨bd,G,a1,bo,bf,bg,ab,bh,aa,bj,K,ad⟩:=aU6 a2 j s aP.o am.o ax;have ay:=Z (left_step ap.o J.o ad);have ao:=Z (an.o.snoc ab);have ag:=Z K;have ar:E<w.heap.size:=by
    have ai:=(ak.o.2 (by omega)).choose_spec;obtain ⟨be,M,aD,_⟩:=ai;injection M with M
    injection M with L ai _
    rw [L];exact aD
   have aO:=Z W;by_cases aG:0<s
   case pos=>
    have aH:(0:Int)<s:=by omega
    have bi:=aa aG;clear ad ab K aa
    go_wp2_with (at_builtin;refine wpList_append_own _ rfl _ _ 34 rfl w.heap.size 177 V (.int .u64 0) 1 8 underlying34 N Q R U rfl (by decide) _ _ _ rfl (H.o.alloc _) ⟨wr.heap.size,0,none⟩ 1 1 [.int .u64 (G:Nat)] rfl rfl ?m1 ?m2 ?m3 ?m4 ?m5 ?_)
    (try case m1=>intro z u f;match z,f with | 0,f=>simp at f;subst f;(simp [Addr.add]) <;> decide)
    case m2=>first | rfl | (intro u f;simp at f;subst f;rfl)
    case m3=>unfold maxLen;omega
    case m4=>omega
    case m5=>first | omega | (simp;omega)
    intro v' C v r _;have D:=Z (((q.o.alloc q.o.size _).grown r (by simp;omega) (fun k I=>(H.o.lt k I).1)));have A:=Z (show C.ownsRow w.heap.size 177 1 v' (z+(i+1)) ((List.replicate z 0++(ds ++ [(G:Int)])).map (Value.int .u64)) from by rw [<-nB];simpa using v);have bc:C.cell? ⟨E,Y+i,none⟩=some (.int .u64 a2):=by
     rw [sZ (w:=w) (a:=⟨E,Y+i,none⟩) (D.o.block E ar),<-sZ (w:=w) (w':=wr) (a:=⟨E,Y+i,none⟩) (q.o.block E ar)];exact aO.o
    clear v r;go_wp2
    go_roundw
    case rel=>exact⟨i+1,a1,ds ++ [(G:Int)],by omega,by first | rfl | go_num,by first | rfl | go_num,ag.o,(by show(ds++_).length=_;have:=J.o;simp;omega),ao.o,(by show aJ _+_=_;rw [a0.o];exact ay.o),A.o,D.o⟩
    case measure=>first | (simp [intOf];done) | (simp [intOf];omega)
   case neg=>
    have aH:¬((0:Int)<s):=by omega
    have aI:a1=0:=by
      have:s=0:=by omega
      subst this;simp at K;exact K
    subst aI;clear ad ab K aa
    go_wp2_with (at_builtin;refine wpList_append_own _ rfl _ _ 34 rfl w.heap.size 177 V (.int .u64 0) 1 8 underlying34 N Q R U rfl (by decide) _ _ _ rfl (H.o.alloc _) ⟨wr.heap.size,0,none⟩ 1 1 [.int .u64 (G:Nat)] rfl rfl ?m1 ?m2 ?m3 ?m4 ?m5 ?_)
    (try case m1=>intro z u f;match z,f with | 0,f=>simp at f;subst f;(simp [Addr.add]) <;> decide)
    case m2=>first | rfl | (intro u f;simp at f;subst f;rfl)
    case m3=>unfold maxLen;omega
    case m4=>omega
    case m5=>first | omega | (simp;omega)
    intro v' C v r _;have D:=Z (((q.o.alloc q.o.size _).grown r (by simp;omega) (fun k I=>(H.o.lt k I).1)));have A:=Z (show C.ownsRow w.heap.size 177 1 v' (z+(i+1)) ((List.replicate z 0++(ds ++ [(G:Int)])).map (Value.int .u64)) from by rw [<-nB];simpa using v);clear v r;go_wp2
    go_roundw
    case rel=>exact⟨i+1,0,ds ++ [(G:Int)],by omega,by first | rfl | go_num,by first | rfl | go_num,ag.o,(by show(ds++_).length=_;have:=J.o;simp;omega),ao.o,(by show aJ _+_=_;rw [a0.o];exact ay.o),A.o,D.o⟩
    case measure=>first | (simp [intOf];done) | (simp [intOf];omega)
  case neg=>
   obtain rfl:i=n:=by omega
   have aL:=Z (a9.o i j ds (by
    have L:=ap.o;rw [fL (by rw [X.o];exact aA),aM.o] at L;exact L) J.o)
   have aF:=Z (show bY (List.replicate z 0++(ds ++ [(j:Int)])) from(bY.zeros z).append (an.o.snoc a8.o));have aC:=Z (show(List.replicate z 0++(ds ++ [(j:Int)])).length=z+i+1 from by have:=J.o;simp;omega)
   go_wp2_with (at_builtin;refine wpList_append_own _ rfl _ _ 34 rfl w.heap.size 177 V (.int .u64 0) 1 8 underlying34 N Q R U rfl (by decide) _ _ _ rfl (H.o.alloc _) ⟨wr.heap.size,0,none⟩ 1 1 [.int .u64 (j:Nat)] rfl rfl ?z1 ?z2 ?z3 ?z4 ?z5 ?_)
   (try case z1=>intro z u f;match z,f with | 0,f=>simp at f;subst f;(simp [Addr.add]) <;> decide)
   case z2=>first | rfl | (intro u f;simp at f;subst f;rfl)
   case z3=>unfold maxLen;omega
   case z4=>omega
   case z5=>first | omega | (simp;omega)
   intro v' C v r _;have D:=Z (((q.o.alloc q.o.size _).grown r (by simp;omega) (fun k I=>(H.o.lt k I).1)));have A:=show C.ownsRow w.heap.size 177 1 v' (z+i+1) ((List.replicate z 0++(ds ++ [(j:Int)])).map (Value.int .u64)) from by simpa using v
   obtain ⟨a4,a5,rfl,a7⟩:=(aW.of A).slice;have az:=Z (nU a4 (z+i+1) a5 _ C ((aV4 A aF.o aC.o.symm).datF (n:=0) aN) (by omega) a7.1);rw [aL.o] at az;clear v r A
   go_wp2_with fail
   refine az.o.mono ?_;rintro e bq aj;have a6:=Z (aj.from D.o);obtain ⟨aT,c2,rfl,_⟩:=aj;go_wp2;go_ret;exact a6.o
end
theorem aJs (x y f:Nat) (hx:x<aK) (hy:y<aK) (j:f<=1):∃d h:Nat,(∀w,(callFunc 238 #[.int .u64 x,.int .u64 y,.int .u64 f]).run prog w = .ok (.value (.tuple #[.int .u64 d,.int .u64 h])) w)/\d<aK/\h<=1/\d+aK * h=x+y+f:=
 ⟨_,_,fun w=>aAz x y f j w,xV _,aDo hx hy j,aUy _⟩
theorem aF1 {ds:List Int} {i c x y j B d f:Nat} (h:aJ ds+aK ^ i * c=j+B) (q:ds.length=i) (l:d+aK * f=x+y+c):aJ (ds ++ [(d:Int)])+aK ^ (i+1) * f=j+aK ^ i * x+(B+aK ^ i * y):=by
 have o:aK ^ i * (d+aK * f)=aK ^ i * (x+y+c):=by rw [l]
 rw [cN,cN,cN,<-eU] at o;rw [iV,q,iF];omega
section
variable {S S' : Nat -> Prop}
theorem aJt (a b:Option Addr) (n m c d x y:Nat) (w:World) (hx:bT cH.u64 S w a n (limbs x)) (hy:bT cH.u64 S' w b m (limbs y)) (hn:n<=549755813888) (hm:m<=549755813888) :
  Calls prog 243 #[.slice a n c,.slice b m d] w fun e w'=>uI (x+y) w e w':=by
 have A:=Z (hx.mono (S':=fun _=>True) fun _ _ _=>trivial);have C:=Z (hy.mono (S':=fun _=>True) fun _ _ _=>trivial);clear hx hy;obtain ⟨s,H⟩:∃s,s=x+y:=⟨_,rfl⟩;have O:=Z H;rw [<-H];clear H;go_enter func243,ntmps243
 go_upto_if 14 with fail
 go_cut [0,1] from 10 to 16 (fun a8 a9 wc=>(∃(a b:Option Addr) (n m c d X Y:Nat),a8 = .slice a n c/\a9 = .slice b m d/\m<=n/\n<=549755813888/\Hid (X+Y=s)/\Hid (bT cH.u64 (fun _=>True) w a n (limbs X))/\Hid (bT cH.u64 (fun _=>True) w b m (limbs Y)))/\wc=w)
 case first=>
  by_cases h:n<m
  case pos=>
   have ax:(n:Int)<m:=by omega
   go_wp2;go_meet
   case rel=>exact⟨⟨b,a,m,n,d,c,y,x,rfl,rfl,by omega,hm,by show y+x=s;rw [O.o,oB],C.o,A.o⟩,rfl⟩
  case neg=>
   have ax:¬(n:Int)<m:=by omega
   go_wp2;go_meet
   case rel=>exact⟨⟨a,b,n,m,c,d,x,y,rfl,rfl,by omega,hn,by show x+y=s;rw [O.o],A.o,C.o⟩,rfl⟩
 clear A C hn hm O;clear x y a b n m c d;obtain ⟨⟨a,b,n,m,c,d,x,y,rfl,rfl,a1,hn,H,A,C⟩,rfl⟩:=hcut;obtain ⟨w,rfl⟩:∃w,w=wc:=⟨_,rfl⟩;obtain ⟨aI,a0,ai,ae,aj⟩:=nF (n+1) w.heap.size w (by omega) aA;rw [show((n+1:Nat):Int)=(n:Int)+1 by simp] at a0;have U:=Z A.o.1;have K:=Z C.o.1;have a3:=Z (aY x);have a4:=Z (aY y);have ap:=Z ai;have an:=Z ae;have aC:=Z aj;generalize limbs x=xs at *;generalize limbs y=ys at *;clear ai ae aj;go_wp2
 go_loopw [6,23] (fun aB W wr=>∃(i k q:Nat) (ds:List Int),i+k=n/\aB = .int .u64 q/\W = .int .i64 i/\q<=1/\Hid (ds.length=i)/\Hid (aJ ds+aK ^ i * q=aJ (xs.take i)+aJ (ys.take i))/\Hid (iO wr w.heap.size w.heap.size (n+1) (ds++List.replicate (k+1) 0))/\Hid (Below w.heap.size w wr)) (fun _ W _=>n - (intOf W).toNat)
 case atStart=>exact⟨0,n,0,[],by omega,rfl,rfl,by omega,(by show([]:List Int).length=0;rfl),(by show aJ []+_=_;simp [iL]),ap.o,an.o⟩
 case round=>
  obtain ⟨i,k,q,ds,aE,rfl,rfl,af,r,N,z,E⟩:=hrel;by_cases az:k=0
  case pos=>
   subst az;obtain rfl:i=n:=by omega
   have ay:¬(i:Int)<i:=by omega
   have y0:=z.o.cell (j:=i) (by omega);have au:=z.o.frz i;have f:=z.o.set (j:=i) (x:=(q:Nat)) (gJ (by unfold aK;omega));rw [nS _ r.o,List.replicate_zero,lZ] at f;have a2:=Z (show aJ (ds ++ [(q:Int)])=s from by
    have ad:=N.o;rw [fL (by rw [U.o];exact aA),fL (by rw [K.o];exact a1),a3.o,a4.o,H.o] at ad;rw [iV,r.o,ad])
   have D:=Z (E.o.setCell (p:=⟨w.heap.size,i,none⟩) aA (.int .u64 (q:Nat)));have R:=Z (gY (some ⟨w.heap.size,0,none⟩) (i+1) (i+1) _ _ f.datF (by omega) aA (by unfold maxLen;omega));rw [a2.o] at R;clear f
   go_wp2_with fail
   refine R.o.mono ?_;rintro e aL ⟨aq,ar,rfl,I,av,aw,_,rfl⟩;have ao:=Z I;clear I R;go_wp2;go_ret;exact⟨aq,ar,rfl,ao.o,av,aw,D.o⟩
  case neg=>
   obtain ⟨k',rfl⟩:∃k',k=k'+1:=⟨k - 1,by omega⟩;obtain ⟨aD,aG,rfl,a5,u1⟩:=((A.o).below E.o aA).at64 (k:=i) (by rw [U.o];omega);have aa:=u1.cast;have ak:=Z u1.lt;have al:=Z (bU (l:=xs) (i:=i) (by rw [U.o];omega));rw [<-aa] at a5;generalize (nth xs i).toNat=am at *;clear aa u1;have ay:(i:Int)<n:=by omega
   have y0:=z.o.cell (j:=i) (by omega);have au:=z.o.frz i;by_cases ag:i<m
   case pos=>
    obtain ⟨b2,aH,rfl,a6,u2⟩:=((C.o).below E.o aA).at64 (k:=i) (by rw [K.o];exact ag);have ab:=u2.cast;have a7:=Z u2.lt;have V:=Z (bU (l:=ys) (i:=i) (by rw [K.o];exact ag));rw [<-ab] at a6;generalize (nth ys i).toNat=y1 at *;clear ab u2;have ah:(i:Int)<m:=by omega
    obtain ⟨v,c1,I,G,M,J⟩:=aJs am y1 q ak.o a7.o af;have Q:=Z (aF1 N.o r.o J);have f:=z.o.set (j:=i) (x:=(v:Nat)) (gJ G);rw [nS _ r.o] at f;have L:=Z f;have D:=Z (E.o.setCell (p:=⟨w.heap.size,i,none⟩) aA (.int .u64 (v:Nat)));clear J G f;go_wp2
    go_roundw
    case rel=>exact⟨i+1,k',c1,ds ++ [(v:Int)],by omega,rfl,by go_num,M,(by show(ds++_).length=_;have:=r.o;simp;omega),(by show aJ _+_=_;rw [al.o,V.o];exact Q.o),L.o,D.o⟩
    case measure=>first | (simp [intOf];done) | (simp [intOf];omega)
   case neg=>
    have V:=Z (aHy (l:=ys) (i:=i) (by rw [K.o];omega));have ah:¬((i:Int)<m):=by omega
    have aF:decide ((i:Int)<m)=false:=by simpa using ah
    obtain ⟨v,c1,I,G,M,J⟩:=aJs am 0 q ak.o (by decide) af;have Q:=Z (aF1 N.o r.o J);rw [show(((0:Nat):Int))=0 from rfl] at I;have f:=z.o.set (j:=i) (x:=(v:Nat)) (gJ G);rw [nS _ r.o] at f;have L:=Z f;have D:=Z (E.o.setCell (p:=⟨w.heap.size,i,none⟩) aA (.int .u64 (v:Nat)));clear J G f;go_wp2
    go_roundw
    case rel=>exact⟨i+1,k',c1,ds ++ [(v:Int)],by omega,rfl,by go_num,M,(by show(ds++_).length=_;have:=r.o;simp;omega),(by show aJ _+_=_;rw [al.o,V.o];exact Q.o),L.o,D.o⟩
    case measure=>first | (simp [intOf];done) | (simp [intOf];omega)
theorem aAa (a b:Option Addr) (n m c d x y:Nat) (w:World) (hx:bT cH.u64 S w a n (limbs x)) (hy:bT cH.u64 S' w b m (limbs y)) (hn:n<=549755813888) (L:y<=x) :
  Calls prog 244 #[.slice a n c,.slice b m d] w fun e w'=>uI (x - y) w e w':=by
 have Y:=Z hx;have aa:=Z hy;have ax:m<=n:=by rw [<-hx.1,<-hy.1];exact iG L
 have aw:=Z L;obtain ⟨aE,aB,ag,ab,ah⟩:=nF n w.heap.size w (by omega) aA;have O:=Z Y.o.1;have D:=Z aa.o.1;have az:=Z (aY x);have a0:=Z (aY y);have an:=Z ag;have al:=Z ab;have a5:=Z ah;generalize limbs x=xs at *;generalize limbs y=ys at *;clear ag ab ah hx hy L;go_enter func244,ntmps244
 go_wp2
 go_loopw [6,15] (fun a4 R wr=>∃(i k s:Nat) (ds:List Int),i+k=n/\a4 = .int .u64 s/\R = .int .i64 i/\s<=1/\Hid (ds.length=i)/\Hid (bY ds)/\Hid (aJ ds+aJ (ys.take i)=aJ (xs.take i)+aK ^ i * s)/\Hid (iO wr w.heap.size w.heap.size n (ds++List.replicate k 0))/\Hid (Below w.heap.size w wr)) (fun _ R _=>n - (intOf R).toNat)
 case atStart=>exact⟨0,n,0,[],by omega,rfl,rfl,by omega,(by show([]:List Int).length=0;rfl),(fun x hx=>(by simp at hx):bY []),(by show aJ []+_=_;simp [iL]),an.o,al.o⟩
 case round=>
  obtain ⟨i,k,s,ds,a8,rfl,rfl,ad,q,I,K,z,v⟩:=hrel;by_cases av:k=0
  case pos=>
   subst av;obtain rfl:i=n:=by omega
   have au:¬(i:Int)<i:=by omega
   have f:=z.o;rw [List.replicate_zero,lZ] at f;have ay:=Z (show aJ ds=x - y from by
    have W:=K.o;rw [fL (l:=xs) (by rw [O.o];exact aA),fL (l:=ys) (by rw [D.o];exact ax),az.o,a0.o] at W;have X:=iC I.o;rw [q.o] at X;exact aOr W X aw.o)
   have N:=Z (gY (some ⟨w.heap.size,0,none⟩) i i _ wr f.datF (by omega) aA (by unfold maxLen;omega));rw [ay.o] at N;clear f
   go_wp2_with fail
   refine N.o.mono ?_;rintro e aF ⟨ao,ap,rfl,A,aq,ar,_,rfl⟩;have am:=Z A;clear A N;go_wp2;go_ret;exact⟨ao,ap,rfl,am.o,aq,ar,v.o⟩
  case neg=>
   obtain ⟨k',rfl⟩:∃k',k=k'+1:=⟨k - 1,by omega⟩;obtain ⟨a6,aC,rfl,a1,u1⟩:=((Y.o).below v.o aA).at64 (k:=i) (by rw [O.o];omega);have U:=u1.cast;have ai:=Z u1.lt;have aj:=Z (bU (l:=xs) (i:=i) (by rw [O.o];omega));rw [<-U] at a1;generalize (nth xs i).toNat=ak at *;clear U u1;have au:(i:Int)<n:=by omega
   have y0:=z.o.cell (j:=i) (by omega);have a7:=z.o.frz i;by_cases ae:i<m
   case pos=>
    obtain ⟨b2,aD,rfl,a2,u2⟩:=((aa.o).below v.o aA).at64 (k:=i) (by rw [D.o];exact ae);have V:=u2.cast;have a3:=Z u2.lt;have Q:=Z (bU (l:=ys) (i:=i) (by rw [D.o];exact ae));rw [<-V] at a2;generalize (nth ys i).toNat=y1 at *;clear V u2;have af:(i:Int)<m:=by omega
    obtain ⟨h,c1,A,r,H,C⟩:=sG ak y1 s ai.o a3.o ad;have M:=Z (vZ K.o q.o C);have J:=Z (I.o.snoc r);have f:=z.o.set (j:=i) (x:=(h:Nat)) (gJ r);rw [nS _ q.o] at f;have G:=Z f;have E:=Z (v.o.setCell (p:=⟨w.heap.size,i,none⟩) aA (.int .u64 (h:Nat)));clear C r f;go_wp2
    go_roundw
    case rel=>exact⟨i+1,k',c1,ds ++ [(h:Int)],by omega,rfl,by go_num,H,(by show(ds++_).length=_;have:=q.o;simp;omega),J.o,(by show aJ _+_=_;rw [aj.o,Q.o];exact M.o),G.o,E.o⟩
    case measure=>first | (simp [intOf];done) | (simp [intOf];omega)
   case neg=>
    have Q:=Z (aHy (l:=ys) (i:=i) (by rw [D.o];omega));have af:¬((i:Int)<m):=by omega
    have a9:decide ((i:Int)<m)=false:=by simpa using af
    obtain ⟨h,c1,A,r,H,C⟩:=sG ak 0 s ai.o (by decide) ad;have M:=Z (vZ K.o q.o C);have J:=Z (I.o.snoc r);rw [show(((0:Nat):Int))=0 from rfl] at A;have f:=z.o.set (j:=i) (x:=(h:Nat)) (gJ r);rw [nS _ q.o] at f;have G:=Z f;have E:=Z (v.o.setCell (p:=⟨w.heap.size,i,none⟩) aA (.int .u64 (h:Nat)));clear C r f;go_wp2
    go_roundw
    case rel=>exact⟨i+1,k',c1,ds ++ [(h:Int)],by omega,rfl,by go_num,H,(by show(ds++_).length=_;have:=q.o;simp;omega),J.o,(by show aJ _+_=_;rw [aj.o,Q.o];exact M.o),G.o,E.o⟩
    case measure=>first | (simp [intOf];done) | (simp [intOf];omega)
end
theorem aSc (y k h o:Nat) (hy:y<aK) (v:k<aK) (s:h<aK) (A:o<aK):∃f j l c1 r d c2 q:Nat,(∀w,Calls prog 237 #[.int .u64 y,.int .u64 k] w fun e w'=>e = .returned (.tuple #[.int .u64 f,.int .u64 j])/\w'=w) /\
  (∀w,(callFunc 238 #[.int .u64 j,.int .u64 h,.int .u64 0]).run prog w = .ok (.value (.tuple #[.int .u64 l,.int .u64 c1])) w)/\IntKind.u64.wrap ((f:Int)+c1)=(r:Nat) /\
  (∀w,(callFunc 238 #[.int .u64 o,.int .u64 l,.int .u64 0]).run prog w = .ok (.value (.tuple #[.int .u64 d,.int .u64 c2])) w)/\IntKind.u64.wrap ((r:Int)+c2)=(q:Nat)/\d<aK/\q<aK/\d+aK * q=y * k+h+o:=by
 obtain ⟨f,j,l,c1,hm,D,C,E,J,I⟩:=aJj y k h hy v s;have H:hiW (o+l)<=1:=by have:=aDo (c:=0) A C (by omega);exact this
 have hd:=aUy (o+l);have G:=aFo hy v s A;have z:f+c1+hiW (o+l)<aK:=by
  apply yK (a:=aK);rw [cN];have:=xV (o+l);omega
 refine⟨f,j,l,c1,f+c1,loW (o+l),hiW (o+l),f+c1+hiW (o+l),hm,D,E,fun w=>xW o l w,?_,xV _,z,?_⟩
 ·rw [show(((f+c1:Nat):Int)+(hiW (o+l):Nat))=((f+c1+hiW (o+l):Nat):Int) by simp];exact bO z
 ·rw [cN];omega
theorem aU7 (g o n N c m base k:Nat) (pre win post ys:List Int) (b:Option Addr) (w:World) (D:iO w base g N (pre++(win++post))) (ad:pre.length=o) (ag:win.length=n+1)
  (hy:bT cH.u64 (fun k=>k≠g) w b n ys) (ai:bY ys) (hn:n<=1099511627776) (a2:n+1<=c) (aa:k<aK) (ab:aJ win+aJ ys * k<aK ^ (n+1)) :
  Calls prog 245 #[.slice (some ⟨g,o,none⟩) (n+1:Nat) c,.slice b n m,.int .u64 k] w fun e w'=>
   e = .returned (.tuple #[])/\∃ds:List Int,ds.length=n+1/\aJ ds=aJ win+aJ ys * k/\iO w' base g N (pre++(ds++post))/\zU g w w':=by
 have al:=Z D;have am:=Z hy;have K:=Z hy.1;have aB:=Z ai;have E:=Z ad;have h:=Z ag;have ar:=Z aa;have av:=Z ab;have ah:=Z (show bY win from fun x hx=>D.2.2.1 x (by simp [hx]));have R:=Z (show o+n+1<=N from by have:=D.1;simp at this;omega);clear D hy ai ad ag aa ab;go_enter func245,ntmps245
 go_wp2
 go_loopw [6,14] (fun a0 M wr=>∃(i f:Nat) (ds:List Int),i<=n/\a0 = .int .u64 f/\M = .int .i64 i/\Hid (f<aK)/\Hid (ds.length=i)/\Hid (aJ ds+aK ^ i * f=aJ (win.take i)+aJ (ys.take i) * k)/\Hid (iO wr base g N (pre++((ds++win.drop i)++post)))/\Hid (zU g w wr)) (fun _ M _=>n - (intOf M).toNat)
 case atStart=>exact⟨0,0,[],aN,rfl,rfl,(by show 0<aK;decide),(by show([]:List Int).length=0;rfl),(by show aJ []+_=_;simp [iL]),(by have:=al.o;rw [iE,cW];exact this),zU.refl _ _⟩
 case round=>
  obtain ⟨i,f,ds,a3,rfl,rfl,an,q,W,s,I⟩:=hrel;by_cases Y:i<n
  case pos=>
   obtain ⟨a1,aE,rfl,ax,u1⟩:=((I.o).rd (am.o)).at64 (k:=i) (by rw [K.o];exact Y);have y0:=s.o.cell (j:=o+i) (by have:=R.o;omega);have ak:=s.o.frz (o+i);rw [tS E.o q.o (by rw [h.o];omega)] at y0;have r:=ah.o.nth (i:=i) (by rw [h.o];omega);have v:=r.cast;have O:=u1.cast;have aj:=Z r.lt;have ay:=Z u1.lt;have L:=Z (bU (l:=win) (i:=i) (by rw [h.o];omega));have az:=Z (bU (l:=ys) (i:=i) (by rw [K.o];exact Y));rw [<-v] at y0;rw [<-O] at ax;generalize (nth win i).toNat=x at *;generalize (nth ys i).toNat=y at *;clear v O r u1;obtain ⟨aC,aD,l,c1,Q,d,c2,A,hm,a5,a8,a6,a9,U,X,ae⟩:=aSc y k f x ay.o ar.o an.o aj.o;have au:=Z hm;have ao:=Z U;have aq:=Z X;have aw:=Z (row_step W.o q.o ae);have H:=Z (s.o.set (j:=o+i) (x:=(d:Nat)) (gJ ao.o));have G:=Z (I.o.setCell (o+i) (.int .u64 (d:Nat)));have a4:(i:Int)<n:=by omega
   clear ae hm U X
   go_wp2_with fail
   refine(au.o _).mono ?_;rintro e aF ⟨rfl,rfl⟩;go_wp2
   go_roundw
   case rel=>
    refine⟨i+1,A,ds ++ [(d:Int)],by omega,by go_num,by go_num,aq.o,(by show(ds++_).length=_;have:=q.o;simp;omega),(by
     show aJ _+_=_;rw [L.o,az.o];exact aw.o),?_,G.o⟩
    have:=H.o;rw [vY _ E.o q.o (by rw [h.o];omega)] at this;exact this
   case measure=>first | (simp [intOf];done) | (simp [intOf];omega)
  case neg=>
   obtain rfl:i=n:=by omega
   have y0:=s.o.cell (j:=o+i) (by have:=R.o;omega);have ak:=s.o.frz (o+i);rw [tS E.o q.o (by rw [h.o];omega)] at y0;have r:=ah.o.nth (i:=i) (by rw [h.o];omega);have v:=r.cast;have aj:=Z r.lt;have L:=Z (bU (l:=win) (i:=i) (by rw [h.o];omega));rw [<-v] at y0;generalize (nth win i).toNat=x at *;clear v r;have V:=Z (show aJ ds+aK ^ i * f=aJ (win.take i)+aJ ys * k from by
    have A:=W.o
    rwa [fL (l:=ys) (by rw [K.o];exact aA)] at A)
   have af:=Z (show aJ win=aJ (win.take i)+aK ^ i * x from by
    have C:=L.o
    rwa [fL (by rw [h.o];exact aA)] at C)
   have J:x+f<aK:=by
    apply yK (a:=aK ^ i);have Q:=av.o;have A:=V.o;have C:=af.o;rw [iF] at Q;rw [cN];omega
   have a7:IntKind.u64.wrap ((x:Int)+f)=((x+f:Nat):Int):=by
    rw [show((x:Int)+f)=((x+f:Nat):Int) by simp];exact bO J
   have H:=Z (s.o.set (j:=o+i) (x:=((x+f:Nat):Int)) (gJ J));have G:=Z (I.o.setCell (o+i) (.int .u64 ((x+f:Nat):Int)));have ap:=Z (show aJ (ds ++ [((x+f:Nat):Int)])=aJ win+aJ ys * k from by
    have A:=V.o;have C:=af.o;rw [iV,q.o,C,cN];omega)
   clear J;generalize x+f=z at *;go_wp2;go_end0;refine⟨rfl,ds ++ [(z:Int)],(by have:=q.o;simp;omega),ap.o,?_,G.o⟩;have:=H.o;rw [vY _ E.o q.o (by rw [h.o];omega),pU (by rw [h.o];exact aA),lZ] at this;exact this
theorem aSd {P W v X k:Nat} (o:v<P) (j:X<P) (l:k<W):v+X * k<P * W:=by
 obtain ⟨p,rfl⟩:∃p,P=p+1:=⟨P - 1,by omega⟩;obtain ⟨q,rfl⟩:∃q,W=q+1:=⟨W - 1,by omega⟩;have f:X * k<=p * q:=zD (by omega) (by omega);have h:(p+1) * (q+1)=p * q+p+q+1:=by rw [fC,cN,jN,mC];omega
 omega
structure TmI (X n:Nat) (ys:List Int) (i:Nat) (cur:List Int):Prop where
 ok:bY cur
 v:aJ cur=X * aJ (ys.take i)
theorem TmI.room {X n i:Nat} {ys pre win post:List Int} (h:TmI X n ys i (pre++(win++post))) (j:X<aK ^ n) (hy:bY ys) (r:pre.length=i) (s:i<ys.length) {k:Nat} (q:k<aK):aJ win+X * k<aK ^ (n+1):=by
 have f:aJ (pre++(win++post))<aK ^ (n+i):=by
  rw [h.v];refine aDp j ?_;have:=iC (l:=ys.take i) fun x hx=>hy x (sY hx)
  rwa [eS,pZ (by omega)] at this
 rw [eY,eY,r] at f;have o:aJ win<aK ^ n:=by
  apply yK (a:=aK ^ i);rw [cN] at f;rw [<-jT,oB i n];omega
 rw [iF];exact aSd o j q
theorem TmI.next {X n i k:Nat} {ys pre win post ds:List Int} (h:TmI X n ys i (pre++(win++post))) (j:pre.length=i) (l:i<ys.length) (o:(nth ys i).toNat=k) (q:ds.length=win.length) (hd:aJ ds=aJ win+X * k) (r:bY (pre++(ds++post))):TmI X n ys (i+1) (pre++(ds++post)):=by
 refine⟨r,?_⟩;have f:=h.v;rw [eY,eY,j] at f;rw [eY,eY,j,q,hd,bU l,o,cN X,<-f];rw [cN,cN,cN,<-eU X,dK X (aK ^ i),eU];omega
section
variable {S S' : Nat -> Prop}
theorem lQ (a b:Option Addr) (n m c d x y:Nat) (w:World) (hx:bT cH.u64 S w a n (limbs x)) (hy:bT cH.u64 S' w b m (limbs y)) (hn:n<=274877906944) (hm:m<=274877906944) :
  Calls prog 216 #[.slice a n c,.slice b m d] w fun e w'=>uI (x * y) w e w':=by
 have K:=Z hx;have L:=Z hy;obtain ⟨a9,ar,U,M,Y⟩:=nF (n+m+1) w.heap.size w (by omega) aA;rw [show((n+m+1:Nat):Int)=(n:Int)+m+1 by simp] at ar;have a4:=Z K.o.1;have G:=Z L.o.1;have ab:=Z (aY x);have ay:=Z (aY y);have a0:=Z (show x<aK ^ n from by have:=iC (eO x);rwa [aY,a4.o] at this);have a1:=Z (eO x);have a2:=Z (eO y);have ah:=Z U;have ae:=Z M;have a6:=Z Y;generalize limbs x=xs at *;generalize limbs y=ys at *;clear U M Y hx hy;go_enter func216,ntmps216
 go_wp2
 go_loopw [17] (fun H wr=>∃(i:Nat) (cur:List Int),i<=m/\H = .int .i64 i/\Hid (TmI x n ys i cur)/\Hid (iO wr w.heap.size w.heap.size (n+m+1) cur)/\Hid (Below w.heap.size w wr)) (fun H _=>m - (intOf H).toNat)
 case atStart=>exact⟨0,_,aN,rfl,⟨bY.zeros _,by rw [tR];simp [iL]⟩,ah.o,ae.o⟩
 case round=>
  obtain ⟨i,cur,a7,rfl,z,r,f⟩:=hrel;by_cases R:i<m
  case neg=>
   obtain rfl:i=m:=by omega
   have ap:¬(i:Int)<i:=by omega
   have ax:=Z (show aJ cur=x * y from by
    have am:=z.o.v
    rwa [fL (by rw [G.o];exact aA),ay.o] at am)
   have A:=Z (gY (some ⟨w.heap.size,0,none⟩) (n+i+1) (n+i+1) _ wr r.o.datF (by omega) aA (by unfold maxLen;omega));rw [ax.o] at A
   go_wp2_with fail
   refine A.o.mono ?_;rintro e a5 ⟨ak,al,rfl,aa,an,ao,_,rfl⟩;have ag:=Z aa;clear aa A;go_wp2;go_ret;exact⟨ak,al,rfl,ag.o,an,ao,f.o⟩
  case pos=>
   have ap:(i:Int)<m:=by omega
   obtain ⟨b2,a8,rfl,a3,u2⟩:=((L.o).below f.o aA).at64 (k:=i) (by rw [G.o];exact R);have I:=u2.cast;have E:=Z u2.lt;have ad:=Z (show i<ys.length from by rw [G.o];exact R);obtain ⟨D,j⟩:∃D,(nth ys i).toNat=D:=⟨_,rfl⟩;have aq:=Z j;rw [<-I,j] at a3;rw [j] at E;clear I u2 j;obtain ⟨pre,win,post,rfl,q,C⟩:=aOo (xs:=cur) (i:=i) (l:=n+1) (by have:=r.o.1;omega);have av:=Z (z.o.room a0.o a2.o q ad.o E.o);have V:=aU7 w.heap.size i n (n+m+1) (n+m+1 - i) c w.heap.size D pre win post xs a wr r.o q C ((K.o.mono (S':=fun k=>k≠w.heap.size) fun _ h _=>aCx h).below f.o aA) a1.o (by omega) (by omega) E.o (by rw [ab.o];exact av.o);have aw:=fun W=>aOn (g:=w.heap.size) (N:=n+m+1) (i:=i) (n:=n) (by omega) (by omega) W
   rw [show((i+n+1:Nat):Int)=(i:Int)+n+1 by simp] at aw;have X:=Z V;have au:=Z q;have az:=Z C;clear V q C
   go_wp2_with fail
   refine X.o.mono ?_;rintro e a5 ⟨rfl,ds,O,Q,s,J⟩;have ai:=Z s;have af:=Z (f.o.trans J.below);have aj:=Z (z.o.next au.o ad.o aq.o (by rw [O,az.o]) (by rw [Q,ab.o]) s.2.2.1);clear s J O Q X;go_wp2
   go_roundw
   case rel=>exact⟨i+1,_,by omega,by go_num,aj.o,ai.o,af.o⟩
   case measure=>first | (simp [intOf];done) | (simp [intOf];omega)
end
end Go.Proofs.YtgoojkiccdjplaaGreatDoor
