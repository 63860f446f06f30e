/-
  Parts of this claim's texts, one behind the other: ZC ZD ZE EC ED EE EF FA EG EH EI FB. No condition.
-/
import Derived.Test.YtgoojkiccdjplaaGreatDoorQ3
import Derived.Test.YtgoojkiccdjplaaGreatDoorQ2
set_option linter.unusedVariables false
set_option linter.unusedSimpArgs false
set_option maxRecDepth 100000
set_option maxHeartbeats 16000000
namespace Go.Proofs.YtgoojkiccdjplaaGreatDoor
open Go.RowKit Go.Sort Go.Lib Go.Proofs.Tryz
theorem aXn {w:World} {g:Nat} {m:Int} {f:Nat × Nat} (h:w.heap[g]? = some (.cells #[.int .u64 m] 177 f)) (l:okU m):bT cH.u64 (fun _=>True) w (some ⟨g,0,none⟩) 1 [m]:=by
 refine⟨rfl,fun _=>⟨g,0,rfl,(bH h).1,trivial,fun j x k=>?_⟩⟩
 match j,k with
 |
  0,k=>
  simp at k;subst k;refine⟨[.int .u64 m],⟨rfl,l⟩,fun i u e=>?_⟩
  match i,e with
  | 0,e=>simp at e;subst e;exact E h 0
section
variable {S S' : Nat -> Prop}
def dP (r:cJ) (w:World) (e:Ending) (w':World):Prop:=∃a c b d,e = .returned (fA r a c b d)/\bT cH.u64 (fH w.heap.size w') w' a r.num.length r.num/\bT cH.u64 (fH w.heap.size w') w' b r.den.length r.den/\(r.num.length<=c/\c<=maxLen)/\(r.den.length<=d/\d<=maxLen)/\Below w.heap.size w w'
abbrev setL (p:Nat) (l:List (Nat × Value)) (W:World):World:=l.foldl (fun W iv=>W.setCell ⟨p,iv.1,none⟩ iv.2) W
theorem dQ {p:Nat} {t:TypeId} (g:t≠3) (i:t≠177):∀(l:List (Nat × Value)) (W:World) (cs:Array Value),W.heap[p]? = some (.cells cs t (0,0)) ->
  (∀k,dU W k->(setL p l W).heap[k]? = W.heap[k]?)/\(setL p l W).heap.size=W.heap.size/\∀(B:Nat) (w:World),B<=p->Below B w W->Below B w (setL p l W)
 | [],W,_,_=>⟨fun _ _=>rfl,rfl,fun _ _ _ h=>h⟩
 |
  iv :: l,W,cs,hp=>by
  have m:(W.setCell ⟨p,iv.1,none⟩ iv.2).heap[p]? = some (.cells (cs.setIfInBounds iv.1 iv.2) t (0,0)):=by
   unfold World.setCell;rw [iN,if_pos rfl,hp];rfl
  have f:∀k,dU W k->(W.setCell ⟨p,iv.1,none⟩ iv.2).heap[k]? = W.heap[k]?:=fun k f=>dZ _ _ _ _ (fun e=>by subst e;exact dU.ne f g i ⟨_,_,hp⟩)
  obtain ⟨n,o,q⟩:=dQ g i l _ _ m;exact⟨fun k h=>(n k (h.same (f k h))).trans (f k h),o.trans eX,fun B w j h=>q B w j (h.setCell j _)⟩
theorem dP.set {r:cJ} {w W:World} {p:Nat} {cs:Array Value} {t:TypeId} {a b:Option Addr} {c d:Nat} (g:t≠3) (h:t≠177) (n:W.heap[p]? = some (.cells cs t (0,0))) (o:w.heap.size<=p)
  (m:bT cH.u64 (fH w.heap.size W) W a r.num.length r.num) (hd:bT cH.u64 (fH w.heap.size W) W b r.den.length r.den) (j:r.num.length<=c/\c<=maxLen) (k:r.den.length<=d/\d<=maxLen) (i:Below w.heap.size w W) (l:List (Nat × Value)):dP r w (.returned (fA r a c b d)) (setL p l W):=by
 obtain ⟨e,f,q⟩:=dQ g h l W cs n;exact⟨a,c,b,d,rfl,m.move e (cD f.symm),hd.move e (cD f.symm),j,k,q _ _ o i⟩
end
abbrev mX (ng:Bool) (a:Option Addr) (n c:Nat):Value:=.agg #[.bool ng,.slice a n c]
theorem aAb (neg:Bool) (a:Option Addr) (n c:Nat) (w:World):Calls prog 242 #[.bool neg,.slice a n c] w fun e w'=>e = .returned (mX (neg && decide (0<n)) a n c)/\Below w.heap.size w w':=by
 cases neg
 case false=>
  go_enter func242,ntmps242
  go_wp2;refine bodyPost_ret (v:=mX false a n c) (by simp [results,results242,go_sem, *]) rfl ?_;exact⟨rfl,bJ⟩
 case true=>
  by_cases f:0<n
  case pos=>
   have h:(0:Int)<n:=by omega
   have hd:decide ((0:Int)<n)=true:=bV h;have g:=Z (show(true && decide (0<n))=true from by rw [bV f];rfl);rw [g.o];go_enter func242,ntmps242
   go_wp2;refine bodyPost_ret (v:=mX true a n c) (by simp [results,results242,go_sem, *]) rfl ?_;exact⟨rfl,bJ⟩
  case neg=>
   obtain rfl:n=0:=by omega
   clear f;go_enter func242,ntmps242
   go_wp2;refine bodyPost_ret (v:=mX false a 0 c) (by simp [results,results242,go_sem, *]) rfl ?_;exact⟨rfl,bJ⟩
theorem oJ {z:Nat}:decide (0<(limbs z).length)=decide (0<z):=by
 by_cases h:0<z
 ·rw [bV h,bV (bK.2 h)]
 ·rw [aR h,aR fun e=>h (bK.1 e)]
def ZP (z:ZD) (w:World) (e:Ending) (w':World):Prop:=∃a c,e = .returned (mX z.neg a (limbs z.n).length c)/\bT cH.u64 (fH w.heap.size w') w' a (limbs z.n).length (limbs z.n)/\((limbs z.n).length<=c/\c<=maxLen)/\Below w.heap.size w w'
theorem IntPost2.set {z:ZD} {w W:World} {p:Nat} {cs:Array Value} {t:TypeId} {a:Option Addr} {c:Nat} (e:t≠3) (f:t≠177) (j:W.heap[p]? = some (.cells cs t (0,0))) (k:w.heap.size<=p)
  (i:bT cH.u64 (fH w.heap.size W) W a (limbs z.n).length (limbs z.n)) (h:(limbs z.n).length<=c/\c<=maxLen) (g:Below w.heap.size w W) (l:List (Nat × Value)):ZP z w (.returned (mX z.neg a (limbs z.n).length c)) (setL p l W):=by
 obtain ⟨m,o,q⟩:=dQ e f l W cs j;exact⟨a,c,rfl,i.move m (cD o.symm),h,q _ _ k g⟩
theorem uY (w:World) (a b c:Obj):(((w.alloc a).alloc b).alloc c).heap[w.heap.size]? = some a:=(fB _ _ _ (by simp <;> omega)).trans (fI w a b)
theorem uZ (w:World) (a b c:Obj):(((w.alloc a).alloc b).alloc c).heap[w.heap.size+1]? = some b:=(fB _ _ _ (by simp <;> omega)).trans (eV w a b)
theorem aA0 (w:World) (a b c:Obj):(((w.alloc a).alloc b).alloc c).heap[w.heap.size+1+1]? = some c:=by
 have:=cC ((w.alloc a).alloc b) c
 simpa using this
theorem vA (w:World) (a b c:Obj):Below w.heap.size w (((w.alloc a).alloc b).alloc c):=(cV w a b).alloc (cV w a b).size c
section
variable {S S' : Nat -> Prop}
theorem tW (s t:Bool) (a b:Option Addr) (n m c d x y:Nat) (w:World) (I:bT cH.u64 S w a n (limbs x)) (hy:bT cH.u64 S' w b m (limbs y)) (Q:n<=274877906944) (P:m<=274877906944) :
  Calls prog 211 #[mX s a n c,mX t b m d] w fun e w'=>ZP (aU ⟨s,x⟩ ⟨t,y⟩) w e w':=by
 have M:=Z (aA0 w (.cells #[.bool s,.slice a n c] 160) (.cells #[.bool t,.slice b m d] 160) (.cells #[.bool false,.slice none 0 0] 160));have C:=uY w (.cells #[.bool s,.slice a n c] 160) (.cells #[.bool t,.slice b m d] 160) (.cells #[.bool false,.slice none 0 0] 160);have D:=uZ w (.cells #[.bool s,.slice a n c] 160) (.cells #[.bool t,.slice b m d] 160) (.cells #[.bool false,.slice none 0 0] 160);have i:=Z (vA w (.cells #[.bool s,.slice a n c] 160) (.cells #[.bool t,.slice b m d] 160) (.cells #[.bool false,.slice none 0 0] 160));have R:=Z i.o.size;generalize U:((w.alloc (.cells #[.bool s,.slice a n c] 160)).alloc (.cells #[.bool t,.slice b m d] 160)).alloc (.cells #[.bool false,.slice none 0 0] 160)=w0 at *;have T:=Z (fun W (G:Below w0.heap.size w0 W)=>lQ a b n m c d x y W (I.below (aG i G) aA) (hy.below (aG i G) aA) Q P);have Y:w0.cell? ⟨w.heap.size,0,none⟩=some (.bool s):=E C 0;have aa:w0.cell? ⟨w.heap.size,1,none⟩=some (.slice a n c):=E C 1;have ab:w0.cell? ⟨w.heap.size+1,0,none⟩=some (.bool t):=E D 0;have ad:w0.cell? ⟨w.heap.size+1,1,none⟩=some (.slice b m d):=E D 1;clear C D I hy;go_enter func211,ntmps211
 go_wp2;clear U;refine bF (S:=fun W=>Below w0.heap.size w0 W) 11 (by kernel_rfl) (by kernel_rfl) (aF w0) (fun _=>?_);refine aE 0 ?_;refine dF 1 (fun W h=>aB h Y) ?_;refine aE 2 ?_;refine dF 3 (fun W h=>aB h ab) ?_;refine aE 4 ?_;refine aE 5 ?_;refine dF 6 (fun W h=>aB h aa) ?_;refine aE 7 ?_;refine dF 8 (fun W h=>aB h ad) ?_;refine aV 9 fun q f=>?_;go_simp
 go_at_call 216
 refine(T.o _ (aF w0)).mono ?_;rintro O B ⟨r,A,rfl,J,V,X,F⟩;have p:Below w0.heap.size w0 B:=(aF w0).trans (F.mono (aF w0).size);have H:=Z (aAb (s != t) r (limbs (x * y)).length A B);have L:=Z (J.mono (S':=fH w.heap.size B) fun k _ h=>⟨h.1,aH R.o h.2⟩);clear F J;dsimp only;refine f.out _ _ (by(exact p)) (fun hHeld2=>?_);clear f q;refine aV 10 fun q f=>?_;go_simp
 go_at_call 242
 refine H.o.mono ?_;rintro O ae ⟨rfl,g⟩;have l:Below w0.heap.size w0 ae:=p.trans (g.mono p.size);have K:=Z (L.o.move (Below.dat g) g.size);clear g H;dsimp only;refine f.out _ _ (by(exact l)) (fun hHeld3=>?_);clear f q;(try simp only [Act.put,sA,sB,sC]);refine cF (by decide +kernel) ?_;simp only [dL,cW];have j:=bD l M.o;have N:=Z j;obtain ⟨ah,z1⟩:=kE j;obtain ⟨af,ag⟩:=kX j;clear j;go_wp2;refine bodyPost_ret (v:=mX ((s != t) && decide (0<(limbs (x * y)).length)) r (limbs (x * y)).length A) (by simp [results,results211,go_sem, *]) rfl ?_;rw [oJ];exact IntPost2.set (z:=aU ⟨s,x⟩ ⟨t,y⟩) (by decide) (by decide) N.o (by omega) K.o ⟨V,X⟩ (aG i l) [(0,.bool ((s != t) && decide (0<x * y))),(1,.slice r (limbs (x * y)).length A)]
end
section
variable {S S' : Nat -> Prop}
theorem mU (s t:Bool) (a b:Option Addr) (n m c d x y:Nat) (w:World) (ar:bT cH.u64 S w a n (limbs x)) (hy:bT cH.u64 S' w b m (limbs y)) (a4:n<=274877906944) (a3:m<=274877906944) :
  Calls prog 214 #[mX s a n c,mX t b m d] w fun e w'=>ZP (gX ⟨s,x⟩ ⟨t,y⟩) w e w':=by
 have J:=Z (aA0 w (.cells #[.bool s,.slice a n c] 160) (.cells #[.bool t,.slice b m d] 160) (.cells #[.bool false,.slice none 0 0] 160));have aj:=uY w (.cells #[.bool s,.slice a n c] 160) (.cells #[.bool t,.slice b m d] 160) (.cells #[.bool false,.slice none 0 0] 160);have ak:=uZ w (.cells #[.bool s,.slice a n c] 160) (.cells #[.bool t,.slice b m d] 160) (.cells #[.bool false,.slice none 0 0] 160);have g:=Z (vA w (.cells #[.bool s,.slice a n c] 160) (.cells #[.bool t,.slice b m d] 160) (.cells #[.bool false,.slice none 0 0] 160));generalize aq:((w.alloc (.cells #[.bool s,.slice a n c] 160)).alloc (.cells #[.bool t,.slice b m d] 160)).alloc (.cells #[.bool false,.slice none 0 0] 160)=w0 at *;have Y:w0.cell? ⟨w.heap.size,0,none⟩=some (.bool s):=E aj 0;have L:w0.cell? ⟨w.heap.size,1,none⟩=some (.slice a n c):=E aj 1;have ag:w0.cell? ⟨w.heap.size+1,0,none⟩=some (.bool t):=E ak 0;have M:w0.cell? ⟨w.heap.size+1,1,none⟩=some (.slice b m d):=E ak 1;have ab:=Z (ar.mono (S':=fun _=>True) fun _ _ _=>trivial);have ad:=Z (hy.mono (S':=fun _=>True) fun _ _ _=>trivial);clear aj ak ar hy;by_cases ah:s=t
 case pos=>
  subst ah;have af:=Z g.o.size;have U:=Z (fun W (D:Below w0.heap.size w0 W)=>aJt a b n m c d x y W (ab.o.below (aG g D) aA) (ad.o.below (aG g D) aA) (by omega) (by omega));have a5:(s == s)=true:=beq_self_eq_true s;have R:=Z (show gX ⟨s,x⟩ ⟨s,y⟩=rY s (x+y) from by unfold gX;rw [if_pos rfl]);obtain ⟨sg,T⟩:∃sg,sg=s:=⟨_,rfl⟩;subst T;generalize gX ⟨sg,x⟩ ⟨sg,y⟩=ai at *;generalize x+y=z at *;go_enter func214,ntmps214
  go_wp2;clear aq;refine bF (S:=fun W=>Below w0.heap.size w0 W) 8 (by kernel_rfl) (by kernel_rfl) (aF w0) (fun _=>?_);refine aE 0 ?_;refine dF 1 (fun W h=>aB h Y) ?_;refine aE 2 ?_;refine dF 3 (fun W h=>aB h L) ?_;refine aE 4 ?_;refine dF 5 (fun W h=>aB h M) ?_;refine aV 6 fun q f=>?_;go_simp
  go_at_call 243
  refine(U.o _ (aF w0)).mono ?_;rintro Q B ⟨r,A,rfl,G,V,X,C⟩;have p:Below w0.heap.size w0 B:=(aF w0).trans (C.mono (aF w0).size);have F:=Z (aAb sg r (limbs z).length A B);have O:=Z (G.mono (S':=fH w.heap.size B) fun k _ h=>⟨h.1,aH af.o h.2⟩);clear C G;dsimp only;refine f.out _ _ (by(exact p)) (fun hHeld2=>?_);clear f q;refine aV 7 fun q f=>?_;go_simp
  go_at_call 242
  refine F.o.mono ?_;rintro Q aa ⟨rfl,i⟩;have l:Below w0.heap.size w0 aa:=p.trans (i.mono p.size);have N:=Z (O.o.move (Below.dat i) i.size);clear i F;dsimp only;refine f.out _ _ (by(exact l)) (fun hHeld3=>?_);clear f q;(try simp only [Act.put,sA,sB,sC]);refine cF (by decide +kernel) ?_;simp only [dL,cW];have j:=bD l J.o;have P:=Z j;obtain ⟨ay,z1⟩:=kE j;obtain ⟨an,ao⟩:=kX j;clear j;go_wp2;refine bodyPost_ret (v:=mX (sg && decide (0<(limbs z).length)) r (limbs z).length A) (by simp [results,results214,go_sem, *]) rfl ?_;rw [oJ,R.o];exact IntPost2.set (z:=rY sg z) (by decide) (by decide) P.o (by omega) N.o ⟨V,X⟩ (aG g l) [(0,.bool (sg && decide (0<z))),(1,.slice r (limbs z).length A)]
 case neg=>
  have a6:(s == t)=false:=by simpa using ah
  have ap:=Z (fE a b n m c d x y w0 (ab.o.below g.o aA) (ad.o.below g.o aA) (by omega) (by omega));have ae:=Z (show gX ⟨s,x⟩ ⟨t,y⟩=if x<y then rY t (y - x) else rY s (x - y) from by unfold gX;rw [if_neg ah]);generalize gX ⟨s,x⟩ ⟨t,y⟩=ai at *;go_enter func214,ntmps214
  go_wp2_with fail
  refine ap.o.mono ?_;rintro e I ⟨rfl,a0,H⟩;have al:=Z (show Below w.heap.size w I from by rw [H];exact g.o.drewN a0);have am:=Z (show I.heap[w.heap.size+1+1]? = some (.cells #[.bool false,.slice none 0 0] 160 (0,0)) from by rw [H];exact J.o);have au:I.cell? ⟨w.heap.size,0,none⟩=some (.bool s):=by rw [H];exact Y
  have av:I.cell? ⟨w.heap.size,1,none⟩=some (.slice a n c):=by rw [H];exact L
  have aw:I.cell? ⟨w.heap.size+1,0,none⟩=some (.bool t):=by rw [H];exact ag
  have ax:I.cell? ⟨w.heap.size+1,1,none⟩=some (.slice b m d):=by rw [H];exact M
  clear H aq Y L ag M g J ap;clear w0;obtain ⟨w0,rfl⟩:∃W,W=I:=⟨_,rfl⟩;have g:=Z al.o;have J:=Z am.o;have Y:=au;have L:=av;have ag:=aw;have M:=ax;have af:=Z g.o.size;clear al am au av aw ax;by_cases K:x<y
  case pos=>
   have R:=Z (show ai=rY t (y - x) from by rw [ae.o,if_pos K]);have U:=Z (fun W (D:Below w0.heap.size w0 W)=>aAa b a m n d c y x W (ad.o.below (aG g D) aA) (ab.o.below (aG g D) aA) (by omega) (by omega));obtain ⟨sg,T⟩:∃sg,sg=t:=⟨_,rfl⟩;subst T;rw [tQ K];clear ae K;generalize y - x=z at *;go_wp2;refine bF (S:=fun W=>Below w0.heap.size w0 W) 8 (by kernel_rfl) (by kernel_rfl) (aF w0) (fun _=>?_);refine aE 0 ?_;refine dF 1 (fun W h=>aB h ag) ?_;refine aE 2 ?_;refine dF 3 (fun W h=>aB h M) ?_;refine aE 4 ?_;refine dF 5 (fun W h=>aB h L) ?_;refine aV 6 fun q f=>?_;go_simp
   go_at_call 244
   refine(U.o _ (aF w0)).mono ?_;rintro Q B ⟨r,A,rfl,G,V,X,C⟩;have p:Below w0.heap.size w0 B:=(aF w0).trans (C.mono (aF w0).size);have F:=Z (aAb sg r (limbs z).length A B);have O:=Z (G.mono (S':=fH w.heap.size B) fun k _ h=>⟨h.1,aH af.o h.2⟩);clear C G;dsimp only;refine f.out _ _ (by(exact p)) (fun hHeld2=>?_);clear f q;refine aV 7 fun q f=>?_;go_simp
   go_at_call 242
   refine F.o.mono ?_;rintro Q aa ⟨rfl,i⟩;have l:Below w0.heap.size w0 aa:=p.trans (i.mono p.size);have N:=Z (O.o.move (Below.dat i) i.size);clear i F;dsimp only;refine f.out _ _ (by(exact l)) (fun hHeld3=>?_);clear f q;(try simp only [Act.put,sA,sB,sC]);refine cF (by decide +kernel) ?_;simp only [dL,cW];have j:=bD l J.o;have P:=Z j;obtain ⟨ay,z1⟩:=kE j;obtain ⟨an,ao⟩:=kX j;clear j;go_wp2;refine bodyPost_ret (v:=mX (sg && decide (0<(limbs z).length)) r (limbs z).length A) (by simp [results,results214,go_sem, *]) rfl ?_;rw [oJ,R.o];exact IntPost2.set (z:=rY sg z) (by decide) (by decide) P.o (by omega) N.o ⟨V,X⟩ (aG g l) [(0,.bool (sg && decide (0<z))),(1,.slice r (limbs z).length A)]
  case neg=>
   have R:=Z (show ai=rY s (x - y) from by rw [ae.o,if_neg K]);have U:=Z (fun W (D:Below w0.heap.size w0 W)=>aAa a b n m c d x y W (ab.o.below (aG g D) aA) (ad.o.below (aG g D) aA) (by omega) (by omega));obtain ⟨sg,T⟩:∃sg,sg=s:=⟨_,rfl⟩;subst T;have az:¬fZ x y<0:=by
    unfold fZ;rw [if_neg K]
    split <;> omega
   have a2:decide (fZ x y<0)=false:=aR az;clear ae K;generalize fZ x y=a1 at *;generalize x - y=z at *;go_wp2;refine bF (S:=fun W=>Below w0.heap.size w0 W) 8 (by kernel_rfl) (by kernel_rfl) (aF w0) (fun _=>?_);refine aE 0 ?_;refine dF 1 (fun W h=>aB h Y) ?_;refine aE 2 ?_;refine dF 3 (fun W h=>aB h L) ?_;refine aE 4 ?_;refine dF 5 (fun W h=>aB h M) ?_;refine aV 6 fun q f=>?_;go_simp
   go_at_call 244
   refine(U.o _ (aF w0)).mono ?_;rintro Q B ⟨r,A,rfl,G,V,X,C⟩;have p:Below w0.heap.size w0 B:=(aF w0).trans (C.mono (aF w0).size);have F:=Z (aAb sg r (limbs z).length A B);have O:=Z (G.mono (S':=fH w.heap.size B) fun k _ h=>⟨h.1,aH af.o h.2⟩);clear C G;dsimp only;refine f.out _ _ (by(exact p)) (fun hHeld2=>?_);clear f q;refine aV 7 fun q f=>?_;go_simp
   go_at_call 242
   refine F.o.mono ?_;rintro Q aa ⟨rfl,i⟩;have l:Below w0.heap.size w0 aa:=p.trans (i.mono p.size);have N:=Z (O.o.move (Below.dat i) i.size);clear i F;dsimp only;refine f.out _ _ (by(exact l)) (fun hHeld3=>?_);clear f q;(try simp only [Act.put,sA,sB,sC]);refine cF (by decide +kernel) ?_;simp only [dL,cW];have j:=bD l J.o;have P:=Z j;obtain ⟨ay,z1⟩:=kE j;obtain ⟨an,ao⟩:=kX j;clear j;go_wp2;refine bodyPost_ret (v:=mX (sg && decide (0<(limbs z).length)) r (limbs z).length A) (by simp [results,results214,go_sem, *]) rfl ?_;rw [oJ,R.o];exact IntPost2.set (z:=rY sg z) (by decide) (by decide) P.o (by omega) N.o ⟨V,X⟩ (aG g l) [(0,.bool (sg && decide (0<z))),(1,.slice r (limbs z).length A)]
theorem nH (r:Bool) (a b:Option Addr) (n c m d:Nat) (w:World):Calls prog 212 #[.agg #[.bool r,.slice a n c,.slice b m d]] w fun e w'=>e = .returned (mX r a n c)/\Below w.heap.size w w':=by
 go_enter func212,ntmps212
 go_wp2;refine bodyPost_ret (v:=mX r a n c) (by simp [results,results212,go_sem, *]) rfl ?_;exact⟨rfl,(bJ).alloc (by simp) _⟩
theorem lJ (r:Bool) (a b:Option Addr) (n c m d:Nat) (w:World):Calls prog 213 #[.agg #[.bool r,.slice a n c,.slice b m d]] w fun e w'=>e = .returned (mX false b m d)/\Below w.heap.size w w':=by
 go_enter func213,ntmps213
 go_wp2;refine bodyPost_ret (v:=mX false b m d) (by simp [results,results213,go_sem, *]) rfl ?_;exact⟨rfl,(bJ).alloc (by simp) _⟩
end
section
variable {S S' : Nat -> Prop}
theorem aMo (s t:Bool) (a b:Option Addr) (n m c d x y:Nat) (w:World) (l:bT cH.u64 S w a n (limbs x)) (hy:bT cH.u64 S' w b m (limbs y)) (r:n<=274877906944) (q:m<=274877906944) :
  Calls prog 210 #[mX s a n c,mX t b m d] w fun e w'=>e = .returned (.int .i64 (uR ⟨s,x⟩ ⟨t,y⟩))/\Below w.heap.size w w':=by
 have f:=Z (cV w (.cells #[.bool s,.slice a n c] 160) (.cells #[.bool t,.slice b m d] 160));have i:=Z (l.below f.o aA);have j:=Z (hy.below f.o aA);have g:=Z (fE a b n m c d x y _ i.o j.o (by omega) (by omega));have h:=Z (fE b a m n d c y x _ j.o i.o (by omega) (by omega));clear l hy i j;cases s <;> cases t
 case false.false=>
  have hd:=@Z (uR ⟨false,x⟩ ⟨false,y⟩=fZ x y) rfl;rw [hd.o];go_enter func210,ntmps210
  go_wp2_with fail
  refine g.o.mono ?_;rintro e p ⟨rfl,k,rfl⟩;go_wp2;go_ret;exact⟨rfl,f.o.drewN k⟩
 case true.true=>
  have hd:=@Z (uR ⟨true,x⟩ ⟨true,y⟩=fZ y x) rfl;rw [hd.o];go_enter func210,ntmps210
  go_wp2_with fail
  refine h.o.mono ?_;rintro e p ⟨rfl,k,rfl⟩;go_wp2;go_ret;exact⟨rfl,f.o.drewN k⟩
 case false.true=>
  have hd:=@Z (uR ⟨false,x⟩ ⟨true,y⟩=1) rfl;rw [hd.o];clear g h;go_enter func210,ntmps210
  go_wp2;go_ret;exact⟨rfl,f.o⟩
 case true.false=>
  have hd:=@Z (uR ⟨true,x⟩ ⟨false,y⟩ = -1) rfl;rw [hd.o];clear g h;go_enter func210,ntmps210
  go_wp2;go_ret;exact⟨rfl,f.o⟩
def aSe (r:cJ × Int) (w:World) (e:Ending) (w':World):Prop:=∃v,e = .returned (.tuple #[v,.int .i64 r.2])/\dP r.1 w (.returned v) w'
theorem aMp {neg:Bool} {x y:Nat}:fJ neg x y=if 64<(limbs (x / Nat.gcd x y)).length\/64<(limbs (y / Nat.gcd x y)).length then(mW,4) else(⟨neg && decide (0<(limbs (x / Nat.gcd x y)).length),limbs (x / Nat.gcd x y),limbs (y / Nat.gcd x y)⟩,0):=by
 unfold fJ aL9 wP;rw [oJ];dsimp only;by_cases e:64<(limbs (x / Nat.gcd x y)).length
 ·rw [bV e,Bool.true_or,if_pos rfl,if_pos (.inl e)]
 ·rw [aR e,Bool.false_or];by_cases f:64<(limbs (y / Nat.gcd x y)).length
  ·rw [bV f,if_pos rfl,if_pos (.inr f)]
  ·rw [aR f,if_neg (by simp),if_neg (by omega)]
theorem xY (neg:Bool) (a b:Option Addr) (n m c d x y:Nat) (w:World) (a2:bT cH.u64 S w a n (limbs x)) (hy:bT cH.u64 S' w b m (limbs y)) (bn:n<=274877906944) (aK:m<=274877906944) (ak:n<=c/\c<=maxLen) (aj:m<=d/\d<=maxLen) (aQ:0<y) :
  Calls prog 215 #[.bool neg,.slice a n c,.slice b m d] w fun e w'=>aSe (fJ neg x y) w e w':=by
 obtain rfl:=a2.1;obtain rfl:=hy.1;have aE:Below w.heap.size w (w.alloc (.cells #[.bool false,.slice none 0 0,.slice none 0 0] 36)):=bJ;have H:=Z (cC w (.cells #[.bool false,.slice none 0 0,.slice none 0 0] 36));have I:=Z aE;have X:=Z (show zW x w (.slice a (limbs x).length c) from⟨a,c,rfl,a2.mono fun _ _ _=>trivial,ak.1,ak.2,by omega⟩);have Y:=Z (show zW y w (.slice b (limbs y).length d) from⟨b,d,rfl,hy.mono fun _ _ _=>trivial,aj.1,aj.2,by omega⟩);clear aE a2 hy;generalize bp:w.alloc (.cells #[.bool false,.slice none 0 0,.slice none 0 0] 36)=w0 at *;have aI:=Z (rN (.slice a (limbs x).length c) (.slice b (limbs y).length d) x y w0 (X.o.all I.o) (Y.o.all I.o));have ax:=Z (show 0<Nat.gcd x y from aGm _ aQ);have ai:=Z (show(limbs (Nat.gcd x y)).length<=274877906944 from aH (iG (aCv aQ (aCq x y))) aK);have M:=@Z (fJ neg x y=_) aMp;have ay:=Z (show(limbs (x / Nat.gcd x y)).length<=274877906944 from aH (iG (tC _ _)) bn);have aJ:=Z (show(limbs (y / Nat.gcd x y)).length<=274877906944 from aH (iG (tC _ _)) aK);go_enter func215,ntmps215
 go_wp2_with fail
 refine aI.o.mono ?_;rintro e N ⟨v,rfl,bk,aD⟩;obtain ⟨ao,au,rfl,sg,b7,b9⟩:=bk;have an:=Z aD;have aa:=Z (sg.mono (S':=fun _=>True) fun _ _ _=>trivial);clear sg aD aI bp
 go_wp2_with fail
 refine(tP _).mono ?_;rintro b0 a8 ⟨rfl,al⟩;have aC:=Z (show Below w0.heap.size w0 a8 from by rw [al];exact an.o.alloc an.o.size _);have aq:=Z (show Below N.heap.size N a8 from by rw [al];exact bJ);have aL:=Z (fE ao (some ⟨N.heap.size,0,none⟩) (limbs (Nat.gcd x y)).length 1 au 1 (Nat.gcd x y) 1 a8 (aa.o.below aq.o aA) (by rw [al,gP];exact zO N) (by have:=ai.o;omega) (by decide));clear al;generalize Nat.gcd x y=g at *
 go_wp2_with fail
 refine aL.o.mono ?_;rintro e a9 ⟨rfl,aS,a1⟩;have G:=Z (show Below w0.heap.size w0 a9 from by rw [a1];exact aC.o.drewN aS);have ar:=Z (show Below N.heap.size N a9 from by rw [a1];exact aq.o.drewN aS);have ah:=@Z ((fZ g 1 == 0)=(g == 1)) zX;have bm:=@Z (Value.bool (fZ g 1 != 0)=Value.bool (fZ g 1 != 0)) rfl;clear a1 aL aC aq
 go_upto_if 15 with fail
 go_cut [1,2] from 8 to 27 (fun a6 a7 wc=>(∃(a b:Option Addr) (c d:Nat),a6 = .slice a (limbs (x / g)).length c/\a7 = .slice b (limbs (y / g)).length d/\Hid (bT cH.u64 (fun _=>True) wc a (limbs (x / g)).length (limbs (x / g)))/\Hid (bT cH.u64 (fun _=>True) wc b (limbs (y / g)).length (limbs (y / g))))/\Hid (Below w0.heap.size w0 wc))
 case first=>
  by_cases V:g=1
  case pos=>
   subst V;have aF:fZ 1 1=0:=by decide
   have bl:(fZ 1 1 != 0)=false:=by decide
   have a3:=X.o.all (aG I G.o);have a4:=Y.o.all (aG I G.o);obtain ⟨ba,be,az,J,_⟩:=a3;obtain ⟨bd,bg,a0,A,_⟩:=a4;cases az;cases a0;have bt:=Z J;have a5:=Z A;clear J A ah;go_wp2;go_meet
   case rel=>exact⟨⟨a,b,c,d,by rw [aCz],by rw [aCz],by have:=bt.o;rw [aCz];exact this,by have:=a5.o;rw [aCz];exact this⟩,G.o⟩
  case neg=>
   have aF:(fZ g 1 == 0)=false:=by rw [ah.o];simpa using V
   have bl:(fZ g 1 != 0)=true:=by unfold bne;rw [aF];rfl
   have a3:=X.o.all (aG I G.o);have a4:=Y.o.all (aG I G.o);obtain ⟨ba,be,az,J,_⟩:=a3;obtain ⟨bd,bg,a0,A,_⟩:=a4;cases az;cases a0;have a5:=Z A;have aO:=Z (uV a ao (limbs x).length (limbs g).length c au x g a9 J (aa.o.below ar.o aA) (by omega) (by have:=ai.o;omega) ak.1 ak.2 ax.o);clear ah V J A;generalize fZ g 1=bz at *
   go_wp2_with fail
   refine aO.o.mono ?_;rintro e K ⟨a6,a7,rfl,⟨q,c5,rfl,aT,b5,m5⟩,⟨s,t,rfl,bu,bq,m6⟩,ag⟩;have p:=Z (aG G ag);have aX:=Z (aT.mono (S':=fun _=>True) fun _ _ _=>trivial);have aP:=Z (uV b ao (limbs y).length (limbs g).length d au y g K (a5.o.below ag aA) (aa.o.below (aG ar ag) aA) (by omega) (by have:=ai.o;omega) aj.1 aj.2 ax.o);clear aT bu bq m6 ag aO
   go_wp2_with fail
   refine aP.o.mono ?_;rintro e bA ⟨a6,a7,rfl,⟨bc,bf,rfl,aU,b6,b8⟩,⟨bw,bx,rfl,bv,br,bs⟩,aw⟩;have aW:=Z (aG p aw);have aZ:=Z (aU.mono (S':=fun _=>True) fun _ _ _=>trivial);have aY:=Z (aX.o.below aw aA);clear aU bv br bs aw aP;go_wp2;go_meet
   case rel=>exact⟨⟨q,bc,c5,bf,rfl,rfl,aY.o,aZ.o⟩,aW.o⟩
 case rest=>
  clear ah bm aa X Y ax ai G ar an;obtain ⟨⟨bb,ap,c1,av,rfl,rfl,J,A⟩,W⟩:=hcut;generalize x / g=aB at *;generalize y / g=y1 at *;have E:=Z (eF bb (limbs aB).length c1 (limbs aB) wc J.o (by have:=ay.o;omega));have b1:=ay.o;have b2:=aJ.o;generalize limbs aB=xs at *;generalize limbs y1=ys at *;clear ay aJ;have ab:=Z (bD W.o H.o);have B:=Z (aG I W.o);by_cases V:64<xs.length
  case pos=>
   have z:=Z (show fJ neg x y=(mW,4) from by rw [M.o,if_pos (.inl V)]);have bh:(64:Int)<xs.length:=by omega
   have f:=ab.o;obtain ⟨am,z1,z2⟩:=eH f;obtain ⟨ad,ae,af⟩:=gB f;clear f E M;go_wp2;refine bodyPost_ret (v:=.tuple #[fA ⟨false,[],[]⟩ none 0 none 0,.int .i64 4]) (by simp [results,results215,go_sem, *]) rfl ?_;rw [z.o];exact⟨_,rfl,dP.set (r:=mW) (by decide) (by decide) ab.o aA (.nil _ _ _ _) (.nil _ _ _ _) ⟨aN,aN⟩ ⟨aN,aN⟩ B.o [(0,.bool false),(1,.slice none 0 0),(2,.slice none 0 0)]⟩
  case neg=>
   have bh:¬(64:Int)<xs.length:=by omega
   by_cases bi:64<ys.length
   case pos=>
    have z:=Z (show fJ neg x y=(mW,4) from by rw [M.o,if_pos (.inr bi)]);have bj:(64:Int)<ys.length:=by omega
    have f:=ab.o;obtain ⟨am,z1,z2⟩:=eH f;obtain ⟨ad,ae,af⟩:=gB f;clear f E M;go_wp2;refine bodyPost_ret (v:=.tuple #[fA ⟨false,[],[]⟩ none 0 none 0,.int .i64 4]) (by simp [results,results215,go_sem, *]) rfl ?_;rw [z.o];exact⟨_,rfl,dP.set (r:=mW) (by decide) (by decide) ab.o aA (.nil _ _ _ _) (.nil _ _ _ _) ⟨aN,aN⟩ ⟨aN,aN⟩ B.o [(0,.bool false),(1,.slice none 0 0),(2,.slice none 0 0)]⟩
   case neg=>
    have bj:¬(64:Int)<ys.length:=by omega
    have L:=Z (show fJ neg x y=(⟨neg && decide (0<xs.length),xs,ys⟩,0) from by rw [M.o,if_neg (by omega)]);clear M;rcases (show neg=false\/(neg=true/\0<xs.length)\/(neg=true/\xs.length=0) from by cases neg with
     | false=>exact .inl rfl
     | true=>exact .inr (by rcases gD xs.length with h | h;exact .inr ⟨rfl,h⟩;exact .inl ⟨rfl,h⟩)) with rfl | ⟨rfl,hp⟩ | ⟨rfl,hp⟩
    case inl=>
     have z:=Z (show fJ false x y=(⟨false,xs,ys⟩,0) from L.o);clear L
     go_wp2_with fail
     refine E.o.mono ?_;rintro e K ⟨q,c5,rfl,k,j⟩;have p:=Z (aG W j);have O:=Z (k.datF (n:=w.heap.size) B.o.size);have T:=Z k.slice;have F:=Z (eF ap ys.length av ys K (A.o.below j aA) (by omega));have C:=Z (aG B j);clear k j E
     go_wp2_with fail
     refine F.o.mono ?_;rintro e aV ⟨s,t,rfl,l,i⟩;have P:=Z (l.datF (n:=w.heap.size) C.o.size);have U:=Z l.slice;have Q:=Z (O.o.move (Below.dat i) i.size);have R:=Z (aG C i);have D:=Z ((i.block _ (bH (bD p.o H.o)).1).trans (bD p.o H.o));have f:=D.o;obtain ⟨am,z1,z2⟩:=eH f;obtain ⟨ad,ae,af⟩:=gB f;clear f l i F;go_wp2;refine bodyPost_ret (v:=.tuple #[fA ⟨false,xs,ys⟩ q c5 s t,.int .i64 0]) (by simp [results,results215,go_sem, *]) rfl ?_;rw [z.o];exact⟨_,rfl,dP.set (r:=⟨false,xs,ys⟩) (by decide) (by decide) D.o aA Q.o P.o (by obtain ⟨_,_,e,h⟩:=T.o;cases e;exact h) (by obtain ⟨_,_,e,h⟩:=U.o;cases e;exact h) R.o [(0,.bool false),(1,.slice q xs.length c5),(2,.slice s ys.length t)]⟩
    case inr.inl=>
     have z:=Z (show fJ true x y=(⟨true,xs,ys⟩,0) from by rw [L.o,bV hp];rfl);have aM:(0:Int)<xs.length:=by omega
     clear L
     go_wp2_with fail
     refine E.o.mono ?_;rintro e K ⟨q,c5,rfl,k,j⟩;have p:=Z (aG W j);have O:=Z (k.datF (n:=w.heap.size) B.o.size);have T:=Z k.slice;have F:=Z (eF ap ys.length av ys K (A.o.below j aA) (by omega));have C:=Z (aG B j);clear k j E
     go_wp2_with fail
     refine F.o.mono ?_;rintro e aV ⟨s,t,rfl,l,i⟩;have P:=Z (l.datF (n:=w.heap.size) C.o.size);have U:=Z l.slice;have Q:=Z (O.o.move (Below.dat i) i.size);have R:=Z (aG C i);have D:=Z ((i.block _ (bH (bD p.o H.o)).1).trans (bD p.o H.o));have f:=D.o;obtain ⟨am,z1,z2⟩:=eH f;obtain ⟨ad,ae,af⟩:=gB f;clear f l i F;go_wp2;refine bodyPost_ret (v:=.tuple #[fA ⟨true,xs,ys⟩ q c5 s t,.int .i64 0]) (by simp [results,results215,go_sem, *]) rfl ?_;rw [z.o];exact⟨_,rfl,dP.set (r:=⟨true,xs,ys⟩) (by decide) (by decide) D.o aA Q.o P.o (by obtain ⟨_,_,e,h⟩:=T.o;cases e;exact h) (by obtain ⟨_,_,e,h⟩:=U.o;cases e;exact h) R.o [(0,.bool true),(1,.slice q xs.length c5),(2,.slice s ys.length t)]⟩
    case inr.inr=>
     have z:=Z (show fJ true x y=(⟨false,xs,ys⟩,0) from by rw [L.o,aR (by omega)];rfl);have aM:¬(0:Int)<xs.length:=by omega
     have b4:decide ((0:Int)<xs.length)=false:=aR aM;have bo:=Z (jR hp);have b3:(0<xs.length)=False:=by rw [hp];simp
     clear hp;clear L
     go_wp2_with fail
     refine E.o.mono ?_;rintro e K ⟨q,c5,rfl,k,j⟩;have p:=Z (aG W j);have O:=Z (k.datF (n:=w.heap.size) B.o.size);have T:=Z k.slice;have F:=Z (eF ap ys.length av ys K (A.o.below j aA) (by omega));have C:=Z (aG B j);clear k j E
     go_wp2_with fail
     refine F.o.mono ?_;rintro e aV ⟨s,t,rfl,l,i⟩;have P:=Z (l.datF (n:=w.heap.size) C.o.size);have U:=Z l.slice;have Q:=Z (O.o.move (Below.dat i) i.size);have R:=Z (aG C i);have D:=Z ((i.block _ (bH (bD p.o H.o)).1).trans (bD p.o H.o));have f:=D.o;obtain ⟨am,z1,z2⟩:=eH f;obtain ⟨ad,ae,af⟩:=gB f;clear f l i F;go_wp2;refine bodyPost_ret (v:=.tuple #[fA ⟨false,xs,ys⟩ q c5 s t,.int .i64 0]) (by simp [results,results215,go_sem,bo.o, *]) rfl ?_;rw [z.o];exact⟨_,rfl,dP.set (r:=⟨false,xs,ys⟩) (by decide) (by decide) D.o aA Q.o P.o (by obtain ⟨_,_,e,h⟩:=T.o;cases e;exact h) (by obtain ⟨_,_,e,h⟩:=U.o;cases e;exact h) R.o [(0,.bool false),(1,.slice q xs.length c5),(2,.slice s ys.length t)]⟩
end
theorem bT.us64 {S:Nat->Prop} {w:World} {a:Option Addr} {n:Nat} {xs:List Int} (h:bT cH.u64 S w a n xs):bY xs:=fun x g=>by
 obtain ⟨j,f,rfl⟩:=gU g;obtain ⟨b,o,cs,_,_,e,_⟩:=h.at (cK f);exact e.2
structure jI (S:Nat->Prop) (w:World) (r:cJ) (a:Option Addr) (c:Nat) (b:Option Addr) (d:Nat):Prop where
 num:bT cH.u64 S w a r.num.length r.num
 nc:r.num.length<=c/\c<=maxLen
 den:bT cH.u64 S w b r.den.length r.den
 dc:r.den.length<=d/\d<=maxLen
theorem fY {x y:Nat} (h:(limbs x).length<=64) (hy:(limbs y).length<=64):(limbs (x * y)).length<=128:=by
 refine fO ?_;have e:=iC (eO x);have f:=iC (eO y);rw [aY] at e f;have g:=aDp e f;exact bG g (pW gT (by omega))
section
variable {S S' : Nat -> Prop}
theorem aSf (r s:cJ) (a b A B:Option Addr) (c d C D:Nat) (w:World) (h:jI S w r a c b d) (k:jI S' w s A C B D) (bo:r.num.length<=1000000) (bn:r.den.length<=1000000) (bq:s.num.length<=1000000) (bp:s.den.length<=1000000) :
  Calls prog 184 #[fA r a c b d,fA s A C B D] w fun e w'=>aSe (uH r s) w e w':=by
 have a8:=fun aq=>lP (r:=r) h.num.us64 h.den.us64 aq
 have aC:=fun aq=>lP (r:=s) k.num.us64 k.den.us64 aq
 have V:=Z h;have p:=Z k;obtain ⟨m,n,f⟩:=r;obtain ⟨j,l,i⟩:=s;dsimp only at *;have a9:=Z a8;have aD:=Z aC;clear h k a8 aC;have ai:=Z (aA0 w (.cells #[.bool m,.slice a n.length c,.slice b f.length d] 36) (.cells #[.bool j,.slice A l.length C,.slice B i.length D] 36) (.cells #[.bool false,.slice none 0 0,.slice none 0 0] 36));have aj:=uY w (.cells #[.bool m,.slice a n.length c,.slice b f.length d] 36) (.cells #[.bool j,.slice A l.length C,.slice B i.length D] 36) (.cells #[.bool false,.slice none 0 0,.slice none 0 0] 36);have ak:=uZ w (.cells #[.bool m,.slice a n.length c,.slice b f.length d] 36) (.cells #[.bool j,.slice A l.length C,.slice B i.length D] 36) (.cells #[.bool false,.slice none 0 0,.slice none 0 0] 36);have z:=Z (vA w (.cells #[.bool m,.slice a n.length c,.slice b f.length d] 36) (.cells #[.bool j,.slice A l.length C,.slice B i.length D] 36) (.cells #[.bool false,.slice none 0 0,.slice none 0 0] 36));generalize ar:((w.alloc (.cells #[.bool m,.slice a n.length c,.slice b f.length d] 36)).alloc (.cells #[.bool j,.slice A l.length C,.slice B i.length D] 36)).alloc (.cells #[.bool false,.slice none 0 0,.slice none 0 0] 36)=w0 at *;have ae:=Z (show ∀W,Below w0.heap.size w0 W->W.cell? ⟨w.heap.size,0,none⟩=some (.bool m)/\W.cell? ⟨w.heap.size,1,none⟩=some (.slice a n.length c)/\W.cell? ⟨w.heap.size,2,none⟩=some (.slice b f.length d)/\W.cell? ⟨w.heap.size+1,0,none⟩=some (.bool j)/\W.cell? ⟨w.heap.size+1,1,none⟩=some (.slice A l.length C)/\W.cell? ⟨w.heap.size+1,2,none⟩=some (.slice B i.length D) from fun W q=>
  ⟨aB q (E aj 0),aB q (E aj 1),aB q (E aj 2),aB q (E ak 0),aB q (E ak 1),aB q (E ak 2)⟩)
 have Y:=Z (show ∀W,Below w0.heap.size w0 W->W.heap[w.heap.size+1+1]? = some (.cells #[.bool false,.slice none 0 0,.slice none 0 0] 36 (0,0))/\Below w.heap.size w W from fun W q=>⟨bD q ai.o,aG z q⟩);have J:=Z (fX ⟨m,n,f⟩ a b c d w0 (V.o.num.below z.o aA) (V.o.den.below z.o aA) bo bn V.o.nc V.o.dc);have aa:=Z (fun W (q:Below w0.heap.size w0 W)=>fX ⟨j,l,i⟩ A B C D W (p.o.num.below (Y.o W q).2 aA) (p.o.den.below (Y.o W q).2 aA) bq bp p.o.nc p.o.dc);obtain ⟨N,O,P,Q,T,U⟩:=ae.o w0 (aO _ _);clear aj ak;cases G:iR ⟨m,n,f⟩
 case false=>
  have ap:=Z (show uH ⟨m,n,f⟩ ⟨j,l,i⟩=(mW,1) from by unfold uH fN;rw [G];rfl);rw [G] at J;clear G;go_enter func184,ntmps184
  go_wp2_with fail
  refine J.o.mono ?_;rintro e K ⟨rfl,F⟩;obtain ⟨L,g⟩:=Y.o K F;have ab:=Z L;have am:=Z g;clear ar L g F J;have t:=ab.o;obtain ⟨bb,z1,z2⟩:=eH t;obtain ⟨a3,a4,a5⟩:=gB t;clear t;go_wp2;refine bodyPost_ret (v:=.tuple #[fA ⟨false,[],[]⟩ none 0 none 0,.int .i64 1]) (by simp [results,results184,go_sem, *]) rfl ?_;rw [ap.o];exact⟨_,rfl,dP.set (r:=mW) (by decide) (by decide) ab.o (by omega) (.nil _ _ _ _) (.nil _ _ _ _) ⟨aN,aN⟩ ⟨aN,aN⟩ am.o [(0,.bool false),(1,.slice none 0 0),(2,.slice none 0 0)]⟩
 case true=>
  rw [G] at J;cases M:iR ⟨j,l,i⟩
  case false=>
   have ap:=Z (show uH ⟨m,n,f⟩ ⟨j,l,i⟩=(mW,1) from by unfold uH fN;rw [G,M];rfl);rw [M] at aa;clear G M;go_enter func184,ntmps184
   go_wp2_with fail
   refine J.o.mono ?_;rintro e K ⟨rfl,F⟩;have I:=Z F;clear N O P Q T U;obtain ⟨N,O,P,Q,T,U⟩:=ae.o K F;clear ar J
   go_wp2_with fail
   refine(aa.o K I.o).mono ?_;rintro e af ⟨rfl,ad⟩;obtain ⟨L,g⟩:=Y.o af (I.o.trans (ad.mono I.o.size));have ab:=Z L;have am:=Z g;clear L g F ad aa;have t:=ab.o;obtain ⟨bb,z1,z2⟩:=eH t;obtain ⟨a3,a4,a5⟩:=gB t;clear t;go_wp2;refine bodyPost_ret (v:=.tuple #[fA ⟨false,[],[]⟩ none 0 none 0,.int .i64 1]) (by simp [results,results184,go_sem, *]) rfl ?_;rw [ap.o];exact⟨_,rfl,dP.set (r:=mW) (by decide) (by decide) ab.o (by omega) (.nil _ _ _ _) (.nil _ _ _ _) ⟨aN,aN⟩ ⟨aN,aN⟩ am.o [(0,.bool false),(1,.slice none 0 0),(2,.slice none 0 0)]⟩
  case true=>
   have R:=Z (a9.o G);have X:=Z (aD.o M);rw [M] at aa;have a6:=Z (show uH ⟨m,n,f⟩ ⟨j,l,i⟩=fJ (m != j) (aJ n * aJ l) (aJ f * aJ i) from by unfold uH fN;rw [G,M];rfl);clear a9 aD G M;obtain ⟨x,y,bj,bk,bx,b0,bs⟩:∃x y,n=limbs x/\f=limbs y/\n.length<=64/\f.length<=64/\0<y:=⟨_,_,R.o.num,R.o.den,R.o.nl,R.o.dl,R.o.pos⟩;obtain ⟨x',y',bl,bm,bz,b1,bt⟩:∃x y,l=limbs x/\i=limbs y/\l.length<=64/\i.length<=64/\0<y:=⟨_,_,X.o.num,X.o.den,X.o.nl,X.o.dl,X.o.pos⟩;subst bj bk bl bm;rw [aY,aY,aY,aY] at a6;clear R X;go_enter func184,ntmps184
   go_wp2_with fail
   refine J.o.mono ?_;rintro e K ⟨rfl,F⟩;have I:=Z F;clear N O P Q T U;obtain ⟨N,O,P,Q,T,U⟩:=ae.o K F;clear ar J F
   go_wp2_with fail
   refine(aa.o K I.o).mono ?_;rintro e af ⟨rfl,ad⟩;have ao:=Z (I.o.trans (ad.mono I.o.size));clear N O P Q T U ai z;obtain ⟨N,O,P,Q,T,U⟩:=ae.o af ao.o;obtain ⟨L,g⟩:=Y.o af ao.o;have ai:=Z L;have z:=Z g;clear ae Y ao I ad aa L g;clear K w0;obtain ⟨w0,rfl⟩:∃W,W=af:=⟨_,rfl⟩;have aI:=Z z.o.size;have aK:=Z (fun W (g:Below w0.heap.size w0 W)=>lQ a A (limbs x).length (limbs x').length c C x x' W (V.o.num.below (aG z g) aA) (p.o.num.below (aG z g) aA) (by omega) (by omega));have aL:=Z (fun W (g:Below w0.heap.size w0 W)=>lQ b B (limbs y).length (limbs y').length d D y y' W (V.o.den.below (aG z g) aA) (p.o.den.below (aG z g) aA) (by omega) (by omega));have bv:=Z (show(limbs (x * x')).length<=274877906944 from aH (fY bx bz) (by decide));have bw:=Z (show(limbs (y * y')).length<=274877906944 from aH (fY b0 b1) (by decide));have bu:=Z (show 0<y * y' from qW bs bt);generalize x * x'=z1 at *;generalize y * y'=z2 at *;go_wp2;refine bF (S:=fun W=>Below w0.heap.size w0 W) 18 (by kernel_rfl) (by kernel_rfl) (aF w0) (fun _=>?_);refine aE 0 ?_;refine dF 1 (fun W h=>aB h N) ?_;refine aE 2 ?_;refine dF 3 (fun W h=>aB h Q) ?_;refine aE 4 ?_;refine aE 5 ?_;refine dF 6 (fun W h=>aB h O) ?_;refine aE 7 ?_;refine dF 8 (fun W h=>aB h T) ?_;refine aE 10 ?_;refine dF 11 (fun W h=>aB h P) ?_;refine aE 12 ?_;refine dF 13 (fun W h=>aB h U) ?_;refine aV 9 fun p H=>?_;go_simp
   go_at_call 216
   refine(aK.o _ (aF w0)).mono ?_;rintro a2 b4 ⟨bg,bi,rfl,aZ,aP,aR,ay⟩;have ah:Below w0.heap.size w0 b4:=(aF w0).trans (ay.mono (aF w0).size);have av:=Z (aZ.mono (S':=fun _=>True) fun _ _ _=>trivial);have au:=Z (And.intro aP aR);clear aZ ay aP aR;dsimp only;refine H.out _ _ (by(exact ah)) (fun hHeld2=>?_);clear H p;refine aV 14 fun p H=>?_;go_simp
   go_at_call 216
   refine(aL.o _ ah).mono ?_;rintro a2 ba ⟨bf,bh,rfl,aX,aM,aQ,an⟩;have ag:Below w0.heap.size w0 ba:=ah.trans (an.mono ah.size);have a7:=Z (xY (m != j) bg bf (limbs z1).length (limbs z2).length bi bh z1 z2 ba (av.o.below an aA) (aX.mono (S':=fun _=>True) fun _ _ _=>trivial) bv.o bw.o au.o ⟨aM,aQ⟩ bu.o);clear aX an aM aQ av au aK aL;generalize fJ (m != j) z1 z2=b2 at *;obtain ⟨R,er⟩:=b2;dsimp only;refine H.out _ _ (by(exact ag)) (fun hHeld3=>?_);clear H p;refine aV 15 fun p H=>?_;go_simp
   go_at_call 215
   refine a7.o.mono ?_;rintro a2 b3 ⟨b5,rfl,aw,az,a0,a1,br,aS,aT,aU,aW,ax⟩;cases br;have bc:=ag.size;have al:Below w0.heap.size w0 b3:=ag.trans (ax.mono ag.size);have P1:=Z aS;have P2:=Z aT;have P3:=Z aU;have bd:=Z aW;clear aS aT aU aW ax a7;dsimp only;refine H.out _ _ (by(exact al)) (fun hHeld4=>?_);clear H p;(try simp only [Act.put,sA,sB,sC]);refine aE 16 ?_;refine aE 17 ?_;refine cF (by decide +kernel) ?_;simp only [dL,cW];have t:=bD al ai.o;have be:=Z t;obtain ⟨bb,z1,z2⟩:=eH t;obtain ⟨a3,a4,a5⟩:=gB t;clear t;go_wp2;refine bodyPost_ret (v:=.tuple #[fA R aw az a0 a1,.int .i64 er]) (by simp [results,results184,go_sem, *]) rfl ?_;rw [a6.o];exact⟨_,rfl,dP.set (r:=R) (by decide) (by decide) be.o (by omega) (P1.o.mono fun k _ h=>⟨h.1,aH (aH aI.o bc) h.2⟩) (P2.o.mono fun k _ h=>⟨h.1,aH (aH aI.o bc) h.2⟩) P3.o bd.o (aG z al) [(0,.bool R.neg),(1,.slice aw R.num.length az),(2,.slice a0 R.den.length a1)]⟩
end
structure bS where
 sort:Int
 bool:Bool
 num:cJ
 el:Int
structure qH where
 args:List bS
 val:bS
structure TbD where
 name:ByteArray
 rows:List qH
 els:bS
abbrev gL:=List TbD
def eZ:bS:=⟨0,false,eA,0⟩
def rO (a b:cJ):Bool:=a.neg == b.neg && (decide (a.num=b.num) && decide (a.den=b.den))
def jJ (a b:bS):Bool:=decide (a.sort=b.sort) && (if a.sort=0 then a.bool == b.bool else if a.sort=1 then rO a.num b.num else decide (a.el=b.el))
def wR:TbD:=⟨ByteArray.empty,[],eZ⟩
def jB (m:gL) (nm:ByteArray):Option TbD:=m.find? fun t=>eqS t.name nm
def sI:List bS->List bS->Bool
 | [],[]=>true
 | a :: l,b :: m=>jJ a b && sI l m
 | _,_=>false
def rowIs (args:List bS) (r:qH):Bool:=sI r.args args
def jE (t:TbD) (args:List bS):bS:=match t.rows.find? (rowIs args) with
 | some r=>r.val
 | none=>t.els
def iZ:cH bS:=cH.map (fun v=>(v.sort,v.bool,v.num,v.el)) (.prod .int (.prod .bool (.prod aQ4 .int)))
def gQ:cH qH:=cH.map (fun r=>(r.args,r.val)) (.prod (.slice iZ) iZ)
def vB:cH TbD:=cH.map (fun t=>(t.name,t.rows,t.els)) (.prod .str (.prod (.slice gQ) iZ))
structure gA (S:Nat->Prop) (w:World) (v:bS) (a:Option Addr) (c:Nat) (b:Option Addr) (d:Nat):Prop where
 sort:eI v.sort
 el:eI v.el
 num:bT cH.u64 S w a v.num.num.length v.num.num
 nc:v.num.num.length<=c/\c<=maxLen
 den:bT cH.u64 S w b v.num.den.length v.num.den
 dc:v.num.den.length<=d/\d<=maxLen
def aA2 (v:bS) (a:Option Addr) (c:Nat) (b:Option Addr) (d:Nat):List Value:=[.int .i64 v.sort,.bool v.bool,.bool v.num.neg,.slice a v.num.num.length c,.slice b v.num.den.length d,.int .i64 v.el]
abbrev oK (v:bS) (a:Option Addr) (c:Nat) (b:Option Addr) (d:Nat):Value:=.agg #[.int .i64 v.sort,.bool v.bool,.bool v.num.neg,.slice a v.num.num.length c,.slice b v.num.den.length d,.int .i64 v.el]
section
variable {S S' : Nat -> Prop} {w w' : World} {v : bS} {cs : List Value} {a b : Option Addr} {c d : Nat}
theorem qZ:iZ.rd S w v cs↔∃a c b d,cs=aA2 v a c b d/\gA S w v a c b d:=by
 constructor
 ·rintro ⟨p,q,rfl,⟨e,l⟩,r,B,rfl,f,A,s,rfl,m,g,o⟩;obtain ⟨a,n,c,b,k,d,rfl,t,x,i,y,z,j⟩:=zL.1 m;have e:p = [.int .i64 v.sort]:=e;have f:r = [.bool v.bool]:=f;have g:s = [.int .i64 v.el]:=g;subst e f g;obtain rfl:=i.1;obtain rfl:=j.1;exact⟨a,c,b,d,rfl,l,o,i,⟨t,x⟩,j,⟨y,z⟩⟩
 ·rintro ⟨a,c,b,d,rfl,h⟩;exact⟨[.int .i64 v.sort],_,rfl,⟨rfl,h.sort⟩,[.bool v.bool],_,rfl,rfl,[.bool v.num.neg,.slice a v.num.num.length c,.slice b v.num.den.length d],[.int .i64 v.el],rfl,zL.2 ⟨a,_,c,b,_,d,rfl,h.nc.1,h.nc.2,h.num,h.dc.1,h.dc.2,h.den⟩,rfl,h.el⟩
theorem gA.keep (h:gA S w v a c b d) (e:∀k,k<w.heap.size->S k->w'.heap[k]? = w.heap[k]?) (f:w.heap.size<=w'.heap.size):gA S w' v a c b d:=⟨h.sort,h.el,h.num.keep e f,h.nc,h.den.keep e f,h.dc⟩
theorem gA.mono (h:gA S w v a c b d) (e:∀k,k<w.heap.size->S k->S' k):gA S' w v a c b d:=⟨h.sort,h.el,h.num.mono e,h.nc,h.den.mono e,h.dc⟩
theorem gA.below {B:Nat} (h:gA S w v a c b d) (e:Below B w w') (f:w.heap.size<=B):gA S w' v a c b d:=h.keep (fun k g _=>e.block k (bG g f)) e.size
theorem aMq {a b:cJ}:rO a b=true↔a=b:=by
 obtain ⟨e,f,g⟩:=a;obtain ⟨h,b2,i⟩:=b;unfold rO;simp only [jS,beq_iff_eq,lA,cJ.mk.injEq]
end
section
variable {S S' : Nat -> Prop}
theorem aSg (r s:cJ) (a b M N:Option Addr) (c d O P:Nat) (w:World) (h:jI S w r a c b d) (k:jI S' w s M O N P) (bs:r.num.length<=1000000) (br:r.den.length<=1000000) (bu:s.num.length<=1000000) (bt:s.den.length<=1000000) :
  Calls prog 185 #[fA r a c b d,fA s M O N P] w fun e w'=>aSe (rM r s) w e w':=by
 have aD:=fun ax=>lP (r:=r) h.num.us64 h.den.us64 ax
 have aK:=fun ax=>lP (r:=s) k.num.us64 k.den.us64 ax
 have ae:=Z h;have z:=Z k;obtain ⟨n,p,j⟩:=r;obtain ⟨m,f,l⟩:=s;dsimp only at *;have aI:=Z aD;have aL:=Z aK;clear h k aD aK;have al:=Z (aA0 w (.cells #[.bool n,.slice a p.length c,.slice b j.length d] 36) (.cells #[.bool m,.slice M f.length O,.slice N l.length P] 36) (.cells #[.bool false,.slice none 0 0,.slice none 0 0] 36));have an:=uY w (.cells #[.bool n,.slice a p.length c,.slice b j.length d] 36) (.cells #[.bool m,.slice M f.length O,.slice N l.length P] 36) (.cells #[.bool false,.slice none 0 0,.slice none 0 0] 36);have ao:=uZ w (.cells #[.bool n,.slice a p.length c,.slice b j.length d] 36) (.cells #[.bool m,.slice M f.length O,.slice N l.length P] 36) (.cells #[.bool false,.slice none 0 0,.slice none 0 0] 36);have B:=Z (vA w (.cells #[.bool n,.slice a p.length c,.slice b j.length d] 36) (.cells #[.bool m,.slice M f.length O,.slice N l.length P] 36) (.cells #[.bool false,.slice none 0 0,.slice none 0 0] 36));generalize am:((w.alloc (.cells #[.bool n,.slice a p.length c,.slice b j.length d] 36)).alloc (.cells #[.bool m,.slice M f.length O,.slice N l.length P] 36)).alloc (.cells #[.bool false,.slice none 0 0,.slice none 0 0] 36)=w0 at *;have ad:=Z (show ∀W,Below w0.heap.size w0 W->W.cell? ⟨w.heap.size,0,none⟩=some (.bool n)/\W.cell? ⟨w.heap.size,1,none⟩=some (.slice a p.length c)/\W.cell? ⟨w.heap.size,2,none⟩=some (.slice b j.length d)/\W.cell? ⟨w.heap.size+1,0,none⟩=some (.bool m)/\W.cell? ⟨w.heap.size+1,1,none⟩=some (.slice M f.length O)/\W.cell? ⟨w.heap.size+1,2,none⟩=some (.slice N l.length P) from fun W A=>
  ⟨aB A (E an 0),aB A (E an 1),aB A (E an 2),aB A (E ao 0),aB A (E ao 1),aB A (E ao 2)⟩)
 have ab:=Z (show ∀W,Below w0.heap.size w0 W->W.heap[w.heap.size+1+1]? = some (.cells #[.bool false,.slice none 0 0,.slice none 0 0] 36 (0,0))/\Below w.heap.size w W from fun W A=>⟨bD A al.o,aG B A⟩);have Q:=Z (fX ⟨n,p,j⟩ a b c d w0 (ae.o.num.below B.o aA) (ae.o.den.below B.o aA) bs br ae.o.nc ae.o.dc);have V:=Z (fun W (A:Below w0.heap.size w0 W)=>fX ⟨m,f,l⟩ M N O P W (z.o.num.below (ab.o W A).2 aA) (z.o.den.below (ab.o W A).2 aA) bu bt z.o.nc z.o.dc);obtain ⟨D,F,G,H,I,J⟩:=ad.o w0 (aO _ _);clear an ao;cases C:iR ⟨n,p,j⟩
 case false=>
  have ai:=Z (show rM ⟨n,p,j⟩ ⟨m,f,l⟩=(mW,1) from by unfold rM fN;rw [C];rfl);rw [C] at Q;clear C;go_enter func185,ntmps185
  go_wp2_with fail
  refine Q.o.mono ?_;rintro e K ⟨rfl,q⟩;obtain ⟨L,g⟩:=ab.o K q;have X:=Z L;have ah:=Z g;clear am L g q Q;have i:=X.o;obtain ⟨az,z1,z2⟩:=eH i;obtain ⟨ar,au,av⟩:=gB i;clear i;go_wp2;refine bodyPost_ret (v:=.tuple #[fA ⟨false,[],[]⟩ none 0 none 0,.int .i64 1]) (by simp [results,results185,go_sem, *]) rfl ?_;rw [ai.o];exact⟨_,rfl,dP.set (r:=mW) (by decide) (by decide) X.o (by omega) (.nil _ _ _ _) (.nil _ _ _ _) ⟨aN,aN⟩ ⟨aN,aN⟩ ah.o [(0,.bool false),(1,.slice none 0 0),(2,.slice none 0 0)]⟩
 case true=>
  rw [C] at Q;cases T:iR ⟨m,f,l⟩
  case false=>
   have ai:=Z (show rM ⟨n,p,j⟩ ⟨m,f,l⟩=(mW,1) from by unfold rM fN;rw [C,T];rfl);rw [T] at V;clear C T;go_enter func185,ntmps185
   go_wp2_with fail
   refine Q.o.mono ?_;rintro e K ⟨rfl,q⟩;have t:=Z q;clear D F G H I J;obtain ⟨D,F,G,H,I,J⟩:=ad.o K q;clear am Q
   go_wp2_with fail
   refine(V.o K t.o).mono ?_;rintro e aa ⟨rfl,U⟩;obtain ⟨L,g⟩:=ab.o aa (t.o.trans (U.mono t.o.size));have X:=Z L;have ah:=Z g;clear L g q U V;have i:=X.o;obtain ⟨az,z1,z2⟩:=eH i;obtain ⟨ar,au,av⟩:=gB i;clear i;go_wp2;refine bodyPost_ret (v:=.tuple #[fA ⟨false,[],[]⟩ none 0 none 0,.int .i64 1]) (by simp [results,results185,go_sem, *]) rfl ?_;rw [ai.o];exact⟨_,rfl,dP.set (r:=mW) (by decide) (by decide) X.o (by omega) (.nil _ _ _ _) (.nil _ _ _ _) ⟨aN,aN⟩ ⟨aN,aN⟩ ah.o [(0,.bool false),(1,.slice none 0 0),(2,.slice none 0 0)]⟩
  case true=>
   by_cases ag:f.length=0
   case pos=>
    have ai:=Z (show rM ⟨n,p,j⟩ ⟨m,f,l⟩=(mW,1) from by unfold rM fN;rw [C,T,bV ag];rfl);have ay:(f.length:Int)=0:=by omega
    have b2:((f.length:Int) == 0)=true:=by simpa using ag
    have b3:decide ((f.length:Int)=0)=true:=bV ay;rw [T] at V;clear C T ag;go_enter func185,ntmps185
    go_wp2_with fail
    refine Q.o.mono ?_;rintro e K ⟨rfl,q⟩;have t:=Z q;clear D F G H I J;obtain ⟨D,F,G,H,I,J⟩:=ad.o K q;clear am Q
    go_wp2_with fail
    refine(V.o K t.o).mono ?_;rintro e aa ⟨rfl,U⟩;obtain ⟨L,g⟩:=ab.o aa (t.o.trans (U.mono t.o.size));clear D F G H I J;obtain ⟨D,F,G,H,I,J⟩:=ad.o aa (t.o.trans (U.mono t.o.size));have X:=Z L;have ah:=Z g;clear L g q U V;have i:=X.o;obtain ⟨az,z1,z2⟩:=eH i;obtain ⟨ar,au,av⟩:=gB i;clear i;go_wp2;refine bodyPost_ret (v:=.tuple #[fA ⟨false,[],[]⟩ none 0 none 0,.int .i64 1]) (by simp [results,results185,go_sem, *]) rfl ?_;rw [ai.o];exact⟨_,rfl,dP.set (r:=mW) (by decide) (by decide) X.o (by omega) (.nil _ _ _ _) (.nil _ _ _ _) ⟨aN,aN⟩ ⟨aN,aN⟩ ah.o [(0,.bool false),(1,.slice none 0 0),(2,.slice none 0 0)]⟩
   case neg=>
    have ay:¬(f.length:Int)=0:=by omega
    have b2:((f.length:Int) == 0)=false:=by simpa using ag
    have b3:decide ((f.length:Int)=0)=false:=aR ay;have aS:=Z ag;clear ag;have R:=Z (aI.o C);have af:=Z (aL.o T);rw [T] at V;have a9:=Z (show rM ⟨n,p,j⟩ ⟨m,f,l⟩=fJ (n != m) (aJ p * aJ l) (aJ j * aJ f) from by unfold rM fN;rw [C,T,aR aS.o];rfl);clear aI aL C T;obtain ⟨x,y,bn,bo,b4,b6,bx⟩:∃x y,p=limbs x/\j=limbs y/\p.length<=64/\j.length<=64/\0<y:=⟨_,_,R.o.num,R.o.den,R.o.nl,R.o.dl,R.o.pos⟩;obtain ⟨x',y',bp,bq,b5,b7,bB⟩:∃x y,f=limbs x/\l=limbs y/\f.length<=64/\l.length<=64/\0<y:=⟨_,_,af.o.num,af.o.den,af.o.nl,af.o.dl,af.o.pos⟩;subst bn bo bp bq;have bw:0<x':=bK.1 (by have:=aS.o;omega);rw [aY,aY,aY,aY] at a9;clear R af;go_enter func185,ntmps185
    go_wp2_with fail
    refine Q.o.mono ?_;rintro e K ⟨rfl,q⟩;have t:=Z q;clear D F G H I J;obtain ⟨D,F,G,H,I,J⟩:=ad.o K q;clear am Q q
    go_wp2_with fail
    refine(V.o K t.o).mono ?_;rintro e aa ⟨rfl,U⟩;have aw:=Z (t.o.trans (U.mono t.o.size));clear D F G H I J al B;obtain ⟨D,F,G,H,I,J⟩:=ad.o aa aw.o;obtain ⟨L,g⟩:=ab.o aa aw.o;have al:=Z L;have B:=Z g;clear ad ab aw t U V L g;clear K w0;obtain ⟨w0,rfl⟩:∃W,W=aa:=⟨_,rfl⟩;have aM:=Z B.o.size;have aP:=Z (fun W (g:Below w0.heap.size w0 W)=>lQ a N (limbs x).length (limbs y').length c P x y' W (ae.o.num.below (aG B g) aA) (z.o.den.below (aG B g) aA) (by omega) (by omega));have aQ:=Z (fun W (g:Below w0.heap.size w0 W)=>lQ b M (limbs y).length (limbs x').length d O y x' W (ae.o.den.below (aG B g) aA) (z.o.num.below (aG B g) aA) (by omega) (by omega));have b0:=Z (show(limbs (x * y')).length<=274877906944 from aH (fY b4 b7) (by decide));have b1:=Z (show(limbs (y * x')).length<=274877906944 from aH (fY b6 b5) (by decide));have bz:=Z (show 0<y * x' from qW bx bw);generalize x * y'=z1 at *;generalize y * x'=z2 at *;go_wp2;refine bF (S:=fun W=>Below w0.heap.size w0 W) 18 (by kernel_rfl) (by kernel_rfl) (aF w0) (fun _=>?_);refine aE 0 ?_;refine dF 1 (fun W h=>aB h D) ?_;refine aE 2 ?_;refine dF 3 (fun W h=>aB h H) ?_;refine aE 4 ?_;refine aE 5 ?_;refine dF 6 (fun W h=>aB h F) ?_;refine aE 7 ?_;refine dF 8 (fun W h=>aB h J) ?_;refine aE 10 ?_;refine dF 11 (fun W h=>aB h G) ?_;refine aE 12 ?_;refine dF 13 (fun W h=>aB h I) ?_;refine aV 9 fun z Y=>?_;go_simp
    go_at_call 216
    refine(aP.o _ (aF w0)).mono ?_;rintro a8 bA ⟨bk,bm,rfl,be,aU,aX,a4⟩;have ak:Below w0.heap.size w0 bA:=(aF w0).trans (a4.mono (aF w0).size);have a1:=Z (be.mono (S':=fun _=>True) fun _ _ _=>trivial);have a0:=Z (And.intro aU aX);clear be a4 aU aX;dsimp only;refine Y.out _ _ (by(exact ak)) (fun hHeld2=>?_);clear Y z;refine aV 14 fun z Y=>?_;go_simp
    go_at_call 216
    refine(aQ.o _ ak).mono ?_;rintro a8 bf ⟨bj,bl,rfl,bd,aT,aW,aq⟩;have aj:Below w0.heap.size w0 bf:=ak.trans (aq.mono ak.size);have aC:=Z (xY (n != m) bk bj (limbs z1).length (limbs z2).length bm bl z1 z2 bf (a1.o.below aq aA) (bd.mono (S':=fun _=>True) fun _ _ _=>trivial) b0.o b1.o a0.o ⟨aT,aW⟩ bz.o);clear bd aq aT aW a1 a0 aP aQ;generalize fJ (n != m) z1 z2=b8 at *;obtain ⟨R,er⟩:=b8;dsimp only;refine Y.out _ _ (by(exact aj)) (fun hHeld3=>?_);clear Y z;refine aV 15 fun z Y=>?_;go_simp
    go_at_call 215
    refine aC.o.mono ?_;rintro a8 b9 ⟨bC,rfl,a2,a5,a6,a7,bv,aZ,ba,bb,bc,a3⟩;cases bv;have bg:=aj.size;have ap:Below w0.heap.size w0 b9:=aj.trans (a3.mono aj.size);have P1:=Z aZ;have P2:=Z ba;have P3:=Z bb;have bh:=Z bc;clear aZ ba bb bc a3 aC;dsimp only;refine Y.out _ _ (by(exact ap)) (fun hHeld4=>?_);clear Y z;(try simp only [Act.put,sA,sB,sC]);refine aE 16 ?_;refine aE 17 ?_;refine cF (by decide +kernel) ?_;simp only [dL,cW];have i:=bD ap al.o;have bi:=Z i;obtain ⟨az,z1,z2⟩:=eH i;obtain ⟨ar,au,av⟩:=gB i;clear i;go_wp2;refine bodyPost_ret (v:=.tuple #[fA R a2 a5 a6 a7,.int .i64 er]) (by simp [results,results185,go_sem, *]) rfl ?_;rw [a9.o];exact⟨_,rfl,dP.set (r:=R) (by decide) (by decide) bi.o (by omega) (P1.o.mono fun k _ h=>⟨h.1,aH (aH aM.o bg) h.2⟩) (P2.o.mono fun k _ h=>⟨h.1,aH (aH aM.o bg) h.2⟩) P3.o bh.o (aG B ap) [(0,.bool R.neg),(1,.slice a2 R.num.length a5),(2,.slice a6 R.den.length a7)]⟩
end
theorem set2 {W:World} {p:Nat} {e f u0 u1:Value} {t:TypeId} (h:W.heap[p]? = some (.cells #[e,f] t (0,0))):((W.setCell ⟨p,0,none⟩ u0).setCell ⟨p,1,none⟩ u1).heap[p]? = some (.cells #[u0,u1] t (0,0)):=by
 unfold World.setCell;rw [iN,if_pos rfl,iN,if_pos rfl,h];rfl
theorem aSh (a b:ZD) (g:(limbs a.n).length<=128) (h:(limbs b.n).length<=128):(limbs (gX a b).n).length<=129:=by
 have e:a.n<aK ^ 128:=bG (by have:=iC (eO a.n);rwa [aY] at this) (pW gT g);have f:b.n<aK ^ 128:=bG (by have:=iC (eO b.n);rwa [aY] at this) (pW gT h);refine fO (lW (m:=a.n+b.n) ?_ (aL6 e f aA));unfold gX rY
 split
 ·exact aA
 ·split <;> dsimp only <;> omega
section
variable {S S' : Nat -> Prop}
theorem aJu (r s:cJ) (a b an al:Option Addr) (c d ap am:Nat) (w:World) (h:jI S w r a c b d) (k:jI S' w s an ap al am) (ca:r.num.length<=1000000) (bZ:r.den.length<=1000000) (cc:s.num.length<=1000000) (cb:s.den.length<=1000000) :
  Calls prog 182 #[fA r a c b d,fA s an ap al am] w fun e w'=>aSe (rL r s) w e w':=by
 have b1:=fun bl=>lP (r:=r) h.num.us64 h.den.us64 bl
 have b3:=fun bl=>lP (r:=s) k.num.us64 k.den.us64 bl
 have aD:=Z h;have q:=Z k;obtain ⟨C,ag,V⟩:=r;obtain ⟨B,af,X⟩:=s;dsimp only at *;have b2:=Z b1;have b4:=Z b3;clear h k b1 b3;have aI:=Z (aA0 w (.cells #[.bool C,.slice a ag.length c,.slice b V.length d] 36) (.cells #[.bool B,.slice an af.length ap,.slice al X.length am] 36) (.cells #[.bool false,.slice none 0 0,.slice none 0 0] 36));have bd:=uY w (.cells #[.bool C,.slice a ag.length c,.slice b V.length d] 36) (.cells #[.bool B,.slice an af.length ap,.slice al X.length am] 36) (.cells #[.bool false,.slice none 0 0,.slice none 0 0] 36);have be:=uZ w (.cells #[.bool C,.slice a ag.length c,.slice b V.length d] 36) (.cells #[.bool B,.slice an af.length ap,.slice al X.length am] 36) (.cells #[.bool false,.slice none 0 0,.slice none 0 0] 36);have T:=Z (vA w (.cells #[.bool C,.slice a ag.length c,.slice b V.length d] 36) (.cells #[.bool B,.slice an af.length ap,.slice al X.length am] 36) (.cells #[.bool false,.slice none 0 0,.slice none 0 0] 36));generalize bm:((w.alloc (.cells #[.bool C,.slice a ag.length c,.slice b V.length d] 36)).alloc (.cells #[.bool B,.slice an af.length ap,.slice al X.length am] 36)).alloc (.cells #[.bool false,.slice none 0 0,.slice none 0 0] 36)=w0 at *;have aZ:=Z (show ∀W,Below w0.heap.size w0 W->W.cell? ⟨w.heap.size,0,none⟩=some (.bool C)/\W.cell? ⟨w.heap.size,1,none⟩=some (.slice a ag.length c)/\W.cell? ⟨w.heap.size,2,none⟩=some (.slice b V.length d)/\W.cell? ⟨w.heap.size+1,0,none⟩=some (.bool B)/\W.cell? ⟨w.heap.size+1,1,none⟩=some (.slice an af.length ap)/\W.cell? ⟨w.heap.size+1,2,none⟩=some (.slice al X.length am) from fun W I=>
  ⟨aB I (E bd 0),aB I (E bd 1),aB I (E bd 2),aB I (E be 0),aB I (E be 1),aB I (E be 2)⟩)
 have aQ:=Z (show ∀W,Below w0.heap.size w0 W->W.heap[w.heap.size+1+1]? = some (.cells #[.bool false,.slice none 0 0,.slice none 0 0] 36 (0,0))/\Below w.heap.size w W from fun W I=>⟨bD I aI.o,aG T I⟩);have a8:=Z (fX ⟨C,ag,V⟩ a b c d w0 (aD.o.num.below T.o aA) (aD.o.den.below T.o aA) ca bZ aD.o.nc aD.o.dc);have aS:=Z (fun W (I:Below w0.heap.size w0 W)=>fX ⟨B,af,X⟩ an al ap am W (q.o.num.below (aQ.o W I).2 aA) (q.o.den.below (aQ.o W I).2 aA) cc cb q.o.nc q.o.dc);obtain ⟨a2,a3,au,a4,a5,av⟩:=aZ.o w0 (aO _ _);clear bd be;cases a0:iR ⟨C,ag,V⟩
 case false=>
  have bh:=Z (show rL ⟨C,ag,V⟩ ⟨B,af,X⟩=(mW,1) from by unfold rL fN;rw [a0];rfl);rw [a0] at a8;clear a0;go_enter func182,ntmps182
  go_wp2_with fail
  refine a8.o.mono ?_;rintro e a9 ⟨rfl,ay⟩;obtain ⟨aC,U⟩:=aQ.o a9 ay;have aW:=Z aC;have aM:=Z U;clear bm aC U ay a8;have F:=aW.o;obtain ⟨az,z1,z2⟩:=eH F;obtain ⟨aw,ax,bw⟩:=gB F;clear F;go_wp2;refine bodyPost_ret (v:=.tuple #[fA ⟨false,[],[]⟩ none 0 none 0,.int .i64 1]) (by simp [results,results182,go_sem, *]) rfl ?_;rw [bh.o];exact⟨_,rfl,dP.set (r:=mW) (by decide) (by decide) aW.o (by omega) (.nil _ _ _ _) (.nil _ _ _ _) ⟨aN,aN⟩ ⟨aN,aN⟩ aM.o [(0,.bool false),(1,.slice none 0 0),(2,.slice none 0 0)]⟩
 case true=>
  rw [a0] at a8;cases aL:iR ⟨B,af,X⟩
  case false=>
   have bh:=Z (show rL ⟨C,ag,V⟩ ⟨B,af,X⟩=(mW,1) from by unfold rL fN;rw [a0,aL];rfl);rw [aL] at aS;clear a0 aL;go_enter func182,ntmps182
   go_wp2_with fail
   refine a8.o.mono ?_;rintro e a9 ⟨rfl,ay⟩;have a6:=Z ay;clear a2 a3 au a4 a5 av;obtain ⟨a2,a3,au,a4,a5,av⟩:=aZ.o a9 ay;clear bm a8
   go_wp2_with fail
   refine(aS.o a9 a6.o).mono ?_;rintro e bb ⟨rfl,aX⟩;obtain ⟨aC,U⟩:=aQ.o bb (a6.o.trans (aX.mono a6.o.size));have aW:=Z aC;have aM:=Z U;clear aC U ay aX aS;have F:=aW.o;obtain ⟨az,z1,z2⟩:=eH F;obtain ⟨aw,ax,bw⟩:=gB F;clear F;go_wp2;refine bodyPost_ret (v:=.tuple #[fA ⟨false,[],[]⟩ none 0 none 0,.int .i64 1]) (by simp [results,results182,go_sem, *]) rfl ?_;rw [bh.o];exact⟨_,rfl,dP.set (r:=mW) (by decide) (by decide) aW.o (by omega) (.nil _ _ _ _) (.nil _ _ _ _) ⟨aN,aN⟩ ⟨aN,aN⟩ aM.o [(0,.bool false),(1,.slice none 0 0),(2,.slice none 0 0)]⟩
  case true=>
   have R:=Z (b2.o a0);have aP:=Z (b4.o aL);rw [aL] at aS;have bx:=Z (show rL ⟨C,ag,V⟩ ⟨B,af,X⟩=fJ (gX (aU ⟨C,aJ ag⟩ ⟨false,aJ X⟩) (aU ⟨B,aJ af⟩ ⟨false,aJ V⟩)).neg (gX (aU ⟨C,aJ ag⟩ ⟨false,aJ X⟩) (aU ⟨B,aJ af⟩ ⟨false,aJ V⟩)).n (aJ V * aJ X) from by unfold rL fN;rw [a0,aL];rfl);clear b2 b4 a0 aL;obtain ⟨x,y,bV,bW,b9,bn,ce⟩:∃x y,ag=limbs x/\V=limbs y/\ag.length<=64/\V.length<=64/\0<y:=⟨_,_,R.o.num,R.o.den,R.o.nl,R.o.dl,R.o.pos⟩;obtain ⟨x',y',bX,bY,bA,bo,cf⟩:∃x y,af=limbs x/\X=limbs y/\af.length<=64/\X.length<=64/\0<y:=⟨_,_,aP.o.num,aP.o.den,aP.o.nl,aP.o.dl,aP.o.pos⟩;subst bV bW bX bY;rw [aY,aY,aY,aY] at bx;clear R aP;go_enter func182,ntmps182
   go_wp2_with fail
   refine a8.o.mono ?_;rintro e a9 ⟨rfl,ay⟩;have a6:=Z ay;clear a2 a3 au a4 a5 av;obtain ⟨a2,a3,au,a4,a5,av⟩:=aZ.o a9 ay;clear bm a8 ay
   go_wp2_with fail
   refine(aS.o a9 a6.o).mono ?_;rintro e bb ⟨rfl,aX⟩;have bg:=Z (a6.o.trans (aX.mono a6.o.size));clear a2 a3 au a4 a5 av aI T;obtain ⟨a2,a3,au,a4,a5,av⟩:=aZ.o bb bg.o;obtain ⟨aC,U⟩:=aQ.o bb bg.o;have aI:=Z aC;have T:=Z U;clear aZ aQ bg a6 aX aS aC U;clear a9 w0;obtain ⟨w0,rfl⟩:∃W,W=bb:=⟨_,rfl⟩;have bc:=Z T.o.size;have a1:=Z (show(limbs (aU ⟨C,x⟩ ⟨false,y'⟩).n).length<=274877906944 from aH (fY b9 bo) (by decide));have ar:=Z (show(limbs (aU ⟨B,x'⟩ ⟨false,y⟩).n).length<=274877906944 from aH (fY bA bn) (by decide));have ch:=Z (show(limbs (gX (aU ⟨C,x⟩ ⟨false,y'⟩) (aU ⟨B,x'⟩ ⟨false,y⟩)).n).length<=274877906944 from aH (aSh (aU ⟨C,x⟩ ⟨false,y'⟩) (aU ⟨B,x'⟩ ⟨false,y⟩) (fY b9 bo) (fY bA bn)) (by decide));have ba:=Z (fun W (U:Below w0.heap.size w0 W)=>tW C false a al (limbs x).length (limbs y').length c am x y' W (aD.o.num.below (aG T U) aA) (q.o.den.below (aG T U) aA) (by omega) (by omega));have a7:=Z (fun W (U:Below w0.heap.size w0 W)=>tW B false an b (limbs x').length (limbs y).length ap d x' y W (q.o.num.below (aG T U) aA) (aD.o.den.below (aG T U) aA) (by omega) (by omega));have aR:=Z (show ∀W,Below w0.heap.size w0 W->(W.cell? ⟨w.heap.size,0,none⟩=some (.bool C)/\W.cell? ⟨w.heap.size,1,none⟩=some (.slice a (limbs x).length c)/\W.cell? ⟨w.heap.size,2,none⟩=some (.slice b (limbs y).length d))/\(W.cell? ⟨w.heap.size+1,0,none⟩=some (.bool B)/\W.cell? ⟨w.heap.size+1,1,none⟩=some (.slice an (limbs x').length ap)/\W.cell? ⟨w.heap.size+1,2,none⟩=some (.slice al (limbs y').length am)) from fun W I=>⟨⟨aB I a2,aB I a3,aB I au⟩,aB I a4,aB I a5,aB I av⟩)
   go_upto_region 3 with fail
   go_cut [6] from 16 to 26 (fun cj wc=>(∃(p:Nat) (a:Option Addr) (c:Nat),cj = .pointer (some ⟨p,0,none⟩)/\Hid (wc.heap[p]? = some (.cells #[.bool (gX (aU ⟨C,x⟩ ⟨false,y'⟩) (aU ⟨B,x'⟩ ⟨false,y⟩)).neg,.slice a (limbs (gX (aU ⟨C,x⟩ ⟨false,y'⟩) (aU ⟨B,x'⟩ ⟨false,y⟩)).n).length c] 160 (0,0)))/\Hid (bT cH.u64 (fun _=>True) wc a (limbs (gX (aU ⟨C,x⟩ ⟨false,y'⟩) (aU ⟨B,x'⟩ ⟨false,y⟩)).n).length (limbs (gX (aU ⟨C,x⟩ ⟨false,y'⟩) (aU ⟨B,x'⟩ ⟨false,y⟩)).n))/\(limbs (gX (aU ⟨C,x⟩ ⟨false,y'⟩) (aU ⟨B,x'⟩ ⟨false,y⟩)).n).length<=c/\c<=maxLen)/\Hid (Below w0.heap.size w0 wc))
   case first=>
    clear a2 a3 au a4 a5 av;refine bF (S:=fun W=>Below w0.heap.size w0 W) 12 (by kernel_rfl) (by kernel_rfl) (aF w0) (fun hdr=>?_);have g:=Z (aF w0);clear hdr;generalize w0.drew=wc at *;refine aE 0 (hy:=(Or.inl ⟨by rfl,by(intro W aK;have Y:=(aR.o W aK).1;have bi:=Y.1;have bj:=Y.2.1;have bk:=Y.2.2;go_simp <;> with_reducible rfl)⟩)) ?_;refine aE 2 (hy:=(Or.inl ⟨by rfl,by(intro W aK;have Y:=(aR.o W aK).2;have bi:=Y.1;have bj:=Y.2.1;have bk:=Y.2.2;go_simp <;> with_reducible rfl)⟩)) ?_;refine aE 5 (hy:=(Or.inl ⟨by rfl,by(intro W aK;have Y:=(aR.o W aK).2;have bi:=Y.1;have bj:=Y.2.1;have bk:=Y.2.2;go_simp <;> with_reducible rfl)⟩)) ?_;refine aE 7 (hy:=(Or.inl ⟨by rfl,by(intro W aK;have Y:=(aR.o W aK).1;have bi:=Y.1;have bj:=Y.2.1;have bk:=Y.2.2;go_simp <;> with_reducible rfl)⟩)) ?_;refine gW (rs:=[1,11]) (by decide +kernel) (cQ (by rfl) (fun q i=>?_) (cQ (by rfl) (fun q i=>?_) gV))
    ·skip
     go_simp
     go_at_call 212
     refine(nH _ _ _ _ _ _ _ wc).mono ?_;rintro G A ⟨rfl,f⟩;have g:=Z (aG g f);(try have t:=Z (t.o.below f aA));(try have m:=Z (m.o.below f aA));(try have l:=Z (l.o.move (Below.dat f) f.size));(try have j:=Z (bD f j.o));clear f;obtain ⟨wc,rfl⟩:∃W,W=A:=⟨_,rfl⟩;(try dsimp only);refine i.out _ _ (by(exact g.o)) (fun hHeld2=>?_);clear i q;(try simp only [Act.put,sA,sB,sC]);refine gW (rs:=[3,11]) (by decide +kernel) (cQ (by rfl) (fun q i=>?_) (cQ (by rfl) (fun q i=>?_) gV))
     ·skip
      go_simp
      go_at_call 213
      refine(lJ _ _ _ _ _ _ _ wc).mono ?_;rintro G A ⟨rfl,f⟩;have g:=Z (aG g f);(try have t:=Z (t.o.below f aA));(try have m:=Z (m.o.below f aA));(try have l:=Z (l.o.move (Below.dat f) f.size));(try have j:=Z (bD f j.o));clear f;obtain ⟨wc,rfl⟩:∃W,W=A:=⟨_,rfl⟩;(try dsimp only);refine i.out _ _ (by(exact g.o)) (fun hHeld3=>?_);clear i q;(try simp only [Act.put,sA,sB,sC]);refine gW (rs:=[4,11]) (by decide +kernel) (cQ (by rfl) (fun q i=>?_) (cQ (by rfl) (fun q i=>?_) gV))
      ·skip
       go_simp
       go_at_call 211
       refine(ba.o wc g.o).mono ?_;rintro G A ⟨ao,aq,rfl,H,Q,f⟩;have D:=Z (H.mono (S':=fun _=>True) fun _ _ _=>trivial);clear H Q;have g:=Z (aG g f);(try have t:=Z (t.o.below f aA));(try have m:=Z (m.o.below f aA));(try have l:=Z (l.o.move (Below.dat f) f.size));(try have j:=Z (bD f j.o));clear f;obtain ⟨wc,rfl⟩:∃W,W=A:=⟨_,rfl⟩;(try dsimp only);have t:=D;clear D;refine i.out _ _ (by(exact g.o)) (fun hHeld4=>?_);clear i q;(try simp only [Act.put,sA,sB,sC]);refine gW (rs:=[6,11]) (by decide +kernel) (cQ (by rfl) (fun q i=>?_) (cQ (by rfl) (fun q i=>?_) gV))
       ·skip
        go_simp
        go_at_call 212
        refine(nH _ _ _ _ _ _ _ wc).mono ?_;rintro G A ⟨rfl,f⟩;have g:=Z (aG g f);(try have t:=Z (t.o.below f aA));(try have m:=Z (m.o.below f aA));(try have l:=Z (l.o.move (Below.dat f) f.size));(try have j:=Z (bD f j.o));clear f;obtain ⟨wc,rfl⟩:∃W,W=A:=⟨_,rfl⟩;(try dsimp only);refine i.out _ _ (by(exact g.o)) (fun hHeld5=>?_);clear i q;(try simp only [Act.put,sA,sB,sC]);refine gW (rs:=[8,11]) (by decide +kernel) (cQ (by rfl) (fun q i=>?_) (cQ (by rfl) (fun q i=>?_) gV))
        ·skip
         go_simp
         go_at_call 213
         refine(lJ _ _ _ _ _ _ _ wc).mono ?_;rintro G A ⟨rfl,f⟩;have g:=Z (aG g f);(try have t:=Z (t.o.below f aA));(try have m:=Z (m.o.below f aA));(try have l:=Z (l.o.move (Below.dat f) f.size));(try have j:=Z (bD f j.o));clear f;obtain ⟨wc,rfl⟩:∃W,W=A:=⟨_,rfl⟩;(try dsimp only);refine i.out _ _ (by(exact g.o)) (fun hHeld6=>?_);clear i q;(try simp only [Act.put,sA,sB,sC]);refine gW (rs:=[9,11]) (by decide +kernel) (cQ (by rfl) (fun q i=>?_) (cQ (by rfl) (fun q i=>?_) gV))
         ·skip
          go_simp
          go_at_call 211
          refine(a7.o wc g.o).mono ?_;rintro G A ⟨aj,ak,rfl,H,Q,f⟩;have D:=Z (H.mono (S':=fun _=>True) fun _ _ _=>trivial);clear H Q;have g:=Z (aG g f);(try have t:=Z (t.o.below f aA));(try have m:=Z (m.o.below f aA));(try have l:=Z (l.o.move (Below.dat f) f.size));(try have j:=Z (bD f j.o));clear f;obtain ⟨wc,rfl⟩:∃W,W=A:=⟨_,rfl⟩;(try dsimp only);have m:=D;clear D;refine i.out _ _ (by(exact g.o)) (fun hHeld7=>?_);clear i q;(try simp only [Act.put,sA,sB,sC]);refine gW (rs:=[10,11]) (by decide +kernel) (cQ (by rfl) (fun q i=>?_) (cQ (by rfl) (fun q i=>?_) gV))
          ·skip
           have N:=Z (mU (aU ⟨C,x⟩ ⟨false,y'⟩).neg (aU ⟨B,x'⟩ ⟨false,y⟩).neg ao aj (limbs (aU ⟨C,x⟩ ⟨false,y'⟩).n).length (limbs (aU ⟨B,x'⟩ ⟨false,y⟩).n).length aq ak (aU ⟨C,x⟩ ⟨false,y'⟩).n (aU ⟨B,x'⟩ ⟨false,y⟩).n wc t.o m.o a1.o ar.o);go_simp
           go_at_call 214
           refine N.o.mono ?_;rintro G A ⟨L,M,rfl,P,O,f⟩;have D:=Z (P.mono (S':=fH w0.heap.size A) fun k _ h=>⟨h.1,aH g.o.size h.2⟩);have J:=Z O;clear P O N;have g:=Z (aG g f);(try have t:=Z (t.o.below f aA));(try have m:=Z (m.o.below f aA));(try have l:=Z (l.o.move (Below.dat f) f.size));(try have j:=Z (bD f j.o));clear f;obtain ⟨wc,rfl⟩:∃W,W=A:=⟨_,rfl⟩;(try dsimp only);have l:=D;clear D;refine i.out _ _ (by(exact g.o)) (fun hHeld8=>?_);clear i q;refine aV 11 fun q i=>?_;go_simp;have f:Below wc.heap.size wc (wc.alloc (.cells #[.bool false,.slice none 0 0] 160)):=bJ;have K:=Z (cC wc (.cells #[.bool false,.slice none 0 0] 160));have ai:=Z g.o.size;generalize aa:wc.alloc (.cells #[.bool false,.slice none 0 0] 160)=A at *;clear aa;have g:=Z (aG g f);(try have t:=Z (t.o.below f aA));(try have m:=Z (m.o.below f aA));(try have l:=Z (l.o.move (Below.dat f) f.size));(try have j:=Z (bD f j.o));clear f;generalize wc.heap.size=ah at *;obtain ⟨wc,rfl⟩:∃W,W=A:=⟨_,rfl⟩;(try dsimp only);have j:=K;clear K;refine i.out _ _ (by(exact g.o)) (fun hHeld9=>?_);clear i q;(try simp only [Act.put,sA,sB,sC]);refine cF (by decide +kernel) ?_;simp only [dL,cW];have F:=j.o;obtain ⟨az,z1⟩:=kE F;obtain ⟨aw,ax⟩:=kX F;clear F;go_wp2;go_meet
           case rel=>
            obtain ⟨ab,ad,ae⟩:=dQ (by decide) (by decide) [(0,.bool (gX (aU ⟨C,x⟩ ⟨false,y'⟩) (aU ⟨B,x'⟩ ⟨false,y⟩)).neg),(1,.slice L (limbs (gX (aU ⟨C,x⟩ ⟨false,y'⟩) (aU ⟨B,x'⟩ ⟨false,y⟩)).n).length M)] _ _ j.o;exact⟨⟨ah,L,M,rfl,set2 j.o,(l.o.move ab (cD ad.symm)).mono fun _ _ _=>trivial,J.o.1,J.o.2⟩,ae _ _ ai.o g.o⟩
          ·skip
           go_simp;have f:Below wc.heap.size wc (wc.alloc (.cells #[.bool false,.slice none 0 0] 160)):=bJ;have K:=Z (cC wc (.cells #[.bool false,.slice none 0 0] 160));have ai:=Z g.o.size;generalize aa:wc.alloc (.cells #[.bool false,.slice none 0 0] 160)=A at *;clear aa;have g:=Z (aG g f);(try have t:=Z (t.o.below f aA));(try have m:=Z (m.o.below f aA));(try have l:=Z (l.o.move (Below.dat f) f.size));(try have j:=Z (bD f j.o));clear f;generalize wc.heap.size=ah at *;obtain ⟨wc,rfl⟩:∃W,W=A:=⟨_,rfl⟩;(try dsimp only);have j:=K;clear K;refine i.out _ _ (by(exact g.o)) (fun hHeld8=>?_);clear i q;refine aV 10 fun q i=>?_;have N:=Z (mU (aU ⟨C,x⟩ ⟨false,y'⟩).neg (aU ⟨B,x'⟩ ⟨false,y⟩).neg ao aj (limbs (aU ⟨C,x⟩ ⟨false,y'⟩).n).length (limbs (aU ⟨B,x'⟩ ⟨false,y⟩).n).length aq ak (aU ⟨C,x⟩ ⟨false,y'⟩).n (aU ⟨B,x'⟩ ⟨false,y⟩).n wc t.o m.o a1.o ar.o);go_simp
           go_at_call 214
           refine N.o.mono ?_;rintro G A ⟨L,M,rfl,P,O,f⟩;have D:=Z (P.mono (S':=fH w0.heap.size A) fun k _ h=>⟨h.1,aH g.o.size h.2⟩);have J:=Z O;clear P O N;have g:=Z (aG g f);(try have t:=Z (t.o.below f aA));(try have m:=Z (m.o.below f aA));(try have l:=Z (l.o.move (Below.dat f) f.size));(try have j:=Z (bD f j.o));clear f;obtain ⟨wc,rfl⟩:∃W,W=A:=⟨_,rfl⟩;(try dsimp only);have l:=D;clear D;refine i.out _ _ (by(exact g.o)) (fun hHeld9=>?_);clear i q;(try simp only [Act.put,sA,sB,sC]);refine cF (by decide +kernel) ?_;simp only [dL,cW];have F:=j.o;obtain ⟨az,z1⟩:=kE F;obtain ⟨aw,ax⟩:=kX F;clear F;go_wp2;go_meet
           case rel=>
            obtain ⟨ab,ad,ae⟩:=dQ (by decide) (by decide) [(0,.bool (gX (aU ⟨C,x⟩ ⟨false,y'⟩) (aU ⟨B,x'⟩ ⟨false,y⟩)).neg),(1,.slice L (limbs (gX (aU ⟨C,x⟩ ⟨false,y'⟩) (aU ⟨B,x'⟩ ⟨false,y⟩)).n).length M)] _ _ j.o;exact⟨⟨ah,L,M,rfl,set2 j.o,(l.o.move ab (cD ad.symm)).mono fun _ _ _=>trivial,J.o.1,J.o.2⟩,ae _ _ ai.o g.o⟩
         ·skip
          go_simp;have f:Below wc.heap.size wc (wc.alloc (.cells #[.bool false,.slice none 0 0] 160)):=bJ;have K:=Z (cC wc (.cells #[.bool false,.slice none 0 0] 160));have ai:=Z g.o.size;generalize aa:wc.alloc (.cells #[.bool false,.slice none 0 0] 160)=A at *;clear aa;have g:=Z (aG g f);(try have t:=Z (t.o.below f aA));(try have m:=Z (m.o.below f aA));(try have l:=Z (l.o.move (Below.dat f) f.size));(try have j:=Z (bD f j.o));clear f;generalize wc.heap.size=ah at *;obtain ⟨wc,rfl⟩:∃W,W=A:=⟨_,rfl⟩;(try dsimp only);have j:=K;clear K;refine i.out _ _ (by(exact g.o)) (fun hHeld7=>?_);clear i q;refine aV 9 fun q i=>?_;go_simp
          go_at_call 211
          refine(a7.o wc g.o).mono ?_;rintro G A ⟨aj,ak,rfl,H,Q,f⟩;have D:=Z (H.mono (S':=fun _=>True) fun _ _ _=>trivial);clear H Q;have g:=Z (aG g f);(try have t:=Z (t.o.below f aA));(try have m:=Z (m.o.below f aA));(try have l:=Z (l.o.move (Below.dat f) f.size));(try have j:=Z (bD f j.o));clear f;obtain ⟨wc,rfl⟩:∃W,W=A:=⟨_,rfl⟩;(try dsimp only);have m:=D;clear D;refine i.out _ _ (by(exact g.o)) (fun hHeld8=>?_);clear i q;refine aV 10 fun q i=>?_;have N:=Z (mU (aU ⟨C,x⟩ ⟨false,y'⟩).neg (aU ⟨B,x'⟩ ⟨false,y⟩).neg ao aj (limbs (aU ⟨C,x⟩ ⟨false,y'⟩).n).length (limbs (aU ⟨B,x'⟩ ⟨false,y⟩).n).length aq ak (aU ⟨C,x⟩ ⟨false,y'⟩).n (aU ⟨B,x'⟩ ⟨false,y⟩).n wc t.o m.o a1.o ar.o);go_simp
          go_at_call 214
          refine N.o.mono ?_;rintro G A ⟨L,M,rfl,P,O,f⟩;have D:=Z (P.mono (S':=fH w0.heap.size A) fun k _ h=>⟨h.1,aH g.o.size h.2⟩);have J:=Z O;clear P O N;have g:=Z (aG g f);(try have t:=Z (t.o.below f aA));(try have m:=Z (m.o.below f aA));(try have l:=Z (l.o.move (Below.dat f) f.size));(try have j:=Z (bD f j.o));clear f;obtain ⟨wc,rfl⟩:∃W,W=A:=⟨_,rfl⟩;(try dsimp only);have l:=D;clear D;refine i.out _ _ (by(exact g.o)) (fun hHeld9=>?_);clear i q;(try simp only [Act.put,sA,sB,sC]);refine cF (by decide +kernel) ?_;simp only [dL,cW];have F:=j.o;obtain ⟨az,z1⟩:=kE F;obtain ⟨aw,ax⟩:=kX F;clear F;go_wp2;go_meet
          case rel=>
           obtain ⟨ab,ad,ae⟩:=dQ (by decide) (by decide) [(0,.bool (gX (aU ⟨C,x⟩ ⟨false,y'⟩) (aU ⟨B,x'⟩ ⟨false,y⟩)).neg),(1,.slice L (limbs (gX (aU ⟨C,x⟩ ⟨false,y'⟩) (aU ⟨B,x'⟩ ⟨false,y⟩)).n).length M)] _ _ j.o;exact⟨⟨ah,L,M,rfl,set2 j.o,(l.o.move ab (cD ad.symm)).mono fun _ _ _=>trivial,J.o.1,J.o.2⟩,ae _ _ ai.o g.o⟩
        ·skip
         go_simp;have f:Below wc.heap.size wc (wc.alloc (.cells #[.bool false,.slice none 0 0] 160)):=bJ;have K:=Z (cC wc (.cells #[.bool false,.slice none 0 0] 160));have ai:=Z g.o.size;generalize aa:wc.alloc (.cells #[.bool false,.slice none 0 0] 160)=A at *;clear aa;have g:=Z (aG g f);(try have t:=Z (t.o.below f aA));(try have m:=Z (m.o.below f aA));(try have l:=Z (l.o.move (Below.dat f) f.size));(try have j:=Z (bD f j.o));clear f;generalize wc.heap.size=ah at *;obtain ⟨wc,rfl⟩:∃W,W=A:=⟨_,rfl⟩;(try dsimp only);have j:=K;clear K;refine i.out _ _ (by(exact g.o)) (fun hHeld6=>?_);clear i q;refine aV 8 fun q i=>?_;go_simp
         go_at_call 213
         refine(lJ _ _ _ _ _ _ _ wc).mono ?_;rintro G A ⟨rfl,f⟩;have g:=Z (aG g f);(try have t:=Z (t.o.below f aA));(try have m:=Z (m.o.below f aA));(try have l:=Z (l.o.move (Below.dat f) f.size));(try have j:=Z (bD f j.o));clear f;obtain ⟨wc,rfl⟩:∃W,W=A:=⟨_,rfl⟩;(try dsimp only);refine i.out _ _ (by(exact g.o)) (fun hHeld7=>?_);clear i q;refine aV 9 fun q i=>?_;go_simp
         go_at_call 211
         refine(a7.o wc g.o).mono ?_;rintro G A ⟨aj,ak,rfl,H,Q,f⟩;have D:=Z (H.mono (S':=fun _=>True) fun _ _ _=>trivial);clear H Q;have g:=Z (aG g f);(try have t:=Z (t.o.below f aA));(try have m:=Z (m.o.below f aA));(try have l:=Z (l.o.move (Below.dat f) f.size));(try have j:=Z (bD f j.o));clear f;obtain ⟨wc,rfl⟩:∃W,W=A:=⟨_,rfl⟩;(try dsimp only);have m:=D;clear D;refine i.out _ _ (by(exact g.o)) (fun hHeld8=>?_);clear i q;refine aV 10 fun q i=>?_;have N:=Z (mU (aU ⟨C,x⟩ ⟨false,y'⟩).neg (aU ⟨B,x'⟩ ⟨false,y⟩).neg ao aj (limbs (aU ⟨C,x⟩ ⟨false,y'⟩).n).length (limbs (aU ⟨B,x'⟩ ⟨false,y⟩).n).length aq ak (aU ⟨C,x⟩ ⟨false,y'⟩).n (aU ⟨B,x'⟩ ⟨false,y⟩).n wc t.o m.o a1.o ar.o);go_simp
         go_at_call 214
         refine N.o.mono ?_;rintro G A ⟨L,M,rfl,P,O,f⟩;have D:=Z (P.mono (S':=fH w0.heap.size A) fun k _ h=>⟨h.1,aH g.o.size h.2⟩);have J:=Z O;clear P O N;have g:=Z (aG g f);(try have t:=Z (t.o.below f aA));(try have m:=Z (m.o.below f aA));(try have l:=Z (l.o.move (Below.dat f) f.size));(try have j:=Z (bD f j.o));clear f;obtain ⟨wc,rfl⟩:∃W,W=A:=⟨_,rfl⟩;(try dsimp only);have l:=D;clear D;refine i.out _ _ (by(exact g.o)) (fun hHeld9=>?_);clear i q;(try simp only [Act.put,sA,sB,sC]);refine cF (by decide +kernel) ?_;simp only [dL,cW];have F:=j.o;obtain ⟨az,z1⟩:=kE F;obtain ⟨aw,ax⟩:=kX F;clear F;go_wp2;go_meet
         case rel=>
          obtain ⟨ab,ad,ae⟩:=dQ (by decide) (by decide) [(0,.bool (gX (aU ⟨C,x⟩ ⟨false,y'⟩) (aU ⟨B,x'⟩ ⟨false,y⟩)).neg),(1,.slice L (limbs (gX (aU ⟨C,x⟩ ⟨false,y'⟩) (aU ⟨B,x'⟩ ⟨false,y⟩)).n).length M)] _ _ j.o;exact⟨⟨ah,L,M,rfl,set2 j.o,(l.o.move ab (cD ad.symm)).mono fun _ _ _=>trivial,J.o.1,J.o.2⟩,ae _ _ ai.o g.o⟩
       ·skip
        go_simp;have f:Below wc.heap.size wc (wc.alloc (.cells #[.bool false,.slice none 0 0] 160)):=bJ;have K:=Z (cC wc (.cells #[.bool false,.slice none 0 0] 160));have ai:=Z g.o.size;generalize aa:wc.alloc (.cells #[.bool false,.slice none 0 0] 160)=A at *;clear aa;have g:=Z (aG g f);(try have t:=Z (t.o.below f aA));(try have m:=Z (m.o.below f aA));(try have l:=Z (l.o.move (Below.dat f) f.size));(try have j:=Z (bD f j.o));clear f;generalize wc.heap.size=ah at *;obtain ⟨wc,rfl⟩:∃W,W=A:=⟨_,rfl⟩;(try dsimp only);have j:=K;clear K;refine i.out _ _ (by(exact g.o)) (fun hHeld5=>?_);clear i q;refine aV 6 fun q i=>?_;go_simp
        go_at_call 212
        refine(nH _ _ _ _ _ _ _ wc).mono ?_;rintro G A ⟨rfl,f⟩;have g:=Z (aG g f);(try have t:=Z (t.o.below f aA));(try have m:=Z (m.o.below f aA));(try have l:=Z (l.o.move (Below.dat f) f.size));(try have j:=Z (bD f j.o));clear f;obtain ⟨wc,rfl⟩:∃W,W=A:=⟨_,rfl⟩;(try dsimp only);refine i.out _ _ (by(exact g.o)) (fun hHeld6=>?_);clear i q;refine aV 8 fun q i=>?_;go_simp
        go_at_call 213
        refine(lJ _ _ _ _ _ _ _ wc).mono ?_;rintro G A ⟨rfl,f⟩;have g:=Z (aG g f);(try have t:=Z (t.o.below f aA));(try have m:=Z (m.o.below f aA));(try have l:=Z (l.o.move (Below.dat f) f.size));(try have j:=Z (bD f j.o));clear f;obtain ⟨wc,rfl⟩:∃W,W=A:=⟨_,rfl⟩;(try dsimp only);refine i.out _ _ (by(exact g.o)) (fun hHeld7=>?_);clear i q;refine aV 9 fun q i=>?_;go_simp
        go_at_call 211
        refine(a7.o wc g.o).mono ?_;rintro G A ⟨aj,ak,rfl,H,Q,f⟩;have D:=Z (H.mono (S':=fun _=>True) fun _ _ _=>trivial);clear H Q;have g:=Z (aG g f);(try have t:=Z (t.o.below f aA));(try have m:=Z (m.o.below f aA));(try have l:=Z (l.o.move (Below.dat f) f.size));(try have j:=Z (bD f j.o));clear f;obtain ⟨wc,rfl⟩:∃W,W=A:=⟨_,rfl⟩;(try dsimp only);have m:=D;clear D;refine i.out _ _ (by(exact g.o)) (fun hHeld8=>?_);clear i q;refine aV 10 fun q i=>?_;have N:=Z (mU (aU ⟨C,x⟩ ⟨false,y'⟩).neg (aU ⟨B,x'⟩ ⟨false,y⟩).neg ao aj (limbs (aU ⟨C,x⟩ ⟨false,y'⟩).n).length (limbs (aU ⟨B,x'⟩ ⟨false,y⟩).n).length aq ak (aU ⟨C,x⟩ ⟨false,y'⟩).n (aU ⟨B,x'⟩ ⟨false,y⟩).n wc t.o m.o a1.o ar.o);go_simp
        go_at_call 214
        refine N.o.mono ?_;rintro G A ⟨L,M,rfl,P,O,f⟩;have D:=Z (P.mono (S':=fH w0.heap.size A) fun k _ h=>⟨h.1,aH g.o.size h.2⟩);have J:=Z O;clear P O N;have g:=Z (aG g f);(try have t:=Z (t.o.below f aA));(try have m:=Z (m.o.below f aA));(try have l:=Z (l.o.move (Below.dat f) f.size));(try have j:=Z (bD f j.o));clear f;obtain ⟨wc,rfl⟩:∃W,W=A:=⟨_,rfl⟩;(try dsimp only);have l:=D;clear D;refine i.out _ _ (by(exact g.o)) (fun hHeld9=>?_);clear i q;(try simp only [Act.put,sA,sB,sC]);refine cF (by decide +kernel) ?_;simp only [dL,cW];have F:=j.o;obtain ⟨az,z1⟩:=kE F;obtain ⟨aw,ax⟩:=kX F;clear F;go_wp2;go_meet
        case rel=>
         obtain ⟨ab,ad,ae⟩:=dQ (by decide) (by decide) [(0,.bool (gX (aU ⟨C,x⟩ ⟨false,y'⟩) (aU ⟨B,x'⟩ ⟨false,y⟩)).neg),(1,.slice L (limbs (gX (aU ⟨C,x⟩ ⟨false,y'⟩) (aU ⟨B,x'⟩ ⟨false,y⟩)).n).length M)] _ _ j.o;exact⟨⟨ah,L,M,rfl,set2 j.o,(l.o.move ab (cD ad.symm)).mono fun _ _ _=>trivial,J.o.1,J.o.2⟩,ae _ _ ai.o g.o⟩
      ·skip
       go_simp;have f:Below wc.heap.size wc (wc.alloc (.cells #[.bool false,.slice none 0 0] 160)):=bJ;have K:=Z (cC wc (.cells #[.bool false,.slice none 0 0] 160));have ai:=Z g.o.size;generalize aa:wc.alloc (.cells #[.bool false,.slice none 0 0] 160)=A at *;clear aa;have g:=Z (aG g f);(try have t:=Z (t.o.below f aA));(try have m:=Z (m.o.below f aA));(try have l:=Z (l.o.move (Below.dat f) f.size));(try have j:=Z (bD f j.o));clear f;generalize wc.heap.size=ah at *;obtain ⟨wc,rfl⟩:∃W,W=A:=⟨_,rfl⟩;(try dsimp only);have j:=K;clear K;refine i.out _ _ (by(exact g.o)) (fun hHeld4=>?_);clear i q;refine aV 4 fun q i=>?_;go_simp
       go_at_call 211
       refine(ba.o wc g.o).mono ?_;rintro G A ⟨ao,aq,rfl,H,Q,f⟩;have D:=Z (H.mono (S':=fun _=>True) fun _ _ _=>trivial);clear H Q;have g:=Z (aG g f);(try have t:=Z (t.o.below f aA));(try have m:=Z (m.o.below f aA));(try have l:=Z (l.o.move (Below.dat f) f.size));(try have j:=Z (bD f j.o));clear f;obtain ⟨wc,rfl⟩:∃W,W=A:=⟨_,rfl⟩;(try dsimp only);have t:=D;clear D;refine i.out _ _ (by(exact g.o)) (fun hHeld5=>?_);clear i q;refine aV 6 fun q i=>?_;go_simp
       go_at_call 212
       refine(nH _ _ _ _ _ _ _ wc).mono ?_;rintro G A ⟨rfl,f⟩;have g:=Z (aG g f);(try have t:=Z (t.o.below f aA));(try have m:=Z (m.o.below f aA));(try have l:=Z (l.o.move (Below.dat f) f.size));(try have j:=Z (bD f j.o));clear f;obtain ⟨wc,rfl⟩:∃W,W=A:=⟨_,rfl⟩;(try dsimp only);refine i.out _ _ (by(exact g.o)) (fun hHeld6=>?_);clear i q;refine aV 8 fun q i=>?_;go_simp
       go_at_call 213
       refine(lJ _ _ _ _ _ _ _ wc).mono ?_;rintro G A ⟨rfl,f⟩;have g:=Z (aG g f);(try have t:=Z (t.o.below f aA));(try have m:=Z (m.o.below f aA));(try have l:=Z (l.o.move (Below.dat f) f.size));(try have j:=Z (bD f j.o));clear f;obtain ⟨wc,rfl⟩:∃W,W=A:=⟨_,rfl⟩;(try dsimp only);refine i.out _ _ (by(exact g.o)) (fun hHeld7=>?_);clear i q;refine aV 9 fun q i=>?_;go_simp
       go_at_call 211
       refine(a7.o wc g.o).mono ?_;rintro G A ⟨aj,ak,rfl,H,Q,f⟩;have D:=Z (H.mono (S':=fun _=>True) fun _ _ _=>trivial);clear H Q;have g:=Z (aG g f);(try have t:=Z (t.o.below f aA));(try have m:=Z (m.o.below f aA));(try have l:=Z (l.o.move (Below.dat f) f.size));(try have j:=Z (bD f j.o));clear f;obtain ⟨wc,rfl⟩:∃W,W=A:=⟨_,rfl⟩;(try dsimp only);have m:=D;clear D;refine i.out _ _ (by(exact g.o)) (fun hHeld8=>?_);clear i q;refine aV 10 fun q i=>?_;have N:=Z (mU (aU ⟨C,x⟩ ⟨false,y'⟩).neg (aU ⟨B,x'⟩ ⟨false,y⟩).neg ao aj (limbs (aU ⟨C,x⟩ ⟨false,y'⟩).n).length (limbs (aU ⟨B,x'⟩ ⟨false,y⟩).n).length aq ak (aU ⟨C,x⟩ ⟨false,y'⟩).n (aU ⟨B,x'⟩ ⟨false,y⟩).n wc t.o m.o a1.o ar.o);go_simp
       go_at_call 214
       refine N.o.mono ?_;rintro G A ⟨L,M,rfl,P,O,f⟩;have D:=Z (P.mono (S':=fH w0.heap.size A) fun k _ h=>⟨h.1,aH g.o.size h.2⟩);have J:=Z O;clear P O N;have g:=Z (aG g f);(try have t:=Z (t.o.below f aA));(try have m:=Z (m.o.below f aA));(try have l:=Z (l.o.move (Below.dat f) f.size));(try have j:=Z (bD f j.o));clear f;obtain ⟨wc,rfl⟩:∃W,W=A:=⟨_,rfl⟩;(try dsimp only);have l:=D;clear D;refine i.out _ _ (by(exact g.o)) (fun hHeld9=>?_);clear i q;(try simp only [Act.put,sA,sB,sC]);refine cF (by decide +kernel) ?_;simp only [dL,cW];have F:=j.o;obtain ⟨az,z1⟩:=kE F;obtain ⟨aw,ax⟩:=kX F;clear F;go_wp2;go_meet
       case rel=>
        obtain ⟨ab,ad,ae⟩:=dQ (by decide) (by decide) [(0,.bool (gX (aU ⟨C,x⟩ ⟨false,y'⟩) (aU ⟨B,x'⟩ ⟨false,y⟩)).neg),(1,.slice L (limbs (gX (aU ⟨C,x⟩ ⟨false,y'⟩) (aU ⟨B,x'⟩ ⟨false,y⟩)).n).length M)] _ _ j.o;exact⟨⟨ah,L,M,rfl,set2 j.o,(l.o.move ab (cD ad.symm)).mono fun _ _ _=>trivial,J.o.1,J.o.2⟩,ae _ _ ai.o g.o⟩
     ·skip
      go_simp;have f:Below wc.heap.size wc (wc.alloc (.cells #[.bool false,.slice none 0 0] 160)):=bJ;have K:=Z (cC wc (.cells #[.bool false,.slice none 0 0] 160));have ai:=Z g.o.size;generalize aa:wc.alloc (.cells #[.bool false,.slice none 0 0] 160)=A at *;clear aa;have g:=Z (aG g f);(try have t:=Z (t.o.below f aA));(try have m:=Z (m.o.below f aA));(try have l:=Z (l.o.move (Below.dat f) f.size));(try have j:=Z (bD f j.o));clear f;generalize wc.heap.size=ah at *;obtain ⟨wc,rfl⟩:∃W,W=A:=⟨_,rfl⟩;(try dsimp only);have j:=K;clear K;refine i.out _ _ (by(exact g.o)) (fun hHeld3=>?_);clear i q;refine aV 3 fun q i=>?_;go_simp
      go_at_call 213
      refine(lJ _ _ _ _ _ _ _ wc).mono ?_;rintro G A ⟨rfl,f⟩;have g:=Z (aG g f);(try have t:=Z (t.o.below f aA));(try have m:=Z (m.o.below f aA));(try have l:=Z (l.o.move (Below.dat f) f.size));(try have j:=Z (bD f j.o));clear f;obtain ⟨wc,rfl⟩:∃W,W=A:=⟨_,rfl⟩;(try dsimp only);refine i.out _ _ (by(exact g.o)) (fun hHeld4=>?_);clear i q;refine aV 4 fun q i=>?_;go_simp
      go_at_call 211
      refine(ba.o wc g.o).mono ?_;rintro G A ⟨ao,aq,rfl,H,Q,f⟩;have D:=Z (H.mono (S':=fun _=>True) fun _ _ _=>trivial);clear H Q;have g:=Z (aG g f);(try have t:=Z (t.o.below f aA));(try have m:=Z (m.o.below f aA));(try have l:=Z (l.o.move (Below.dat f) f.size));(try have j:=Z (bD f j.o));clear f;obtain ⟨wc,rfl⟩:∃W,W=A:=⟨_,rfl⟩;(try dsimp only);have t:=D;clear D;refine i.out _ _ (by(exact g.o)) (fun hHeld5=>?_);clear i q;refine aV 6 fun q i=>?_;go_simp
      go_at_call 212
      refine(nH _ _ _ _ _ _ _ wc).mono ?_;rintro G A ⟨rfl,f⟩;have g:=Z (aG g f);(try have t:=Z (t.o.below f aA));(try have m:=Z (m.o.below f aA));(try have l:=Z (l.o.move (Below.dat f) f.size));(try have j:=Z (bD f j.o));clear f;obtain ⟨wc,rfl⟩:∃W,W=A:=⟨_,rfl⟩;(try dsimp only);refine i.out _ _ (by(exact g.o)) (fun hHeld6=>?_);clear i q;refine aV 8 fun q i=>?_;go_simp
      go_at_call 213
      refine(lJ _ _ _ _ _ _ _ wc).mono ?_;rintro G A ⟨rfl,f⟩;have g:=Z (aG g f);(try have t:=Z (t.o.below f aA));(try have m:=Z (m.o.below f aA));(try have l:=Z (l.o.move (Below.dat f) f.size));(try have j:=Z (bD f j.o));clear f;obtain ⟨wc,rfl⟩:∃W,W=A:=⟨_,rfl⟩;(try dsimp only);refine i.out _ _ (by(exact g.o)) (fun hHeld7=>?_);clear i q;refine aV 9 fun q i=>?_;go_simp
      go_at_call 211
      refine(a7.o wc g.o).mono ?_;rintro G A ⟨aj,ak,rfl,H,Q,f⟩;have D:=Z (H.mono (S':=fun _=>True) fun _ _ _=>trivial);clear H Q;have g:=Z (aG g f);(try have t:=Z (t.o.below f aA));(try have m:=Z (m.o.below f aA));(try have l:=Z (l.o.move (Below.dat f) f.size));(try have j:=Z (bD f j.o));clear f;obtain ⟨wc,rfl⟩:∃W,W=A:=⟨_,rfl⟩;(try dsimp only);have m:=D;clear D;refine i.out _ _ (by(exact g.o)) (fun hHeld8=>?_);clear i q;refine aV 10 fun q i=>?_;have N:=Z (mU (aU ⟨C,x⟩ ⟨false,y'⟩).neg (aU ⟨B,x'⟩ ⟨false,y⟩).neg ao aj (limbs (aU ⟨C,x⟩ ⟨false,y'⟩).n).length (limbs (aU ⟨B,x'⟩ ⟨false,y⟩).n).length aq ak (aU ⟨C,x⟩ ⟨false,y'⟩).n (aU ⟨B,x'⟩ ⟨false,y⟩).n wc t.o m.o a1.o ar.o);go_simp
      go_at_call 214
      refine N.o.mono ?_;rintro G A ⟨L,M,rfl,P,O,f⟩;have D:=Z (P.mono (S':=fH w0.heap.size A) fun k _ h=>⟨h.1,aH g.o.size h.2⟩);have J:=Z O;clear P O N;have g:=Z (aG g f);(try have t:=Z (t.o.below f aA));(try have m:=Z (m.o.below f aA));(try have l:=Z (l.o.move (Below.dat f) f.size));(try have j:=Z (bD f j.o));clear f;obtain ⟨wc,rfl⟩:∃W,W=A:=⟨_,rfl⟩;(try dsimp only);have l:=D;clear D;refine i.out _ _ (by(exact g.o)) (fun hHeld9=>?_);clear i q;(try simp only [Act.put,sA,sB,sC]);refine cF (by decide +kernel) ?_;simp only [dL,cW];have F:=j.o;obtain ⟨az,z1⟩:=kE F;obtain ⟨aw,ax⟩:=kX F;clear F;go_wp2;go_meet
      case rel=>
       obtain ⟨ab,ad,ae⟩:=dQ (by decide) (by decide) [(0,.bool (gX (aU ⟨C,x⟩ ⟨false,y'⟩) (aU ⟨B,x'⟩ ⟨false,y⟩)).neg),(1,.slice L (limbs (gX (aU ⟨C,x⟩ ⟨false,y'⟩) (aU ⟨B,x'⟩ ⟨false,y⟩)).n).length M)] _ _ j.o;exact⟨⟨ah,L,M,rfl,set2 j.o,(l.o.move ab (cD ad.symm)).mono fun _ _ _=>trivial,J.o.1,J.o.2⟩,ae _ _ ai.o g.o⟩
    ·skip
     go_simp;have f:Below wc.heap.size wc (wc.alloc (.cells #[.bool false,.slice none 0 0] 160)):=bJ;have K:=Z (cC wc (.cells #[.bool false,.slice none 0 0] 160));have ai:=Z g.o.size;generalize aa:wc.alloc (.cells #[.bool false,.slice none 0 0] 160)=A at *;clear aa;have g:=Z (aG g f);(try have t:=Z (t.o.below f aA));(try have m:=Z (m.o.below f aA));(try have l:=Z (l.o.move (Below.dat f) f.size));(try have j:=Z (bD f j.o));clear f;generalize wc.heap.size=ah at *;obtain ⟨wc,rfl⟩:∃W,W=A:=⟨_,rfl⟩;(try dsimp only);have j:=K;clear K;refine i.out _ _ (by(exact g.o)) (fun hHeld2=>?_);clear i q;refine aV 1 fun q i=>?_;go_simp
     go_at_call 212
     refine(nH _ _ _ _ _ _ _ wc).mono ?_;rintro G A ⟨rfl,f⟩;have g:=Z (aG g f);(try have t:=Z (t.o.below f aA));(try have m:=Z (m.o.below f aA));(try have l:=Z (l.o.move (Below.dat f) f.size));(try have j:=Z (bD f j.o));clear f;obtain ⟨wc,rfl⟩:∃W,W=A:=⟨_,rfl⟩;(try dsimp only);refine i.out _ _ (by(exact g.o)) (fun hHeld3=>?_);clear i q;refine aV 3 fun q i=>?_;go_simp
     go_at_call 213
     refine(lJ _ _ _ _ _ _ _ wc).mono ?_;rintro G A ⟨rfl,f⟩;have g:=Z (aG g f);(try have t:=Z (t.o.below f aA));(try have m:=Z (m.o.below f aA));(try have l:=Z (l.o.move (Below.dat f) f.size));(try have j:=Z (bD f j.o));clear f;obtain ⟨wc,rfl⟩:∃W,W=A:=⟨_,rfl⟩;(try dsimp only);refine i.out _ _ (by(exact g.o)) (fun hHeld4=>?_);clear i q;refine aV 4 fun q i=>?_;go_simp
     go_at_call 211
     refine(ba.o wc g.o).mono ?_;rintro G A ⟨ao,aq,rfl,H,Q,f⟩;have D:=Z (H.mono (S':=fun _=>True) fun _ _ _=>trivial);clear H Q;have g:=Z (aG g f);(try have t:=Z (t.o.below f aA));(try have m:=Z (m.o.below f aA));(try have l:=Z (l.o.move (Below.dat f) f.size));(try have j:=Z (bD f j.o));clear f;obtain ⟨wc,rfl⟩:∃W,W=A:=⟨_,rfl⟩;(try dsimp only);have t:=D;clear D;refine i.out _ _ (by(exact g.o)) (fun hHeld5=>?_);clear i q;refine aV 6 fun q i=>?_;go_simp
     go_at_call 212
     refine(nH _ _ _ _ _ _ _ wc).mono ?_;rintro G A ⟨rfl,f⟩;have g:=Z (aG g f);(try have t:=Z (t.o.below f aA));(try have m:=Z (m.o.below f aA));(try have l:=Z (l.o.move (Below.dat f) f.size));(try have j:=Z (bD f j.o));clear f;obtain ⟨wc,rfl⟩:∃W,W=A:=⟨_,rfl⟩;(try dsimp only);refine i.out _ _ (by(exact g.o)) (fun hHeld6=>?_);clear i q;refine aV 8 fun q i=>?_;go_simp
     go_at_call 213
     refine(lJ _ _ _ _ _ _ _ wc).mono ?_;rintro G A ⟨rfl,f⟩;have g:=Z (aG g f);(try have t:=Z (t.o.below f aA));(try have m:=Z (m.o.below f aA));(try have l:=Z (l.o.move (Below.dat f) f.size));(try have j:=Z (bD f j.o));clear f;obtain ⟨wc,rfl⟩:∃W,W=A:=⟨_,rfl⟩;(try dsimp only);refine i.out _ _ (by(exact g.o)) (fun hHeld7=>?_);clear i q;refine aV 9 fun q i=>?_;go_simp
     go_at_call 211
     refine(a7.o wc g.o).mono ?_;rintro G A ⟨aj,ak,rfl,H,Q,f⟩;have D:=Z (H.mono (S':=fun _=>True) fun _ _ _=>trivial);clear H Q;have g:=Z (aG g f);(try have t:=Z (t.o.below f aA));(try have m:=Z (m.o.below f aA));(try have l:=Z (l.o.move (Below.dat f) f.size));(try have j:=Z (bD f j.o));clear f;obtain ⟨wc,rfl⟩:∃W,W=A:=⟨_,rfl⟩;(try dsimp only);have m:=D;clear D;refine i.out _ _ (by(exact g.o)) (fun hHeld8=>?_);clear i q;refine aV 10 fun q i=>?_;have N:=Z (mU (aU ⟨C,x⟩ ⟨false,y'⟩).neg (aU ⟨B,x'⟩ ⟨false,y⟩).neg ao aj (limbs (aU ⟨C,x⟩ ⟨false,y'⟩).n).length (limbs (aU ⟨B,x'⟩ ⟨false,y⟩).n).length aq ak (aU ⟨C,x⟩ ⟨false,y'⟩).n (aU ⟨B,x'⟩ ⟨false,y⟩).n wc t.o m.o a1.o ar.o);go_simp
     go_at_call 214
     refine N.o.mono ?_;rintro G A ⟨L,M,rfl,P,O,f⟩;have D:=Z (P.mono (S':=fH w0.heap.size A) fun k _ h=>⟨h.1,aH g.o.size h.2⟩);have J:=Z O;clear P O N;have g:=Z (aG g f);(try have t:=Z (t.o.below f aA));(try have m:=Z (m.o.below f aA));(try have l:=Z (l.o.move (Below.dat f) f.size));(try have j:=Z (bD f j.o));clear f;obtain ⟨wc,rfl⟩:∃W,W=A:=⟨_,rfl⟩;(try dsimp only);have l:=D;clear D;refine i.out _ _ (by(exact g.o)) (fun hHeld9=>?_);clear i q;(try simp only [Act.put,sA,sB,sC]);refine cF (by decide +kernel) ?_;simp only [dL,cW];have F:=j.o;obtain ⟨az,z1⟩:=kE F;obtain ⟨aw,ax⟩:=kX F;clear F;go_wp2;go_meet
     case rel=>
      obtain ⟨ab,ad,ae⟩:=dQ (by decide) (by decide) [(0,.bool (gX (aU ⟨C,x⟩ ⟨false,y'⟩) (aU ⟨B,x'⟩ ⟨false,y⟩)).neg),(1,.slice L (limbs (gX (aU ⟨C,x⟩ ⟨false,y'⟩) (aU ⟨B,x'⟩ ⟨false,y⟩)).n).length M)] _ _ j.o;exact⟨⟨ah,L,M,rfl,set2 j.o,(l.o.move ab (cD ad.symm)).mono fun _ _ _=>trivial,J.o.1,J.o.2⟩,ae _ _ ai.o g.o⟩
   case rest=>
    obtain ⟨⟨p,bR,bU,rfl,b0,bO,b7,b8⟩,I⟩:=hcut;have bM:=Z (And.intro b7 b8);obtain ⟨cl,cm⟩:=kE b0.o;have bp:=Z (bD I.o aI.o);have aM:=Z (aG T I.o);clear a2 a3 au a4 a5 av;obtain ⟨⟨_,_,au⟩,_,_,av⟩:=aR.o wc I.o;clear a1 ar ba a7 aR b0 b7 b8 I aI T bc;clear w0;obtain ⟨w0,rfl⟩:∃W,W=wc:=⟨_,rfl⟩;have aI:=bp;have T:=aM;have bc:=Z T.o.size;clear bp aM;have b5:=Z (fun W (U:Below w0.heap.size w0 W)=>lQ b al (limbs y).length (limbs y').length d am y y' W (aD.o.den.below (aG T U) aA) (q.o.den.below (aG T U) aA) (by omega) (by omega));have ar:=Z (show(limbs (y * y')).length<=274877906944 from aH (fY bn bo) (by decide));have cg:=Z (show 0<y * y' from qW ce cf);generalize (gX (aU ⟨C,x⟩ ⟨false,y'⟩) (aU ⟨B,x'⟩ ⟨false,y⟩))=z at *;generalize y * y'=z2 at *;go_wp2;refine bF (S:=fun W=>Below w0.heap.size w0 W) 12 (by kernel_rfl) (by kernel_rfl) (aF w0) (fun _=>?_);refine aE 0 ?_;refine dF 1 (fun W h=>aB h cl) ?_;refine aE 2 ?_;refine dF 3 (fun W h=>aB h cm) ?_;refine aE 4 ?_;refine dF 5 (fun W h=>aB h au) ?_;refine aE 6 ?_;refine dF 7 (fun W h=>aB h av) ?_;refine aV 8 fun q i=>?_;go_simp
    go_at_call 216
    refine(b5.o _ (aF w0)).mono ?_;rintro G bK ⟨bQ,bS,rfl,bI,b6,bB,br⟩;have aT:Below w0.heap.size w0 bK:=(aF w0).trans (br.mono (aF w0).size);have bz:=Z (xY z.neg bR bQ (limbs z.n).length (limbs z2).length bU bS z.n z2 bK (bO.o.below aT aA) (bI.mono (S':=fun _=>True) fun _ _ _=>trivial) ch.o ar.o bM.o ⟨b6,bB⟩ cg.o);clear bI br b6 bB b5;generalize fJ z.neg z.n z2=ci at *;obtain ⟨R,er⟩:=ci;dsimp only;refine i.out _ _ (by(exact aT)) (fun hHeld2=>?_);clear i q;refine aV 9 fun q i=>?_;go_simp
    go_at_call 215
    refine bz.o.mono ?_;rintro G ck ⟨cn,rfl,bq,bt,bu,bv,cd,bC,bE,bG,bH,bs⟩;cases cd;have bL:=aT.size;have bf:Below w0.heap.size w0 ck:=aT.trans (bs.mono aT.size);have P1:=Z bC;have P2:=Z bE;have P3:=Z bG;have bN:=Z bH;clear bC bE bG bH bs bz;dsimp only;refine i.out _ _ (by(exact bf)) (fun hHeld3=>?_);clear i q;(try simp only [Act.put,sA,sB,sC]);refine aE 10 ?_;refine aE 11 ?_;refine cF (by decide +kernel) ?_;simp only [dL,cW];have F:=bD bf aI.o;have bP:=Z F;obtain ⟨az,z1,z2⟩:=eH F;obtain ⟨aw,ax,bw⟩:=gB F;clear F;go_wp2;refine bodyPost_ret (v:=.tuple #[fA R bq bt bu bv,.int .i64 er]) (by simp [results,results182,go_sem, *]) rfl ?_;rw [bx.o];exact⟨_,rfl,dP.set (r:=R) (by decide) (by decide) bP.o (by omega) (P1.o.mono fun k _ h=>⟨h.1,aH (aH bc.o bL) h.2⟩) (P2.o.mono fun k _ h=>⟨h.1,aH (aH bc.o bL) h.2⟩) P3.o bN.o (aG T bf) [(0,.bool R.neg),(1,.slice bq R.num.length bt),(2,.slice bu R.den.length bv)]⟩
end
section
variable {S S' : Nat -> Prop}
theorem aJv (r:cJ) (a b:Option Addr) (c d:Nat) (w:World) (h:jI S w r a c b d) (aw:r.num.length<=1000000) (av:r.den.length<=1000000) :
  Calls prog 181 #[fA r a c b d] w fun e w'=>dP (oG r) w e w':=by
 have C:=Z h;obtain ⟨z,f,g⟩:=r;dsimp only at *;clear h;have q:=Z (eV w (.cells #[.bool z,.slice a f.length c,.slice b g.length d] 36) (.cells #[.bool false,.slice none 0 0,.slice none 0 0] 36));have ak:=fI w (.cells #[.bool z,.slice a f.length c,.slice b g.length d] 36) (.cells #[.bool false,.slice none 0 0,.slice none 0 0] 36);have i:=Z (cV w (.cells #[.bool z,.slice a f.length c,.slice b g.length d] 36) (.cells #[.bool false,.slice none 0 0,.slice none 0 0] 36));generalize aj:(w.alloc (.cells #[.bool z,.slice a f.length c,.slice b g.length d] 36)).alloc (.cells #[.bool false,.slice none 0 0,.slice none 0 0] 36)=w0 at *;have F:w0.cell? ⟨w.heap.size,0,none⟩=some (.bool z):=E ak 0;have s:w0.cell? ⟨w.heap.size,1,none⟩=some (.slice a f.length c):=E ak 1;have G:w0.cell? ⟨w.heap.size,2,none⟩=some (.slice b g.length d):=E ak 2;have D:=Z (fX ⟨z,f,g⟩ a b c d w0 (C.o.num.below i.o aA) (C.o.den.below i.o aA) aw av C.o.nc C.o.dc);clear ak;cases P:iR ⟨z,f,g⟩
 case false=>
  have N:=Z (show oG ⟨z,f,g⟩=mW from by unfold oG fN;rw [P];rfl);rw [P] at D;clear P;go_enter func181,ntmps181
  go_wp2_with fail
  refine D.o.mono ?_;rintro e Q ⟨rfl,j⟩;have k:=bD j q.o;have ar:=Z k;have M:=Z (aG i j);obtain ⟨ao,z1,z2⟩:=eH k;obtain ⟨al,am,an⟩:=gB k;clear aj j D k;go_wp2;refine bodyPost_ret (v:=fA ⟨false,[],[]⟩ none 0 none 0) (by simp [results,results181,go_sem, *]) rfl ?_;rw [N.o];exact dP.set (r:=mW) (by decide) (by decide) ar.o (by omega) (.nil _ _ _ _) (.nil _ _ _ _) ⟨aN,aN⟩ ⟨aN,aN⟩ M.o [(0,.bool false),(1,.slice none 0 0),(2,.slice none 0 0)]
 case true=>
  rw [P] at D;have O:=Z (show oG ⟨z,f,g⟩=⟨!z && decide (0<f.length),f,g⟩ from by unfold oG fN;rw [P];rfl);clear P;cases z
  case true=>
   have N:=Z (show oG ⟨true,f,g⟩=⟨false,f,g⟩ from O.o);clear O;go_enter func181,ntmps181
   go_wp2_with fail
   refine D.o.mono ?_;rintro e Q ⟨rfl,j⟩;have F:=aB j F;have s:=aB j s;have G:=aB j G;have Y:=Z (bD j q.o);have M:=Z (aG i j);clear aj D q j i;obtain ⟨w0,rfl⟩:∃W,W=Q:=⟨_,rfl⟩;have q:=Y;have i:=M;have L:=Z i.o.size;have ae:=Z (fun W (y:Below w0.heap.size w0 W)=>eF a f.length c f W (C.o.num.below (aG i y) aA) (by omega));have af:=Z (fun W (y:Below w0.heap.size w0 W)=>eF b g.length d g W (C.o.den.below (aG i y) aA) (by omega));go_wp2;refine bF (S:=fun W=>Below w0.heap.size w0 W) 16 (by kernel_rfl) (by kernel_rfl) (aF w0) (fun _=>?_);refine aE 0 ?_;refine dF 1 (fun W h=>aB h F) ?_;refine aE 2 ?_;refine aE 3 ?_;refine aE 4 ?_;refine aE 5 (hy:=(by first | exact Or.inl ⟨by rfl,by(intro W ad;have aq:=aB ad s;go_simp <;> with_reducible rfl)⟩ | exact Or.inr ⟨by rfl,rfl⟩)) ?_;refine aE 6 ?_;refine aE 7 ?_;refine aE 8 ?_;refine aE 9 ?_;refine dF 10 (fun W h=>aB h s) ?_;refine aE 12 ?_;refine dF 13 (fun W h=>aB h G) ?_;refine aV 11 fun x m=>?_;go_simp
   go_at_call 120
   refine(ae.o _ (aF w0)).mono ?_;rintro ab ag ⟨H,c5,rfl,A,J⟩;have l:Below w0.heap.size w0 ag:=(aF w0).trans (J.mono (aF w0).size);have R:=Z (A.datF (n:=w.heap.size) L.o);have V:=Z A.slice;clear A J;dsimp only;refine m.out _ _ (by(exact l)) (fun hHeld2=>?_);clear m x;refine aV 14 fun x m=>?_;go_simp
   go_at_call 120
   refine(af.o _ l).mono ?_;rintro ab ah ⟨I,K,rfl,B,p⟩;have t:Below w0.heap.size w0 ah:=l.trans (p.mono l.size);have T:=Z (B.datF (n:=w.heap.size) (aH L.o l.size));have X:=Z B.slice;have U:=Z (R.o.move (Below.dat p) p.size);clear B p;dsimp only;refine m.out _ _ (by(exact t)) (fun hHeld3=>?_);clear m x;(try simp only [Act.put,sA,sB,sC]);refine aE 15 ?_;refine cF (by decide +kernel) ?_;simp only [dL,cW];have k:=bD t q.o;have aa:=Z k;obtain ⟨ao,z1,z2⟩:=eH k;obtain ⟨al,am,an⟩:=gB k;clear k;go_wp2;refine bodyPost_ret (v:=fA ⟨false,f,g⟩ H c5 I K) (by simp [results,results181,go_sem, *]) rfl ?_;rw [N.o];exact dP.set (r:=⟨false,f,g⟩) (by decide) (by decide) aa.o (by omega) U.o T.o (by obtain ⟨_,_,e,h⟩:=V.o;cases e;exact h) (by obtain ⟨_,_,e,h⟩:=X.o;cases e;exact h) (aG i t) [(0,.bool false),(1,.slice H f.length c5),(2,.slice I g.length K)]
  case false=>
   by_cases ai:0<f.length
   case pos=>
    have ap:(0:Int)<f.length:=by omega
    have N:=Z (show oG ⟨false,f,g⟩=⟨true,f,g⟩ from by rw [O.o,bV ai];rfl);clear O;go_enter func181,ntmps181
    go_wp2_with fail
    refine D.o.mono ?_;rintro e Q ⟨rfl,j⟩;have F:=aB j F;have s:=aB j s;have G:=aB j G;have Y:=Z (bD j q.o);have M:=Z (aG i j);clear aj D q j i;obtain ⟨w0,rfl⟩:∃W,W=Q:=⟨_,rfl⟩;have q:=Y;have i:=M;have L:=Z i.o.size;have ae:=Z (fun W (y:Below w0.heap.size w0 W)=>eF a f.length c f W (C.o.num.below (aG i y) aA) (by omega));have af:=Z (fun W (y:Below w0.heap.size w0 W)=>eF b g.length d g W (C.o.den.below (aG i y) aA) (by omega));go_wp2;refine bF (S:=fun W=>Below w0.heap.size w0 W) 16 (by kernel_rfl) (by kernel_rfl) (aF w0) (fun _=>?_);refine aE 0 ?_;refine dF 1 (fun W h=>aB h F) ?_;refine aE 2 ?_;refine aE 3 ?_;refine aE 4 ?_;refine aE 5 (hy:=(by first | exact Or.inl ⟨by rfl,by(intro W ad;have aq:=aB ad s;go_simp <;> with_reducible rfl)⟩ | exact Or.inr ⟨by rfl,rfl⟩)) ?_;refine aE 6 ?_;refine aE 7 ?_;refine aE 8 ?_;refine aE 9 ?_;refine dF 10 (fun W h=>aB h s) ?_;refine aE 12 ?_;refine dF 13 (fun W h=>aB h G) ?_;refine aV 11 fun x m=>?_;go_simp
    go_at_call 120
    refine(ae.o _ (aF w0)).mono ?_;rintro ab ag ⟨H,c5,rfl,A,J⟩;have l:Below w0.heap.size w0 ag:=(aF w0).trans (J.mono (aF w0).size);have R:=Z (A.datF (n:=w.heap.size) L.o);have V:=Z A.slice;clear A J;dsimp only;refine m.out _ _ (by(exact l)) (fun hHeld2=>?_);clear m x;refine aV 14 fun x m=>?_;go_simp
    go_at_call 120
    refine(af.o _ l).mono ?_;rintro ab ah ⟨I,K,rfl,B,p⟩;have t:Below w0.heap.size w0 ah:=l.trans (p.mono l.size);have T:=Z (B.datF (n:=w.heap.size) (aH L.o l.size));have X:=Z B.slice;have U:=Z (R.o.move (Below.dat p) p.size);clear B p;dsimp only;refine m.out _ _ (by(exact t)) (fun hHeld3=>?_);clear m x;(try simp only [Act.put,sA,sB,sC]);refine aE 15 ?_;refine cF (by decide +kernel) ?_;simp only [dL,cW];have k:=bD t q.o;have aa:=Z k;obtain ⟨ao,z1,z2⟩:=eH k;obtain ⟨al,am,an⟩:=gB k;clear k;go_wp2;refine bodyPost_ret (v:=fA ⟨true,f,g⟩ H c5 I K) (by simp [results,results181,go_sem, *]) rfl ?_;rw [N.o];exact dP.set (r:=⟨true,f,g⟩) (by decide) (by decide) aa.o (by omega) U.o T.o (by obtain ⟨_,_,e,h⟩:=V.o;cases e;exact h) (by obtain ⟨_,_,e,h⟩:=X.o;cases e;exact h) (aG i t) [(0,.bool true),(1,.slice H f.length c5),(2,.slice I g.length K)]
   case neg=>
    have ap:¬(0:Int)<f.length:=by omega
    have ay:decide ((0:Int)<f.length)=false:=aR ap;have N:=Z (show oG ⟨false,f,g⟩=⟨false,f,g⟩ from by rw [O.o,aR ai];rfl);have au:=Z (jR (show f.length=0 by omega));have ax:(0<f.length)=False:=by simp only [ai]
    clear O ai;go_enter func181,ntmps181
    go_wp2_with fail
    refine D.o.mono ?_;rintro e Q ⟨rfl,j⟩;have F:=aB j F;have s:=aB j s;have G:=aB j G;have Y:=Z (bD j q.o);have M:=Z (aG i j);clear aj D q j i;obtain ⟨w0,rfl⟩:∃W,W=Q:=⟨_,rfl⟩;have q:=Y;have i:=M;have L:=Z i.o.size;have ae:=Z (fun W (y:Below w0.heap.size w0 W)=>eF a f.length c f W (C.o.num.below (aG i y) aA) (by omega));have af:=Z (fun W (y:Below w0.heap.size w0 W)=>eF b g.length d g W (C.o.den.below (aG i y) aA) (by omega));go_wp2;refine bF (S:=fun W=>Below w0.heap.size w0 W) 16 (by kernel_rfl) (by kernel_rfl) (aF w0) (fun _=>?_);refine aE 0 ?_;refine dF 1 (fun W h=>aB h F) ?_;refine aE 2 ?_;refine aE 3 ?_;refine aE 4 ?_;refine aE 5 (hy:=(by first | exact Or.inl ⟨by rfl,by(intro W ad;have aq:=aB ad s;go_simp <;> with_reducible rfl)⟩ | exact Or.inr ⟨by rfl,rfl⟩)) ?_;refine aE 6 ?_;refine aE 7 ?_;refine aE 8 ?_;refine aE 9 ?_;refine dF 10 (fun W h=>aB h s) ?_;refine aE 12 ?_;refine dF 13 (fun W h=>aB h G) ?_;refine aV 11 fun x m=>?_;go_simp
    go_at_call 120
    refine(ae.o _ (aF w0)).mono ?_;rintro ab ag ⟨H,c5,rfl,A,J⟩;have l:Below w0.heap.size w0 ag:=(aF w0).trans (J.mono (aF w0).size);have R:=Z (A.datF (n:=w.heap.size) L.o);have V:=Z A.slice;clear A J;dsimp only;refine m.out _ _ (by(exact l)) (fun hHeld2=>?_);clear m x;refine aV 14 fun x m=>?_;go_simp
    go_at_call 120
    refine(af.o _ l).mono ?_;rintro ab ah ⟨I,K,rfl,B,p⟩;have t:Below w0.heap.size w0 ah:=l.trans (p.mono l.size);have T:=Z (B.datF (n:=w.heap.size) (aH L.o l.size));have X:=Z B.slice;have U:=Z (R.o.move (Below.dat p) p.size);clear B p;dsimp only;refine m.out _ _ (by(exact t)) (fun hHeld3=>?_);clear m x;(try simp only [Act.put,sA,sB,sC]);refine aE 15 ?_;refine cF (by decide +kernel) ?_;simp only [dL,cW];have k:=bD t q.o;have aa:=Z k;obtain ⟨ao,z1,z2⟩:=eH k;obtain ⟨al,am,an⟩:=gB k;clear k;go_wp2;refine bodyPost_ret (v:=fA ⟨false,f,g⟩ H c5 I K) (by simp [results,results181,go_sem,au.o, *]) rfl ?_;rw [N.o];exact dP.set (r:=⟨false,f,g⟩) (by decide) (by decide) aa.o (by omega) U.o T.o (by obtain ⟨_,_,e,h⟩:=V.o;cases e;exact h) (by obtain ⟨_,_,e,h⟩:=X.o;cases e;exact h) (aG i t) [(0,.bool false),(1,.slice H f.length c5),(2,.slice I g.length K)]
theorem aPy (r s:cJ) (a b q t:Option Addr) (c d x y:Nat) (w:World) (h:jI S w r a c b d) (k:jI S' w s q x t y) (ba:r.num.length<=1000000) (aZ:r.den.length<=1000000) (ag:s.num.length<=1000000) (af:s.den.length<=1000000) :
  Calls prog 183 #[fA r a c b d,fA s q x t y] w fun e w'=>aSe (wQ r s) w e w':=by
 have L:=Z h;have l:=Z k;obtain ⟨n,p,m⟩:=r;obtain ⟨i,j,g⟩:=s;dsimp only at *;clear h k;have M:=Z (aA0 w (.cells #[.bool n,.slice a p.length c,.slice b m.length d] 36) (.cells #[.bool i,.slice q j.length x,.slice t g.length y] 36) (.cells #[.bool false,.slice none 0 0,.slice none 0 0] 36));have V:=uY w (.cells #[.bool n,.slice a p.length c,.slice b m.length d] 36) (.cells #[.bool i,.slice q j.length x,.slice t g.length y] 36) (.cells #[.bool false,.slice none 0 0,.slice none 0 0] 36);have X:=uZ w (.cells #[.bool n,.slice a p.length c,.slice b m.length d] 36) (.cells #[.bool i,.slice q j.length x,.slice t g.length y] 36) (.cells #[.bool false,.slice none 0 0,.slice none 0 0] 36);have z:=Z (vA w (.cells #[.bool n,.slice a p.length c,.slice b m.length d] 36) (.cells #[.bool i,.slice q j.length x,.slice t g.length y] 36) (.cells #[.bool false,.slice none 0 0,.slice none 0 0] 36));generalize av:((w.alloc (.cells #[.bool n,.slice a p.length c,.slice b m.length d] 36)).alloc (.cells #[.bool i,.slice q j.length x,.slice t g.length y] 36)).alloc (.cells #[.bool false,.slice none 0 0,.slice none 0 0] 36)=w0 at *;have ad:=Z (show ∀W,Below w0.heap.size w0 W->W.cell? ⟨w.heap.size,0,none⟩=some (.bool n)/\W.cell? ⟨w.heap.size,1,none⟩=some (.slice a p.length c)/\W.cell? ⟨w.heap.size,2,none⟩=some (.slice b m.length d)/\W.cell? ⟨w.heap.size+1,0,none⟩=some (.bool i)/\W.cell? ⟨w.heap.size+1,1,none⟩=some (.slice q j.length x)/\W.cell? ⟨w.heap.size+1,2,none⟩=some (.slice t g.length y) from fun W f=>
  ⟨aB f (E V 0),aB f (E V 1),aB f (E V 2),aB f (E X 0),aB f (E X 1),aB f (E X 2)⟩)
 have ab:=Z (show ∀W,Below w0.heap.size w0 W->W.heap[w.heap.size+1+1]? = some (.cells #[.bool false,.slice none 0 0,.slice none 0 0] 36 (0,0))/\Below w.heap.size w W from fun W f=>⟨bD f M.o,aG z f⟩);have G:=Z (fX ⟨i,j,g⟩ q t x y w0 (l.o.num.below z.o aA) (l.o.den.below z.o aA) ag af l.o.nc l.o.dc);obtain ⟨N,O,P,Q,T,U⟩:=ad.o w0 (aO _ _);clear V X;cases H:iR ⟨i,j,g⟩
 case false=>
  have aT:=Z (show wQ ⟨n,p,m⟩ ⟨i,j,g⟩=(mW,1) from by unfold wQ fN;rw [H];rfl);rw [H] at G;clear H;go_enter func183,ntmps183
  go_wp2_with fail
  refine G.o.mono ?_;rintro e J ⟨rfl,C⟩;obtain ⟨K,A⟩:=ab.o J C;have ah:=Z K;have a9:=Z A;clear av K A C G;have B:=ah.o;obtain ⟨bf,z1,z2⟩:=eH B;obtain ⟨aM,aP,aR⟩:=gB B;clear B;go_wp2;refine bodyPost_ret (v:=.tuple #[fA ⟨false,[],[]⟩ none 0 none 0,.int .i64 1]) (by simp [results,results183,go_sem, *]) rfl ?_;rw [aT.o];exact⟨_,rfl,dP.set (r:=mW) (by decide) (by decide) ah.o (by omega) (.nil _ _ _ _) (.nil _ _ _ _) ⟨aN,aN⟩ ⟨aN,aN⟩ a9.o [(0,.bool false),(1,.slice none 0 0),(2,.slice none 0 0)]⟩
 case true=>
  rw [H] at G;have ap:=Z (show wQ ⟨n,p,m⟩ ⟨i,j,g⟩=rL ⟨n,p,m⟩ (oG ⟨i,j,g⟩) from by unfold wQ fN;rw [H];rfl);have ae:=Z (show(oG ⟨i,j,g⟩).num.length<=1000000/\(oG ⟨i,j,g⟩).den.length<=1000000 from by unfold oG;constructor <;> split <;> first | exact ag | exact af | exact aN);clear H;go_enter func183,ntmps183
  go_wp2_with fail
  refine G.o.mono ?_;rintro e J ⟨rfl,C⟩;have aS:=Z C;clear N O P Q T U M z;obtain ⟨N,O,P,Q,T,U⟩:=ad.o J C;obtain ⟨K,A⟩:=ab.o J C;have M:=Z K;have z:=Z A;clear av G C aS ad ab K A;clear w0;obtain ⟨w0,rfl⟩:∃W,W=J:=⟨_,rfl⟩;have au:=Z z.o.size;have ar:=Z (fun W (A:Below w0.heap.size w0 W)=>aJv ⟨i,j,g⟩ q t x y W ⟨l.o.num.below (aG z A) aA,l.o.nc,l.o.den.below (aG z A) aA,l.o.dc⟩ ag af);generalize oG ⟨i,j,g⟩=bc at *;obtain ⟨ax,ay,aw⟩:=bc;have ao:=Z (show ∀W,Below w0.heap.size w0 W->(W.cell? ⟨w.heap.size,0,none⟩=some (.bool n)/\W.cell? ⟨w.heap.size,1,none⟩=some (.slice a p.length c)/\W.cell? ⟨w.heap.size,2,none⟩=some (.slice b m.length d))/\(W.cell? ⟨w.heap.size+1,0,none⟩=some (.bool i)/\W.cell? ⟨w.heap.size+1,1,none⟩=some (.slice q j.length x)/\W.cell? ⟨w.heap.size+1,2,none⟩=some (.slice t g.length y)) from fun W f=>⟨⟨aB f N,aB f O,aB f P⟩,aB f Q,aB f T,aB f U⟩);go_wp2;clear N O P Q T U;refine bF (S:=fun W=>Below w0.heap.size w0 W) 6 (by kernel_rfl) (by kernel_rfl) (aF w0) (fun _=>?_);refine aE 0 (hy:=(Or.inl ⟨by rfl,by(intro W aa;have D:=(ao.o W aa).1;have aW:=D.1;have aX:=D.2.1;have aY:=D.2.2;go_simp <;> with_reducible rfl)⟩)) ?_;refine aE 1 (hy:=(Or.inl ⟨by rfl,by(intro W aa;have D:=(ao.o W aa).2;have aW:=D.1;have aX:=D.2.1;have aY:=D.2.2;go_simp <;> with_reducible rfl)⟩)) ?_;refine aV 2 fun l I=>?_;go_simp
  go_at_call 181
  refine(ar.o _ (aF w0)).mono ?_;rintro aL a7 ⟨aI,aJ,aK,aQ,rfl,a5,a6,az,a0,aj⟩;have F:Below w0.heap.size w0 a7:=(aF w0).trans (aj.mono (aF w0).size);have aq:=Z (aJu ⟨n,p,m⟩ ⟨ax,ay,aw⟩ a b aI aK c d aJ aQ a7 ⟨L.o.num.below (aG z F) aA,L.o.nc,L.o.den.below (aG z F) aA,L.o.dc⟩ ⟨a5,az,a6,a0⟩ ba aZ ae.o.1 ae.o.2);have aU:=Z ap.o;clear a5 a6 aj az a0 ar ap ae;generalize rL ⟨n,p,m⟩ ⟨ax,ay,aw⟩=bd at *;obtain ⟨R,er⟩:=bd;dsimp only;refine I.out _ _ (by(exact F)) (fun hHeld2=>?_);clear I l;refine aV 3 fun l I=>?_;go_simp
  go_at_call 182
  refine aq.o.mono ?_;rintro aL be ⟨bg,rfl,ai,al,am,an,bb,a1,a2,a3,a4,ak⟩;cases bb;have a8:=F.size;have Y:Below w0.heap.size w0 be:=F.trans (ak.mono F.size);have P1:=Z a1;have P2:=Z a2;have P3:=Z a3;have aC:=Z a4;clear a1 a2 a3 a4 ak aq;dsimp only;refine I.out _ _ (by(exact Y)) (fun hHeld3=>?_);clear I l;(try simp only [Act.put,sA,sB,sC]);refine aE 4 ?_;refine aE 5 ?_;refine cF (by decide +kernel) ?_;simp only [dL,cW];have B:=bD Y M.o;have aD:=Z B;obtain ⟨bf,z1,z2⟩:=eH B;obtain ⟨aM,aP,aR⟩:=gB B;clear B;go_wp2;refine bodyPost_ret (v:=.tuple #[fA R ai al am an,.int .i64 er]) (by simp [results,results183,go_sem, *]) rfl ?_;rw [aU.o];exact⟨_,rfl,dP.set (r:=R) (by decide) (by decide) aD.o (by omega) (P1.o.mono fun k _ h=>⟨h.1,aH (aH au.o a8) h.2⟩) (P2.o.mono fun k _ h=>⟨h.1,aH (aH au.o a8) h.2⟩) P3.o aC.o (aG z Y) [(0,.bool R.neg),(1,.slice ai R.num.length al),(2,.slice am R.den.length an)]⟩
end
section
variable {S S' : Nat -> Prop}
theorem aSi (r:cJ) (a b:Option Addr) (c d:Nat) (w:World) (h:jI S w r a c b d) (af:r.num.length<=1000000) (ae:r.den.length<=1000000) :
  Calls prog 144 #[fA r a c b d] w fun e w'=>dP r w e w':=by
 have A:=Z h;obtain ⟨i,g,f⟩:=r;dsimp only at *;clear h;have M:=Z (eV w (.cells #[.bool i,.slice a g.length c,.slice b f.length d] 36) (.cells #[.bool false,.slice none 0 0,.slice none 0 0] 36));have p:=fI w (.cells #[.bool i,.slice a g.length c,.slice b f.length d] 36) (.cells #[.bool false,.slice none 0 0,.slice none 0 0] 36);have m:=Z (cV w (.cells #[.bool i,.slice a g.length c,.slice b f.length d] 36) (.cells #[.bool false,.slice none 0 0,.slice none 0 0] 36));generalize P:(w.alloc (.cells #[.bool i,.slice a g.length c,.slice b f.length d] 36)).alloc (.cells #[.bool false,.slice none 0 0,.slice none 0 0] 36)=w0 at *;have T:w0.cell? ⟨w.heap.size,0,none⟩=some (.bool i):=E p 0;have U:w0.cell? ⟨w.heap.size,1,none⟩=some (.slice a g.length c):=E p 1;have V:w0.cell? ⟨w.heap.size,2,none⟩=some (.slice b f.length d):=E p 2;have G:=Z m.o.size;have Q:=Z (fun W (x:Below w0.heap.size w0 W)=>eF a g.length c g W (A.o.num.below (aG m x) aA) (by omega));have R:=Z (fun W (x:Below w0.heap.size w0 W)=>eF b f.length d f W (A.o.den.below (aG m x) aA) (by omega));clear p;go_enter func144,ntmps144
 go_wp2;clear P;refine bF (S:=fun W=>Below w0.heap.size w0 W) 9 (by kernel_rfl) (by kernel_rfl) (aF w0) (fun _=>?_);refine aE 0 ?_;refine dF 1 (fun W h=>aB h T) ?_;refine aE 2 ?_;refine dF 3 (fun W h=>aB h U) ?_;refine aE 5 ?_;refine dF 6 (fun W h=>aB h V) ?_;refine aV 4 fun t k=>?_;go_simp
 go_at_call 120
 refine(Q.o _ (aF w0)).mono ?_;rintro O X ⟨B,c5,rfl,y,D⟩;have j:Below w0.heap.size w0 X:=(aF w0).trans (D.mono (aF w0).size);have H:=Z (y.datF (n:=w.heap.size) G.o);have K:=Z y.slice;clear y D;dsimp only;refine k.out _ _ (by(exact j)) (fun hHeld2=>?_);clear k t;refine aV 7 fun t k=>?_;go_simp
 go_at_call 120
 refine(R.o _ j).mono ?_;rintro O Y ⟨C,F,rfl,z,l⟩;have s:Below w0.heap.size w0 Y:=j.trans (l.mono j.size);have I:=Z (z.datF (n:=w.heap.size) (aH G.o j.size));have L:=Z z.slice;have J:=Z (H.o.move (Below.dat l) l.size);clear z l;dsimp only;refine k.out _ _ (by(exact s)) (fun hHeld3=>?_);clear k t;(try simp only [Act.put,sA,sB,sC]);refine aE 8 ?_;refine cF (by decide +kernel) ?_;simp only [dL,cW];have q:=bD s M.o;have N:=Z q;obtain ⟨ag,z1,z2⟩:=eH q;obtain ⟨aa,ab,ad⟩:=gB q;clear q;go_wp2;refine bodyPost_ret (v:=fA ⟨i,g,f⟩ B c5 C F) (by simp [results,results144,go_sem, *]) rfl ?_;exact dP.set (r:=⟨i,g,f⟩) (by decide) (by decide) N.o (by omega) J.o I.o (by obtain ⟨_,_,e,h⟩:=K.o;cases e;exact h) (by obtain ⟨_,_,e,h⟩:=L.o;cases e;exact h) (aG m s) [(0,.bool i),(1,.slice B g.length c5),(2,.slice C f.length F)]
theorem bT.at64q {w:World} {a:Option Addr} {n:Nat} {xs:List Int} (h:bT cH.u64 S w a n xs) {k:Nat} (g:k<xs.length):∃b o,a=some ⟨b,o,none⟩/\w.cell? ⟨b,o+k,none⟩=some (.int .u64 (nth xs k)):=by
 obtain ⟨b,o,e,f,_⟩:=h.at64 g;exact⟨b,o,e,f⟩
theorem aSj {xs ys:List Int} {k:Nat} (f:k<xs.length) (g:ys.length=xs.length) (h:xs.take k=ys.take k):(xs.take (k+1)=ys.take (k+1))↔nth xs k=nth ys k:=by
 rw [jD f,jD (show k<ys.length by omega),h,cE f,cE (show k<ys.length by omega)];constructor
 ·intro e;have:=List.append_cancel_left e
  simpa using this
 ·intro e;rw [e]
theorem aJw (a b:Option Addr) (n m c d:Nat) (xs ys:List Int) (w:World) (y:bT cH.u64 S w a n xs) (hy:bT cH.u64 S' w b m ys) (J:n<=1099511627776) :
  Calls prog 152 #[.slice a n c,.slice b m d] w fun e w'=>e = .returned (.bool (decide (xs=ys)))/\Below w.heap.size w w':=by
 have D:=Z y;have E:=Z hy;have j:=Z y.1;have l:=Z hy.1;clear y hy;by_cases t:n=m
 case neg=>
  have f:=Z (show decide (xs=ys)=false from aR fun e=>t (by rw [<-j.o,<-l.o,e]));have B:¬(n:Int)=m:=by omega
  have K:((n:Int) != m)=true:=by simpa using B
  have L:decide ((n:Int)=m)=false:=aR B;clear t;go_enter func152,ntmps152
  go_wp2;go_ret;exact⟨aI f.o.symm,aO _ _⟩
 case pos=>
  subst t;go_enter func152,ntmps152
  go_wp2
  go_loopw [13] (fun z wr=>∃k:Nat,k<=n/\z = .int .i64 k/\Hid (xs.take k=ys.take k)/\Hid (Below w.heap.size w wr)) (fun z _=>n - (intOf z).toNat)
  case atStart=>exact⟨0,aN,rfl,by show _=_;simp,aO _ _⟩
  case round=>
   obtain ⟨k,I,rfl,A,i⟩:=hrel;by_cases s:k<n
   case neg=>
    obtain rfl:k=n:=by omega
    have F:¬(k:Int)<k:=by omega
    have f:=Z (show decide (xs=ys)=true from bV (by
     have h:=A.o;rw [fL (by rw [j.o];exact aA),fL (by rw [l.o];exact aA)] at h;exact h))
    go_wp2;go_ret;exact⟨aI f.o.symm,i.o⟩
   case pos=>
    have F:(k:Int)<n:=by omega
    obtain ⟨H,P,rfl,y1⟩:=(D.o.below i.o aA).at64q (k:=k) (by rw [j.o];exact s);obtain ⟨b2,Q,rfl,y2⟩:=(E.o.below i.o aA).at64q (k:=k) (by rw [l.o];exact s);have x:=Z (aSj (xs:=xs) (ys:=ys) (k:=k) (by rw [j.o];exact s) (by rw [j.o,l.o]) A.o);have f:=Z (show nth xs k≠nth ys k->decide (xs=ys)=false from fun h=>aR fun e=>h (by rw [e]));generalize nth xs k=p at *;generalize nth ys k=q at *;by_cases g:p=q
    case pos=>
     have C:=Z (x.o.2 g);subst g;clear x f;go_wp2
     go_quiet (fail)
     have r:=Z (i.o.trans ((aO _ _).drewN nq));go_wp2
     go_roundw
     case rel=>exact⟨k+1,by omega,by go_num,C.o,r.o⟩
     case measure=>first | (simp [intOf];done) | (simp [intOf];omega)
    case neg=>
     have O:decide (p=q)=false:=aR g;have M:(p == q)=false:=by simpa using g
     have N:(p != q)=true:=by simpa using g
     have G:=Z (f.o g);clear x f;go_wp2
     go_quiet (fail)
     have r:=Z (i.o.trans ((aO _ _).drewN nq));go_wp2;go_ret;exact⟨aI G.o.symm,r.o⟩
theorem aMr (r s:cJ) (a b n p:Option Addr) (c d q t:Nat) (w:World) (h:jI S w r a c b d) (k:jI S' w s n q p t) (K:r.num.length<=1000000) (J:r.den.length<=1000000) :
  Calls prog 99 #[fA r a c b d,fA s n q p t] w fun e w'=>e = .returned (.bool (rO r s))/\Below w.heap.size w w':=by
 obtain ⟨m,j,f⟩:=r;obtain ⟨l,i,g⟩:=s;have y:=Z (cV w (.cells #[.bool m,.slice a j.length c,.slice b f.length d] 36) (.cells #[.bool l,.slice n i.length q,.slice p g.length t] 36));have B:=fI w (.cells #[.bool m,.slice a j.length c,.slice b f.length d] 36) (.cells #[.bool l,.slice n i.length q,.slice p g.length t] 36);have C:=eV w (.cells #[.bool m,.slice a j.length c,.slice b f.length d] 36) (.cells #[.bool l,.slice n i.length q,.slice p g.length t] 36);have D:=Z (aJw a n j.length i.length c q j i _ (h.num.below y.o aA) (k.num.below y.o aA) (by dsimp only at K;omega));have F:=Z (fun W (H:Below w.heap.size w W)=>aJw b p f.length g.length d t f g W (h.den.below H aA) (k.den.below H aA) (by dsimp only at J;omega));have hd:=@Z (rO ⟨m,j,f⟩ ⟨l,i,g⟩=(m == l && (decide (j=i) && decide (f=g)))) rfl;dsimp only at *;clear h k K J;generalize O:(w.alloc (.cells #[.bool m,.slice a j.length c,.slice b f.length d] 36)).alloc (.cells #[.bool l,.slice n i.length q,.slice p g.length t] 36)=w0 at *;have T:w0.cell? ⟨w.heap.size,0,none⟩=some (.bool m):=E B 0;have U:w0.cell? ⟨w.heap.size,1,none⟩=some (.slice a j.length c):=E B 1;have P:w0.cell? ⟨w.heap.size,2,none⟩=some (.slice b f.length d):=E B 2;have V:w0.cell? ⟨w.heap.size+1,0,none⟩=some (.bool l):=E C 0;have X:w0.cell? ⟨w.heap.size+1,1,none⟩=some (.slice n i.length q):=E C 1;have Q:w0.cell? ⟨w.heap.size+1,2,none⟩=some (.slice p g.length t):=E C 2;clear B C;generalize decide (j=i)=N at *;generalize decide (f=g)=b2 at *;cases G:(m == l)
 case false=>
  have z:=Z (show false=rO ⟨m,j,f⟩ ⟨l,i,g⟩ from by rw [hd.o,G];rfl);clear hd D F;go_enter func99,ntmps99
  go_wp2;go_ret;exact⟨aI z.o,y.o⟩
 case true=>
  cases N
  case false=>
   have z:=Z (show false=rO ⟨m,j,f⟩ ⟨l,i,g⟩ from by rw [hd.o,G];rfl);clear hd F;go_enter func99,ntmps99
   go_wp2_with fail
   refine D.o.mono ?_;rintro e L ⟨rfl,x⟩;have A:=Z (aG y x);clear x;go_wp2;go_ret;exact⟨aI z.o,A.o⟩
  case true=>
   have z:=Z (show b2=rO ⟨m,j,f⟩ ⟨l,i,g⟩ from by rw [hd.o,G];rfl);clear hd;go_enter func99,ntmps99
   go_wp2_with fail
   refine D.o.mono ?_;rintro e L ⟨rfl,x⟩;have A:=Z (aG y x);have R:=aB x P;have Y:=aB x Q;clear x O
   go_wp2_with fail
   refine(F.o L A.o).mono ?_;rintro e aa ⟨rfl,I⟩;have M:=Z (aG A I);clear I;go_wp2;go_ret;exact⟨aI z.o,M.o⟩
theorem gA.rat {w:World} {v:bS} {a b:Option Addr} {c d:Nat} (h:gA S w v a c b d):jI S w v.num a c b d:=⟨h.num,h.nc,h.den,h.dc⟩
theorem aF2 (x y:bS) (a b C D:Option Addr) (c d E F:Nat) (w:World) (h:gA S w x a c b d) (k:gA S' w y C E D F) (M:x.num.num.length<=1000000) (L:x.num.den.length<=1000000) :
  Calls prog 43 #[oK x a c b d,oK y C E D F] w fun e w'=>e = .returned (.bool (jJ x y))/\Below w.heap.size w w':=by
 obtain ⟨s,q,⟨n,p,i⟩,A⟩:=x;obtain ⟨t,r,⟨l,m,j⟩,B⟩:=y;have f:=Z (cV w (.cells #[.int .i64 s,.bool q,.bool n,.slice a p.length c,.slice b i.length d,.int .i64 A] 64) (.cells #[.int .i64 t,.bool r,.bool l,.slice C m.length E,.slice D j.length F,.int .i64 B] 64));have H:=Z (aMr ⟨n,p,i⟩ ⟨l,m,j⟩ a b C D c d E F _ ⟨h.num.below f.o aA,h.nc,h.den.below f.o aA,h.dc⟩ ⟨k.num.below f.o aA,k.nc,k.den.below f.o aA,k.dc⟩ M L);have hd:=@Z (jJ ⟨s,q,⟨n,p,i⟩,A⟩ ⟨t,r,⟨l,m,j⟩,B⟩=(decide (s=t) && (if s=0 then q == r else if s=1 then rO ⟨n,p,i⟩ ⟨l,m,j⟩ else decide (A=B)))) rfl;clear h k M L;generalize jJ ⟨s,q,⟨n,p,i⟩,A⟩ ⟨t,r,⟨l,m,j⟩,B⟩=z at *;generalize rO ⟨n,p,i⟩ ⟨l,m,j⟩=O at *;by_cases J:s=t
 case neg=>
  have g:=Z (show false=z from by rw [hd.o,aR J];rfl);have U:(s != t)=true:=by simpa using J
  have V:decide (s=t)=false:=aR J;clear hd H;go_enter func43,ntmps43
  go_wp2;go_ret;exact⟨aI g.o,f.o⟩
 case pos=>
  subst J;by_cases G:s=0
  case pos=>
   subst G;have g:=Z (show(q == r)=z from by rw [hd.o];rfl);clear hd H;go_enter func43,ntmps43
   go_wp2;go_ret;exact⟨aI g.o,f.o⟩
  case neg=>
   have P:(s == 0)=false:=by simpa using G
   have Q:decide (s=0)=false:=aR G;by_cases I:s=1
   case pos=>
    subst I;have g:=Z (show O=z from by rw [hd.o];rfl);clear hd;go_enter func43,ntmps43
    go_wp2_with fail
    refine H.o.mono ?_;rintro e W ⟨rfl,K⟩;have N:=Z (aG f K);clear K;go_wp2;go_ret;exact⟨aI g.o,N.o⟩
   case neg=>
    have R:(s == 1)=false:=by simpa using I
    have T:decide (s=1)=false:=aR I;have g:=Z (show(A == B)=z from by rw [hd.o,bV rfl,if_neg G,if_neg I];rw [eT,zC];simp);clear hd H;go_enter func43,ntmps43
    go_wp2;go_ret;exact⟨aI g.o,f.o⟩
end
end Go.Proofs.YtgoojkiccdjplaaGreatDoor
