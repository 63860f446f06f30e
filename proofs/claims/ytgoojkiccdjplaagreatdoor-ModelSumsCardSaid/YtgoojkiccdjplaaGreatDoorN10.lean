/-
  Parts of this claim's texts, one behind the other: BN. No condition.
-/
import Derived.Test.YtgoojkiccdjplaaGreatDoorN9
set_option linter.unusedVariables false
set_option linter.unusedSimpArgs false
set_option maxRecDepth 100000
set_option maxHeartbeats 16000000
namespace Go.Proofs.YtgoojkiccdjplaaGreatDoor
open Go.RowKit Go.Sort Go.Lib
theorem aI3 {P:Program} {t e:TypeId} {g N i k s:Nat} (ht:P.underlying t=some (.slice e)) (hsz:∀w,(sizeOf e).run P w = .ok s w) (h1:i<=k) (h2:k<=N) (h3:i<N) (W:World) :
  (Instr.slice t (.slice (some ⟨g,0,none⟩) N N) (some (.int .i64 i)) (some (.int .i64 k)) none).run P W = .ok (.slice (some ⟨g,i * s,none⟩) (k - i) (N - i)) W:=by
 have h4:¬N=i:=by omega
 have h5:i<=N:=by omega
 simp [Instr.slice,Instr.sliceBounds,Instr.sliceBound,run_underlying ht,hsz,h1,h2,h4,asIntOf,Addr.add]
 try omega
theorem aC9 {g N i n:Nat} (h:i+n+1<=N) (hi:i<N) (W:World):(Instr.slice 34 (.slice (some ⟨g,0,none⟩) N N) (some (.int .i64 i)) (some (.int .i64 ((i+n+1:Nat):Int))) none).run Tryz.prog W = .ok (.slice (some ⟨g,i,none⟩) (n+1) (N - i)) W:=by
 have:=aI3 (P:=Tryz.prog) (g:=g) (N:=N) (i:=i) (k:=i+n+1) Tryz.underlying34 vY (by omega) h hi W
 rwa [Nat.mul_one,show i+n+1 - i=n+1 by omega] at this
theorem aB4 {P:Program} {f:FuncId} {args:Array Value} {w:World} {n:Nat} {v:Value}
  (h:Calls P f args (w.drewN n) fun e w'=>e = .returned v/\∃m,w'=(w.drewN n).drewN m) :
  Calls P f args (w.drewN n) fun e w''=>e = .returned v/\∃m,w''=w.drewN m:=
 h.mono fun _ _ ⟨he,m,hm⟩=>⟨he,n+m,by rw [hm,World.drewN_drewN]⟩
theorem aF7 (X n:Nat):aM (aF X++(List.replicate (n+1) 0).drop (aF X).length)=X:=by
 rw [List.drop_replicate,dD,mE,Nat.mul_zero,Nat.add_zero,aU]
theorem xZ {pre win post:List Int} {i t:Nat} (hp:pre.length=i) (ht:t<win.length):nth (pre++(win++post)) (i+t)=nth win t:=by
 have:=mF (pre:=pre) (ds:=win.take t) (win:=win) (post:=post) (i:=t) hp (by rw [List.length_take];omega) ht
 rwa [List.take_append_drop] at this
theorem aDa {xs:List Int} {i l:Nat} (h:i+l<=xs.length):∃pre win post,xs=pre++(win++post)/\pre.length=i/\win.length=l:=
 ⟨xs.take i,(xs.drop i).take l,(xs.drop i).drop l,by rw [List.take_append_drop,List.take_append_drop],by rw [List.length_take];omega,by rw [List.length_take,List.length_drop];omega⟩
def aNc (y L:Nat) (w:World) (e:Ending) (w':World):Prop:=∃a c,e = .returned (.slice a L c)/\bJ bV.u64 (dM w.heap.size w') w' a L (aF y)/\L<=c/\c<=maxLen/\Below w.heap.size w w'
theorem mR.toL {y L z:Nat} {w w':World} {e:Ending} (h:mR z w e w') (hz:z=y) (hl:(aF y).length=L):aNc y L w e w':=by subst hz hl;exact h
section
variable {S S' : Nat -> Prop} (a b : Option Addr) (n m c d x y : Nat) (w : World) (hx : bJ bV.u64 S w a n (aF x)) (hy : bJ bV.u64 S' w b m (aF y)) (hn : n <= 549755813888) (hm : m <= 549755813888) (hnc : n <= c) (hcm : c <= maxLen)
include hx hy hn hm hnc hcm
omit hnc hcm in
theorem aF8 (hle:y<=x) (hy0:0<y) (hm1:2<=m):Calls Tryz.prog 171 #[.slice a n c,.slice b m d] w fun e w'=>aC7 x y w e w':=by
 have hor:=hid (dH a b n m c d x y w hx hy (by omega) (by omega));have hcmp:¬(dU x y<0):=by unfold dU;split <;> (try split) <;> omega
 obtain ⟨s,hs,hbl,hBl,hXl,hX0,hmn,hst⟩:=aEa hx.1 hy.1 hle hy0;generalize hBv:y * 2 ^ s=Bv at *;generalize hXv:x * 2 ^ s=Xv at *;obtain ⟨p,rfl⟩:∃p,m=p+2:=⟨m - 2,by omega⟩;obtain ⟨b0,o0,rfl,k0,u0⟩:=hy.at64 (k:=p+1) (by have:=hy.1;omega);rw [show p+2 - 1=p+1 by omega] at hbl;have hlz:∀W,Calls Tryz.prog 199 #[.int .u64 (nth (aF y) (p+1))] W fun e w'=>e = .returned (.int .i64 s)/\w'=W:=fun W=>by
  have:=Tryz.bits_LeadingZeros64 (nth (aF y) (p+1)) W u0.1 (by have:=u0.2;omega);rw [hbl] at this;refine this.mono ?_;rintro e w' ⟨rfl,rfl⟩;exact⟨by rw [show(64 - ((64 - s:Nat):Int))=s by omega],rfl⟩
 have hlz':=hid hlz;have hx':=hid hx;have hy':=hid hy;have hs':=hid hs;have HB:=hid hBl;have HX:=hid hXl;have HX0:=hid hX0;have HST:=hid hst;obtain ⟨K,hnK⟩:∃K,n=p+1+K:=⟨n - (p+1),by omega⟩;have HB0:=hid (show 0<Bv from by rw [<-hBv];exact Nat.mul_pos hy0 (Nat.two_pow_pos s));have HBlt:=hid (show Bv<aO ^ (p+2) from by rw [<-hBl];exact mZ Bv);have HSK:=hid (show Xv<Bv * aO ^ K from by rw [show K=n - (p+2)+1 by omega];exact hst);have HN:=hid (show n+2<=1099511627776/\p+2<=n/\n<=549755813888 from⟨by omega,hmn,hn⟩);have hyp:=hid hy0;have hK0:1<=K:=by omega
 have HNK:=hid hnK;have hnB:n<=549755813888:=by omega
 have hKB:K<=549755813888:=by omega
 have hpB:p<=549755813888:=by omega
 have hm1i:¬(((p:Int)+2)=1):=by omega
 have hm1b:(((p:Int)+2) == 1)=false:=by simpa using hm1i
 have HBv:=hid hBv;have HXv:=hid hXv;clear hBv hXv;generalize dU x y=cv at *;clear hnK;clear hx hy hn hm hlz hbl hBl hXl hX0 hst hle hy0 hs u0;go_enter Tryz.func171,Tryz.ntmps171
 go_wp2_with fail
 refine hor.out.mono ?_;rintro e w2 ⟨rfl,q,rfl⟩
 go_wp2_with fail
 refine(hlz'.out _).mono ?_;rintro e w2 ⟨rfl,rfl⟩;have hL1:=hid ((sF (S:=S') (some ⟨b0,o0,none⟩) (p+2) d y s (w.drewN q) (hy'.out.keep (fun _ _ _=>rfl) aB) (by have:=HN.out;omega) hs'.out).mono fun _ _ h=>h.toL HBv.out HB.out)
 go_wp2_with fail
 refine hL1.out.mono ?_;rintro e w3 ⟨b1,d1,rfl,hb1,hb2,hb3,hB1⟩;have hB1':=hid (Below.ofDrew hB1);have hg0:w.heap.size<=w3.heap.size:=hB1'.out.size;have RB:=hid (hb1.mono (S':=fun k=>k<w3.heap.size) fun _ h _=>h);have hcap1:=hid hb2;clear hb1 hb2 hb3 hB1 hL1;obtain ⟨w4,hmk1,ho1,hbw1,hs1⟩:=iV (n+1) w.heap.size w3 (by omega) hg0;rw [show((n+1:Nat):Int)=(n:Int)+1 by simp] at hmk1;have O1:=hid ho1;have BW1:=hid hbw1;have S1:=hid hs1;have HW4:=hid (hB1'.out.trans (hbw1.mono hg0));have hL2:=hid ((sF (S:=fun k=>S k) a n c x s w4 (hx'.out.below HW4.out aB) (by omega) hs'.out).mono fun _ _ h=>h.toL HXv.out rfl);clear ho1 hbw1 hs1
 go_wp2_with fail
 refine hL2.out.mono ?_;rintro e w5 ⟨a2,c2,rfl,ha1,ha2,ha3,hB2⟩;have O2:=O1.out.same (w':=w5) (hB2.block _ S1.out);have hcp:=fun ty=>aD8 (c:=n+1) (m:=c2) ty O2 ha1 HX.out HX0.out
 have O3:=hid (O2.copy (dL Xv) HX.out);have C3:=(qP.copyAt ((aF Xv).map (Value.int .u64)) 0 w5 (qP.refl w3.heap.size w5));have hv0:=hid (aF7 Xv n);generalize aF Xv++(List.replicate (n+1) 0).drop (aF Xv).length=xs0 at *;generalize w5.setCells w3.heap.size 0 ((aF Xv).map (Value.int .u64))=w6 at *;generalize (aF Xv).length=lX at *;have B36:=hid ((BW1.out.trans (hB2.mono (Nat.le_of_lt S1.out))).trans C3.below);have hg6:w3.heap.size<w6.heap.size:=O3.out.lt;obtain ⟨w7,hmk2,ho2,hbw2,hs2⟩:=iV K w.heap.size w6 (by have:=HNK.out;omega) (by omega);rw [show((K:Nat):Int)=(n:Int) - ((p:Int)+2)+1 by have:=HNK.out;omega] at hmk2;have O4:=hid ho2;have BW2:=hid hbw2;have S2:=hid hs2;have O5:=hid (O3.out.same (w':=w7) (hbw2.block _ hg6));have hpn:p+2<=n:=HN.out.2.1;clear ha1 ha2 ha3 hB2 O2 hL2 C3 ho2 hbw2 hs2;go_wp2
 go_loopw [11] (fun v11 wr=>∃(j:Nat) (xs qs:List Int),j<=K/\v11 = .int .i64 ((j:Int) - 1)/\Hid (QJ Xv Bv K j xs qs)/\Hid (eW wr w.heap.size w3.heap.size (n+1) xs)/\Hid (eW wr w.heap.size w6.heap.size K (List.replicate j 0++qs))/\Hid (bJ bV.u64 (fun k=>k<w3.heap.size) wr b1 (p+2) (aF Bv))/\Hid (Below w.heap.size w wr)) (fun v11 _=>(intOf v11+1).toNat)
 case atStart=>
  refine⟨K,xs0,[],aB,(by first | go_num | (have:=HNK.out;congr 1;omega)),⟨by rw [eV,hv0.out];simp,by rw [hv0.out];exact HSK.out,by simp,fun z hz=>by simp at hz⟩,O5.out,(by have:=O4.out;rw [List.append_nil];exact this),?_,?_⟩
  ·exact RB.out.keep (fun k _ hk=>((B36.out.trans (BW2.out.mono (Nat.le_of_lt hg6))).block k hk)) (aK B36.out.size BW2.out.size)
  ·exact hB1'.out.trans ((B36.out.trans (BW2.out.mono (Nat.le_of_lt hg6))).mono hg0)
 case round=>
  obtain ⟨j,xs,qs,hjK,rfl,hJ,hX,hQ,hR,hBw⟩:=hrel;by_cases hj0:j=0
  case pos=>
   subst hj0;obtain ⟨d1',d2'⟩:=QJ.done (x:=x) (y:=y) (s:=s) (by rw [HBv.out,HXv.out];exact hJ.out);have hQ':eW wr w.heap.size w6.heap.size K qs:=by have:=hQ.out;simpa using this
   have t1:=eO (some ⟨w6.heap.size,0,none⟩) K K qs wr hQ'.datF (by have:=HNK.out;omega) aB (by unfold maxLen;have:=HNK.out;omega);have t2:=eO (some ⟨w3.heap.size,0,none⟩) (n+1) (n+1) xs wr hX.out.datF (by omega) aB (by unfold maxLen;omega);have hlx:=hX.out.1;rw [d1'] at t1;have T1:=hid t1;have T2:=hid t2;have D2:=hid d2';have hvl:=hid (show(aF (aM xs)).length<=n+1 from cT (by have:=eR hX.out.2.2.1;rwa [hlx] at this));generalize aM xs=V at *;generalize hqq:x / y=Qv at *;have HQq:=hid hqq;clear d1' d2' t1 t2 hQ' hlx hqq
   go_wp2_with fail
   refine T1.out.mono ?_;rintro e w8 ⟨a3,c3,rfl,f1,f2,f3,_,rfl⟩;have F1:=hid (show kK w.heap.size Qv _ _ from⟨a3,c3,rfl,f1,f2,f3⟩);clear f1 f2 f3 T1;generalize (aF Qv).length=lq at *
   go_wp2_with fail
   refine T2.out.mono ?_;rintro e w8 ⟨a4,c4,rfl,f1,f2,f3,_,rfl⟩;have rr:=hid (xY a4 _ c4 V s _ f1 (by have:=hvl.out;omega) f2 hs'.out);clear f1 f2 f3 T2;generalize (aF V).length=lV at *
   go_wp2_with fail
   refine rr.out.mono ?_;rintro e w9 ⟨a5,c5,rfl,f1,f2,f3,hb9⟩;have F2:=hid (show kK w.heap.size (V / 2 ^ s) w9 _ from kK.mono (⟨a5,c5,rfl,f1,f2,f3⟩:kK _ (V / 2 ^ s) w9 (.slice a5 (aF (V / 2 ^ s)).length c5)) hBw.out.size);have F3:=hid (F1.out.all hb9);have F4:=hid (aI hBw hb9);clear f1 f2 f3 hb9 rr;generalize (aF (V / 2 ^ s)).length=l5 at *;go_wp2;go_ret2;refine⟨_,_,rfl,by rw [HQq.out];exact F3.out,by rw [<-D2.out];exact F2.out,F4.out⟩
  case neg=>
   obtain ⟨i,rfl⟩:∃i,j=i+1:=⟨j - 1,by omega⟩;obtain ⟨pre,win,post,rfl,hpl,hwl⟩:=aDa (xs:=xs) (i:=i) (l:=p+3) (by rw [hX.out.1];have:=HNK.out;omega);have hwo:bO win:=fun z hz=>hX.out.2.2.1 z (by simp [hz])
   have xc:∀t,t<p+3->wr.cell? ⟨w3.heap.size,i+t,none⟩=some (.int .u64 ((nth win t).toNat:Int))/\(nth win t).toNat<aO:=fun t ht=>by
    have h1:=hX.out.cell (j:=i+t) (by have:=HNK.out;omega);rw [xZ hpl (by omega)] at h1;have h2:=hwo.nth (i:=t) (by omega);rw [h2.cast];exact⟨h1,h2.lt⟩
   obtain ⟨bb,ob,rfl,y1,u1⟩:=hR.out.at64 (k:=p+1) (by rw [HB.out];omega);obtain ⟨bb',ob',he,y0,u0⟩:=hR.out.at64 (k:=p) (by rw [HB.out];omega);injection he with he
   injection he with he1 he2 _
   subst he1 he2;obtain ⟨x2,x2l⟩:=xc (p+2) (by omega);obtain ⟨x1,x1l⟩:=xc (p+1) (by omega);obtain ⟨x0,x0l⟩:=xc p (by omega);have hgk:=aF5 hwl HB.out hwo;rw [aU] at hgk;have e1:=u1.cast;have e0:=u0.cast;have l1:=u1.lt;have l0:=u0.lt;rw [<-e1] at y1;rw [<-e0] at y0;have hqW:=QJ.digit hJ.out hpl hwl hX.out.2.2.1 HBlt.out HB0.out;clear xc u1 u0 e1 e0;generalize (nth win (p+2)).toNat=c2 at *;generalize (nth win (p+1)).toNat=c1 at *;generalize (nth win p).toNat=c0 at *;generalize (nth (aF Bv) (p+1)).toNat=f1 at *;generalize (nth (aF Bv) p).toNat=f0 at *;have GA:=fun W=>(wE c2 c1 c0 f1 f0 W x1l x0l l1 l0).mono fun _ _ h=>(⟨h.1,h.2.2⟩:_/\∃p,_)
   have GG:aAc c2 c1 c0 f1 f0 (pQ c2 c1 c0 f1 f0):=by
    obtain ⟨_,_,_,⟨_,g,_⟩,_⟩:=wE c2 c1 c0 f1 f0 wr x1l x0l l1 l0 [];exact g
   have hk0:=hid (GG.2 _ hqW hgk);have hkW:=hid GG.1;generalize pQ c2 c1 c0 f1 f0=k0 at *;have hii:(i:Int)<K:=by omega
   clear hgk GG hqW;have hib:i+(p+2)<=n:=by have:=HNK.out;omega
   have ew0:IntKind.i64.wrap ((i:Int)+((p:Int)+2))=((i+(p+2):Nat):Int):=by simp only [IntKind.wrap_i64];omega
   have ew1:IntKind.i64.wrap ((i:Int)+((p:Int)+2) - 1)=((i+(p+1):Nat):Int):=by simp only [IntKind.wrap_i64];omega
   have ew2:IntKind.i64.wrap ((i:Int)+((p:Int)+2) - 2)=((i+p:Nat):Int):=by simp only [IntKind.wrap_i64];omega
   have ew3:IntKind.i64.wrap ((p:Int)+2 - 1)=((p+1:Nat):Int):=by simp only [IntKind.wrap_i64];omega
   have ew4:IntKind.i64.wrap ((p:Int)+2 - 2)=(p:Int):=by simp only [IntKind.wrap_i64];omega
   have ew5:IntKind.i64.wrap (p:Int)=(p:Int):=by simp only [IntKind.wrap_i64];omega
   have hi1:(i:Int)+((p:Int)+2)<(n:Int)+1:=by omega
   have hi2:(i:Int)+((p:Int)+1)<(n:Int)+1:=by omega
   have hi3:(i:Int)+(p:Int)<(n:Int)+1:=by omega
   have hj1:0<=(i:Int)+((p:Int)+2):=by omega
   have hj2:0<=(i:Int)+((p:Int)+1):=by omega
   have hj3:0<=(i:Int)+(p:Int):=by omega
   have ht1:((i:Int)+((p:Int)+2)).toNat=i+(p+2):=by omega
   have ht2:((i:Int)+((p:Int)+1)).toNat=i+(p+1):=by omega
   have ht3:((i:Int)+(p:Int)).toNat=i+p:=by omega
   have ht4:((p:Int)+1).toNat=p+1:=by omega
   have hj4:0<=(p:Int)+1:=by omega
   have hi4:(p:Int)+1<(p:Int)+2:=by omega
   have hi5:(p:Int)<(p:Int)+2:=by omega
   have hji:(((i+1:Nat):Int) - 1)=i:=by omega
   rw [hji];have WN:=fun W=>aC9 (g:=w3.heap.size) (N:=n+1) (i:=i) (n:=p+2) (by have:=HNK.out;omega) (by have:=HNK.out;omega) W
   rw [show((i+(p+2)+1:Nat):Int)=(i:Int)+((p:Int)+2)+1 by omega] at WN;have RB2:=fun qd=>bJ.keep (w':=wr.drewN qd) (hR.out.mono (S':=fun k=>k≠w3.heap.size) fun _ _ h=>Nat.ne_of_lt h) (fun _ _ _=>rfl) aB
   have LS:=@hid (∀qd,Calls Tryz.prog 202 #[.slice (some ⟨w3.heap.size,i,none⟩) (p+2+1) (n+1 - i),.slice (some ⟨bb,ob,none⟩) (p+2) d1,.int .u64 k0] (wr.drewN qd) fun e w'=>∃(ds:List Int) (t:Bool),e = .returned (.bool t)/\ds.length=p+2+1/\aM ds+aM (aF Bv) * k0=aM win+aO ^ (p+2+1) * (if t then 1 else 0)/\eW w' w.heap.size w3.heap.size (n+1) (pre++(ds++post))/\qP w3.heap.size (wr.drewN qd) w') fun qd=>
    aF3 w3.heap.size i (p+2) (n+1) (n+1 - i) d1 w.heap.size k0 pre win post (aF Bv) (some ⟨bb,ob,none⟩) (wr.drewN qd) (hX.out.same rfl) hpl hwl (RB2 qd) (dL Bv) (by omega) (by have:=HNK.out;omega) hkW.out
   have hwl':=hid hwl;have hpl':=hid hpl;have hwo':=hid hwo;clear RB2 hwl hpl hwo hji;go_wp2
   go_quiet ((go_at_call 201;exact aB4 (GA _)))
   clear GA
   go_wp2_with fail
   refine(LS.out _).mono ?_;rintro e w8 ⟨ds0,t0,rfl,z1,z2,z3,z4⟩;rw [aU] at z2;have Z1:=hid z1;have Z2:=hid z2;have Z3:=hid z3;have Z4:=hid (show qP w3.heap.size wr w8 from⟨Below.ofDrew z4.below,z4.size,z4.other⟩);clear z1 z2 z3 z4 LS x2 x1 x0 y1 y0;have kk0:=hk0.out;have hkW0:=hkW.out;obtain ⟨wo,hwo⟩:∃wo,wo=wr:=⟨_,rfl⟩;subst hwo;go_wp2
   go_loopw [12,13] (fun v12 v13 wz=>∃(k:Nat) (t:Bool) (ds:List Int),v12 = .int .u64 k/\v13 = .bool t/\Hid (k<aO)/\Hid (aM win / Bv<=k)/\Hid (ds.length=p+2+1)/\Hid (aM ds+Bv * k=aM win+aO ^ (p+2+1) * (if t then 1 else 0))/\Hid (eW wz w.heap.size w3.heap.size (n+1) (pre++(ds++post)))/\Hid (qP w3.heap.size wo wz)) (fun v12 _ _=>(intOf v12).toNat)
   case atStart=>exact⟨k0,t0,ds0,rfl,rfl,hkW.out,hk0.out,Z1.out,Z2.out,Z3.out,Z4.out⟩
   case round=>
    obtain ⟨k,t,ds,rfl,rfl,hkw,hkq,hdl,hdv,hXo,hC⟩:=hrel;have HQ2:=hQ.out.same (w':=wr) (hC.out.other _ (by omega));have HR2:=hid (hR.out.keep (w':=wr) (fun b _ hb=>hC.out.other _ (Nat.ne_of_lt hb)) (Nat.le_of_eq hC.out.size.symm));have HB2:=hid (hBw.out.trans (hC.out.below.mono hg0));have hg66:w3.heap.size≠w6.heap.size:=by omega
    by_cases ht:t=true
    case neg=>
     obtain rfl:t=false:=by simpa using ht
     have hdv0:=hdv.out;rw [if_neg (by simp),Nat.mul_zero,Nat.add_zero] at hdv0;obtain ⟨hkq2,hdm⟩:=aB2 HB0.out hdv0 rfl hkq.out;have hJ2:=hid (QJ.step hJ.out hpl'.out hwl'.out hX.out.2.2.1 HBlt.out HB0.out hdm).1;have hkq3:=hid hkq2;have q0:=HQ2.cell (j:=i) (by omega);have q1:=HQ2.frz i;have OQ:=HQ2.set (j:=i) (x:=(k:Nat)) (eF hkw.out);rw [aC4] at OQ;have OQ':=hid OQ;have OX':=hid (hXo.out.same (w':=wr.setCell ⟨w6.heap.size,i,none⟩ (.int .u64 (k:Nat))) (Below.heap_setCell _ _ _ _ hg66));have OR':=hid (HR2.out.keep (w':=wr.setCell ⟨w6.heap.size,i,none⟩ (.int .u64 (k:Nat))) (fun b _ hb=>Below.heap_setCell _ _ _ _ (by have hb':b<w3.heap.size:=hb;show b≠w6.heap.size;omega)) (Nat.le_of_eq fD.symm));have OB':=hid (HB2.out.setCell (p:=⟨w6.heap.size,i,none⟩) (by show w.heap.size<=w6.heap.size;omega) (.int .u64 (k:Nat)));clear HQ2 OQ hdv0 hkq2 hdm ht;go_wp2
     go_roundw
     case rel=>exact⟨i,pre++(ds++post),(k:Int) :: qs,by omega,by first | rfl | go_num,(by show QJ _ _ _ _ _ _;rw [hkq3.out];exact hJ2.out),OX'.out,OQ'.out,OR'.out,OB'.out⟩
     case measure=>first | (simp [intOf];done) | (simp [intOf];omega)
    case pos=>
     subst ht;have MR:=hid (aF2 w3.heap.size i (p+2) (n+1) (n+1 - i) d1 w.heap.size pre ds post (aF Bv) (some ⟨bb,ob,none⟩) wr hXo.out hpl'.out hdl.out (HR2.out.mono fun _ _ h=>Nat.ne_of_lt h) (dL Bv) (by omega) (by omega));have hdo:=hid (show bO ds from fun z hz=>hXo.out.2.2.1 z (by simp [hz]));have hdv0:=hdv.out;rw [if_pos rfl,Nat.mul_one] at hdv0;have v0:=hXo.out.cell (j:=i+(p+2)) (by omega);rw [xZ hpl'.out (by rw [hdl.out];omega)] at v0;have eo:=(hdo.out.nth (i:=p+2) (by rw [hdl.out];omega)).cast;rw [<-eo] at v0;have hin:=fun ds' h1 h2 h3=>aB3 (ds':=ds') HBlt.out hdl.out hdo.out h1 h2 hdv0 rfl hkq.out h3
     have HIN:=hid hin;clear eo hdv0 HQ2 hin;generalize (nth ds (p+2)).toNat=D0 at *
     go_wp2_with fail
     refine MR.out.mono ?_;rintro e w9 ⟨rfl,ds',n1,n2,n3,n4⟩;rw [aU] at n2;have v1:=n3.cell (j:=i+(p+2)) (by omega);rw [xZ hpl'.out (by rw [n1];omega)] at v1;have hdo':bO ds':=fun z hz=>n3.2.2.1 z (by simp [hz])
     have eo:=(hdo'.nth (i:=p+2) (by rw [n1];omega)).cast;rw [<-eo] at v1;obtain ⟨kp,hkp,hkq',hdv'⟩:=HIN.out ds' n1 hdo' n2;have ek:IntKind.u64.wrap ((k:Int) - 1)=(kp:Int):=by rw [show((k:Int) - 1)=(kp:Int) by omega];exact bE (by have:=hkw.out;unfold aO at this;omega)
     have KP:=hid hkp;have KW:=hid (show kp<aO from by have:=hkw.out;omega);have KQ:=hid hkq';have N1:=hid n1;have N3:=hid n3;have N4:=hid (hC.out.trans n4);clear n1 n2 n3 n4 hkp hkq' eo hdo' v0 MR HIN;generalize (nth ds' (p+2)).toNat=D1 at *;have DV:=hid (show aM ds'+Bv * kp=aM win+aO ^ (p+2+1) * (if decide (D0<=D1)=true then 1 else 0) from by rw [hdv'];simp);clear hdv';go_wp2
     go_roundw
     case rel=>exact⟨kp,decide (D0<=D1),ds',by go_num,by first | rfl | simp,KW.out,KQ.out,N1.out,DV.out,N3.out,N4.out⟩
     case measure=>have:=KP.out;first | (simp [intOf];done) | (simp [intOf];omega)
theorem nC (hy0:0<y):Calls Tryz.prog 171 #[.slice a n c,.slice b m d] w fun e w'=>aC7 x y w e w':=by
 rcases Nat.lt_or_ge x y with h | h
 ·exact aD9 a b n m c d x y w hx hy hn hm hnc hcm h
 ·have hm0:0<m:=by rw [<-hy.1];exact aZ.2 hy0
  by_cases h1:m=1
  ·exact aF6 a b n m c d x y w hx hy hn hm h hy0 h1
  ·exact aF8 a b n m c d x y w hx hy hn hm h hy0 (by omega)
end
end Go.Proofs.YtgoojkiccdjplaaGreatDoor
