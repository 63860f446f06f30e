/-
  Parts of this claim's texts, one behind the other: EJ FD FS FT FE FF. No condition.
-/
import Derived.Test.YtgoojkiccdjplaaGreatDoorN18
import Derived.Test.YtgoojkiccdjplaaGreatDoorN19
import Derived.Test.YtgoojkiccdjplaaGreatDoorN16
import Derived.Test.YtgoojkiccdjplaaGreatDoorN14
set_option linter.unusedVariables false
set_option linter.unusedSimpArgs false
set_option maxRecDepth 100000
set_option maxHeartbeats 16000000
namespace Go.Proofs.YtgoojkiccdjplaaGreatDoor
open Go.RowKit Go.Sort Go.Lib
section
variable {S S' : Nat -> Prop}
theorem aEm (r s:cE) (a b a' b':Option Addr) (c d c' d':Nat) (w:World) (h:fJ S w r a c b d) (k:fJ S' w s a' c' b' d') (hrn:r.num.length<=1000000) (hrd:r.den.length<=1000000) (hsn:s.num.length<=1000000) (hsd:s.den.length<=1000000) :
  Calls Tryz.prog 180 #[dK r a c b d,dK s a' c' b' d'] w fun e w'=>e = .returned (.int .i64 (kU r s))/\Below w.heap.size w w':=by
 have hr:=fun hv=>iM (r:=r) h.num.us64 h.den.us64 hv
 have hs:=fun hv=>iM (r:=s) k.num.us64 k.den.us64 hv
 have H:=hid h;have K:=hid k;obtain ⟨ng,nu,de⟩:=r;obtain ⟨mg,mu,me⟩:=s;dsimp only at *;have hr':=hid hr;have hs':=hid hs;clear h k hr hs;have x1:=dG w (.cells #[.bool ng,.slice a nu.length c,.slice b de.length d] 36) (.cells #[.bool mg,.slice a' mu.length c',.slice b' me.length d'] 36);have x2:=cY w (.cells #[.bool ng,.slice a nu.length c,.slice b de.length d] 36) (.cells #[.bool mg,.slice a' mu.length c',.slice b' me.length d'] 36);have hB0:=hid (bX w (.cells #[.bool ng,.slice a nu.length c,.slice b de.length d] 36) (.cells #[.bool mg,.slice a' mu.length c',.slice b' me.length d'] 36));generalize hw0:(w.alloc (.cells #[.bool ng,.slice a nu.length c,.slice b de.length d] 36)).alloc (.cells #[.bool mg,.slice a' mu.length c',.slice b' me.length d'] 36)=w0 at *;have hcell:=hid (show ∀W,Below w0.heap.size w0 W->W.cell? ⟨w.heap.size,0,none⟩=some (.bool ng)/\W.cell? ⟨w.heap.size,1,none⟩=some (.slice a nu.length c)/\W.cell? ⟨w.heap.size,2,none⟩=some (.slice b de.length d)/\W.cell? ⟨w.heap.size+1,0,none⟩=some (.bool mg)/\W.cell? ⟨w.heap.size+1,1,none⟩=some (.slice a' mu.length c')/\W.cell? ⟨w.heap.size+1,2,none⟩=some (.slice b' me.length d') from fun W hW=>
  ⟨aD hW (aC x1 0),aD hW (aC x1 1),aD hW (aC x1 2),aD hW (aC x2 0),aD hW (aC x2 1),aD hW (aC x2 2)⟩)
 have hbox:=hid (show ∀W,Below w0.heap.size w0 W->True/\Below w.heap.size w W from fun W hW=>⟨trivial,aI hB0 hW⟩);have hv1:=hid (dW ⟨ng,nu,de⟩ a b c d w0 (H.out.num.below hB0.out aB) (H.out.den.below hB0.out aB) hrn hrd H.out.nc H.out.dc);have hv2:=hid (fun W (hW:Below w0.heap.size w0 W)=>dW ⟨mg,mu,me⟩ a' b' c' d' W (K.out.num.below (hbox.out W hW).2 aB) (K.out.den.below (hbox.out W hW).2 aB) hsn hsd K.out.nc K.out.dc);obtain ⟨q0,q1,q2,r0,r1,r2⟩:=hcell.out w0 (Below.refl _ _);clear x1 x2;cases hvr:iA ⟨ng,nu,de⟩
 case false=>
  have hdf:=hid (show kU ⟨ng,nu,de⟩ ⟨mg,mu,me⟩=0 from by unfold kU dN;rw [hvr];rfl);rw [hvr] at hv1;rw [hdf.out];clear hvr;go_enter Tryz.func180,Tryz.ntmps180
  go_wp2_with fail
  refine hv1.out.mono ?_;rintro e w1 ⟨rfl,hb1⟩;obtain ⟨xb,hb⟩:=hbox.out w1 hb1;have XB:=hid xb;have HB:=hid hb;clear hw0 xb hb hb1 hv1;go_wp2;go_ret;exact⟨rfl,HB.out⟩
 case true=>
  rw [hvr] at hv1;cases hvs:iA ⟨mg,mu,me⟩
  case false=>
   have hdf:=hid (show kU ⟨ng,nu,de⟩ ⟨mg,mu,me⟩=0 from by unfold kU dN;rw [hvr,hvs];rfl);rw [hvs] at hv2;rw [hdf.out];clear hvr hvs;go_enter Tryz.func180,Tryz.ntmps180
   go_wp2_with fail
   refine hv1.out.mono ?_;rintro e w1 ⟨rfl,hb1⟩;have hb1':=hid hb1;clear q0 q1 q2 r0 r1 r2;obtain ⟨q0,q1,q2,r0,r1,r2⟩:=hcell.out w1 hb1;clear hw0 hv1
   go_wp2_with fail
   refine(hv2.out w1 hb1'.out).mono ?_;rintro e w2 ⟨rfl,hb2⟩;obtain ⟨xb,hb⟩:=hbox.out w2 (hb1'.out.trans (hb2.mono hb1'.out.size));have XB:=hid xb;have HB:=hid hb;clear xb hb hb1 hb2 hv2;go_wp2;go_ret;exact⟨rfl,HB.out⟩
  case true=>
   have R:=hid (hr'.out hvr);have S2:=hid (hs'.out hvs);rw [hvs] at hv2;have hdm:=hid (show kU ⟨ng,nu,de⟩ ⟨mg,mu,me⟩=kS (aT ⟨ng,aM nu⟩ ⟨false,aM me⟩) (aT ⟨mg,aM mu⟩ ⟨false,aM de⟩) from by unfold kU dN;rw [hvr,hvs];rfl);clear hr' hs' hvr hvs;obtain ⟨x,y,e1,e2,lx,ly,hy0⟩:∃x y,nu=aF x/\de=aF y/\nu.length<=64/\de.length<=64/\0<y:=⟨_,_,R.out.num,R.out.den,R.out.nl,R.out.dl,R.out.pos⟩;obtain ⟨x',y',e3,e4,lx',ly',hy0'⟩:∃x y,mu=aF x/\me=aF y/\mu.length<=64/\me.length<=64/\0<y:=⟨_,_,S2.out.num,S2.out.den,S2.out.nl,S2.out.dl,S2.out.pos⟩;subst e1 e2 e3 e4;rw [aU,aU,aU,aU] at hdm;rw [hdm.out];clear R S2;go_enter Tryz.func180,Tryz.ntmps180
   go_wp2_with fail
   refine hv1.out.mono ?_;rintro e w1 ⟨rfl,hb1⟩;have hb1':=hid hb1;clear q0 q1 q2 r0 r1 r2;obtain ⟨q0,q1,q2,r0,r1,r2⟩:=hcell.out w1 hb1;clear hw0 hv1 hb1
   go_wp2_with fail
   refine(hv2.out w1 hb1'.out).mono ?_;rintro e w2 ⟨rfl,hb2⟩;have hb02:=hid (hb1'.out.trans (hb2.mono hb1'.out.size));clear q0 q1 q2 r0 r1 r2 hB0;obtain ⟨q0,q1,q2,r0,r1,r2⟩:=hcell.out w2 hb02.out;obtain ⟨xb,hb⟩:=hbox.out w2 hb02.out;have hB0:=hid hb;clear hcell hbox hb02 hb1' hb2 hv2 xb hb;clear w1 w0;obtain ⟨w0,rfl⟩:∃W,W=w2:=⟨_,rfl⟩;have hsz:=hid hB0.out.size;have hz1:=hid (show(aF (aT ⟨ng,x⟩ ⟨false,y'⟩).n).length<=274877906944 from aK (dY lx ly') (by decide));have hz2:=hid (show(aF (aT ⟨mg,x'⟩ ⟨false,y⟩).n).length<=274877906944 from aK (dY lx' ly) (by decide));have ht4:=hid (fun W (hb:Below w0.heap.size w0 W)=>mI ng false a b' (aF x).length (aF y').length c d' x y' W (H.out.num.below (aI hB0 hb) aB) (K.out.den.below (aI hB0 hb) aB) (by omega) (by omega));have ht9:=hid (fun W (hb:Below w0.heap.size w0 W)=>mI mg false a' b (aF x').length (aF y).length c' d x' y W (K.out.num.below (aI hB0 hb) aB) (H.out.den.below (aI hB0 hb) aB) (by omega) (by omega));have hcB:=hid (show ∀W,Below w0.heap.size w0 W->(W.cell? ⟨w.heap.size,0,none⟩=some (.bool ng)/\W.cell? ⟨w.heap.size,1,none⟩=some (.slice a (aF x).length c)/\W.cell? ⟨w.heap.size,2,none⟩=some (.slice b (aF y).length d))/\(W.cell? ⟨w.heap.size+1,0,none⟩=some (.bool mg)/\W.cell? ⟨w.heap.size+1,1,none⟩=some (.slice a' (aF x').length c')/\W.cell? ⟨w.heap.size+1,2,none⟩=some (.slice b' (aF y').length d')) from fun W hW=>⟨⟨aD hW q0,aD hW q1,aD hW q2⟩,aD hW r0,aD hW r1,aD hW r2⟩);go_wp2;clear q0 q1 q2 r0 r1 r2;refine aW (S:=fun W=>Below w0.heap.size w0 W) 11 (by kernel_rfl) (by kernel_rfl) (aG w0) (fun hdr=>?_);have BB:=hid (aG w0);clear hdr;generalize w0.drew=wc at *;refine aE 0 (hy:=(Or.inl ⟨by rfl,by(intro W hSw;have hq:=(hcB.out W hSw).1;have hq1:=hq.1;have hq2:=hq.2.1;have hq3:=hq.2.2;go_simp <;> with_reducible rfl)⟩)) ?_;refine aE 2 (hy:=(Or.inl ⟨by rfl,by(intro W hSw;have hq:=(hcB.out W hSw).2;have hq1:=hq.1;have hq2:=hq.2.1;have hq3:=hq.2.2;go_simp <;> with_reducible rfl)⟩)) ?_;refine aE 5 (hy:=(Or.inl ⟨by rfl,by(intro W hSw;have hq:=(hcB.out W hSw).2;have hq1:=hq.1;have hq2:=hq.2.1;have hq3:=hq.2.2;go_simp <;> with_reducible rfl)⟩)) ?_;refine aE 7 (hy:=(Or.inl ⟨by rfl,by(intro W hSw;have hq:=(hcB.out W hSw).1;have hq1:=hq.1;have hq2:=hq.2.1;have hq3:=hq.2.2;go_simp <;> with_reducible rfl)⟩)) ?_;refine aN 1 fun K hK=>?_;go_simp
   go_at_call 212
   refine(iW _ _ _ _ _ _ _ wc).mono ?_;rintro ee wn ⟨rfl,bn⟩;have BB:=hid (aI BB bn);(try have T4:=hid (T4.out.below bn aB));(try have T9:=hid (T9.out.below bn aB));clear bn;obtain ⟨wc,rfl⟩:∃W,W=wn:=⟨_,rfl⟩;(try dsimp only);refine hK.out _ _ (by(exact BB.out)) (fun hHeld2=>?_);clear hK K;refine aN 3 fun K hK=>?_;go_simp
   go_at_call 213
   refine(gQ _ _ _ _ _ _ _ wc).mono ?_;rintro ee wn ⟨rfl,bn⟩;have BB:=hid (aI BB bn);(try have T4:=hid (T4.out.below bn aB));(try have T9:=hid (T9.out.below bn aB));clear bn;obtain ⟨wc,rfl⟩:∃W,W=wn:=⟨_,rfl⟩;(try dsimp only);refine hK.out _ _ (by(exact BB.out)) (fun hHeld3=>?_);clear hK K;refine aN 4 fun K hK=>?_;go_simp
   go_at_call 211
   refine(ht4.out wc BB.out).mono ?_;rintro ee wn ⟨aT4,cT4,rfl,sT,mT,bn⟩;have TN:=hid (sT.mono (S':=fun _=>True) fun _ _ _=>trivial);clear sT mT;have BB:=hid (aI BB bn);(try have T4:=hid (T4.out.below bn aB));(try have T9:=hid (T9.out.below bn aB));clear bn;obtain ⟨wc,rfl⟩:∃W,W=wn:=⟨_,rfl⟩;(try dsimp only);have T4:=TN;clear TN;refine hK.out _ _ (by(exact BB.out)) (fun hHeld4=>?_);clear hK K;refine aN 6 fun K hK=>?_;go_simp
   go_at_call 212
   refine(iW _ _ _ _ _ _ _ wc).mono ?_;rintro ee wn ⟨rfl,bn⟩;have BB:=hid (aI BB bn);(try have T4:=hid (T4.out.below bn aB));(try have T9:=hid (T9.out.below bn aB));clear bn;obtain ⟨wc,rfl⟩:∃W,W=wn:=⟨_,rfl⟩;(try dsimp only);refine hK.out _ _ (by(exact BB.out)) (fun hHeld5=>?_);clear hK K;refine aN 8 fun K hK=>?_;go_simp
   go_at_call 213
   refine(gQ _ _ _ _ _ _ _ wc).mono ?_;rintro ee wn ⟨rfl,bn⟩;have BB:=hid (aI BB bn);(try have T4:=hid (T4.out.below bn aB));(try have T9:=hid (T9.out.below bn aB));clear bn;obtain ⟨wc,rfl⟩:∃W,W=wn:=⟨_,rfl⟩;(try dsimp only);refine hK.out _ _ (by(exact BB.out)) (fun hHeld6=>?_);clear hK K;refine aN 9 fun K hK=>?_;go_simp
   go_at_call 211
   refine(ht9.out wc BB.out).mono ?_;rintro ee wn ⟨aT9,cT9,rfl,sT,mT,bn⟩;have TN:=hid (sT.mono (S':=fun _=>True) fun _ _ _=>trivial);clear sT mT;have BB:=hid (aI BB bn);(try have T4:=hid (T4.out.below bn aB));(try have T9:=hid (T9.out.below bn aB));clear bn;obtain ⟨wc,rfl⟩:∃W,W=wn:=⟨_,rfl⟩;(try dsimp only);have T9:=TN;clear TN;refine hK.out _ _ (by(exact BB.out)) (fun hHeld7=>?_);clear hK K;refine aN 10 fun K hK=>?_;have hpp:=hid (aCa (aT ⟨ng,x⟩ ⟨false,y'⟩).neg (aT ⟨mg,x'⟩ ⟨false,y⟩).neg aT4 aT9 (aF (aT ⟨ng,x⟩ ⟨false,y'⟩).n).length (aF (aT ⟨mg,x'⟩ ⟨false,y⟩).n).length cT4 cT9 (aT ⟨ng,x⟩ ⟨false,y'⟩).n (aT ⟨mg,x'⟩ ⟨false,y⟩).n wc T4.out T9.out hz1.out hz2.out);go_simp
   go_at_call 210
   refine hpp.out.mono ?_;rintro ee wn ⟨rfl,bn⟩;have BB:=hid (aI BB bn);clear bn hpp;dsimp only;refine hK.out _ _ (by(exact BB.out)) (fun hHeld8=>?_);clear hK K;(try simp only [Act.put,sA,sB,sC]);refine bH (by decide +kernel) ?_;simp only [cG,bT];go_wp2;go_ret;exact⟨rfl,aI hB0 BB.out⟩
end
def qV (p:Bool) (x:bP) (l:List bP):Bool:=l.all fun y=>iQ x y == p
def gR (p:Bool):List bP->Bool
 | []=>true
 | x :: l=>qV p x l && gR p l
def gG (op c:Int):Bool:=if c<0 then decide (op=17) || decide (op=18) else if 0<c then decide (op=19) || decide (op=20) else decide (op=17) || decide (op=19)
def jJ (op:Int):List bP->Bool
 | x :: y :: l=>gG op (kU x.num y.num) && jJ op (y :: l)
 | _=>true
def cZ (v:bP):Prop:=v.num.num.length<=1000000/\v.num.den.length<=1000000
theorem aJd (x y:Nat):-1<=dU x y/\dU x y<=1:=by unfold dU;split;omega;split <;> omega
theorem aJe (r s:cE):-1<=kU r s/\kU r s<=1:=by
 unfold kU
 split
 ·unfold kS
  split
  ·split <;> exact aJd _ _
  ·split <;> omega
 ·omega
theorem aAn {p:Bool} {l:List bP} {k:Nat} (hk:k<l.length):gR p (l.drop k)=(qV p (bF l k) (l.drop (k+1)) && gR p (l.drop (k+1))):=by
 rw [List.drop_eq_getElem_cons hk];have:l[k]=bF l k:=by have:=cO hk;rw [List.getElem?_eq_getElem hk] at this;injection this
 rw [this];rfl
theorem aAo {op:Int} {l:List bP} {k:Nat} (hk:k+1<l.length):jJ op (l.drop k)=(gG op (kU (bF l k).num (bF l (k+1)).num) && jJ op (l.drop (k+1))):=by
 rw [List.drop_eq_getElem_cons (show k<l.length by omega),List.drop_eq_getElem_cons hk];have h1:l[k]=bF l k:=by have:=cO (l:=l) (k:=k) (by omega);rw [List.getElem?_eq_getElem (by omega)] at this;injection this
 have h2:l[k+1]=bF l (k+1):=by have:=cO hk;rw [List.getElem?_eq_getElem hk] at this;injection this
 rw [h1,h2];rfl
theorem aAp {op:Int} {l:List bP} {k:Nat} (hk:l.length<=k+1):jJ op (l.drop k)=true:=by
 have:(l.drop k).length<=1:=by rw [List.length_drop];omega
 cases h:l.drop k with
 | nil=>rfl
 |
  cons x t=>
  cases t with
  | nil=>rfl
  | cons y t=>rw [h] at this;simp at this
theorem aCf {p:Bool} {x:bP} {l:List bP} {k:Nat} (hk:k<l.length):qV p x (l.drop k)=((iQ x (bF l k) == p) && qV p x (l.drop (k+1))):=by
 rw [List.drop_eq_getElem_cons hk];have:l[k]=bF l k:=by have:=cO hk;rw [List.getElem?_eq_getElem hk] at this;injection this
 rw [this];rfl
theorem aAq {l:List bP} {i k:Nat}:bF (l.drop i) k=bF l (i+k):=by
 unfold bF;rw [List.getD_eq_getElem?_getD,List.getD_eq_getElem?_getD,List.getElem?_drop]
section
variable {S S' : Nat -> Prop}
theorem bJ.fromK {α:Type} {R:bV α} {w:World} {a:Option Addr} {n c k:Nat} {xs:List α} (h:bJ R S w a n xs) (hn:k<=n) (hc:n<=c):bJ R S w (gM a c k R.k) (n - k) (xs.drop k):=by
 refine⟨by rw [List.length_drop,h.1],fun hp=>?_⟩;obtain ⟨b,o,ha,hlt,hS,hcc⟩:=h.2 (by omega);refine⟨b,o+k * R.k,?_,hlt,hS,fun j x hx=>?_⟩
 ·unfold gM;rw [if_neg (by omega),ha];show some (Addr.add ⟨b,o,none⟩ (k * R.k))=_;rw [Addr.add_lit]
 ·rw [List.getElem?_drop] at hx;obtain ⟨cs,k1,k2⟩:=hcc (k+j) x hx;refine⟨cs,k1,fun i u hu=>?_⟩;have:=k2 i u hu;rw [show o+k * R.k+j * R.k+i=o+(k+j) * R.k+i from by rw [Nat.add_mul];omega];exact this
theorem rT {a:Option Addr} {n c k:Nat} (hk:k<=n) (hc:n<=c) (W:World):(Instr.slice 78 (.slice a n c) (some (.int .i64 k)) none none).run Tryz.prog W = .ok (.slice (gM a c k 6) (n - k) (c - k)) W:=
 rJ (k:=k) Tryz.underlying78 uE hk hc W
theorem aCg (op:Int) (a:Option Addr) (n c:Nat) (l:List bP) (w:World) (h:bJ fP S w a n l) (hc:n<=c) (hn:n<=1000000) (hs:∀v∈l,cZ v) :
  Calls Tryz.prog 141 #[.int .i64 op,.slice a n c] w fun e w'=>e = .returned (.bool (gR (decide (op=8)) l))/\Below w.heap.size w w':=by
 have H:=hid h;have hl:=hid h.1;have hs':=hid hs;have hop:(op == 8)=decide (op=8):=by rw [Bool.eq_iff_iff];simp
 generalize hpp:decide (op=8)=p at *;obtain ⟨z,hz⟩:∃z,gR p l=z:=⟨_,rfl⟩;have hz0:=hid hz;rw [hz];have hpp':=hid hpp;clear hz h hs hpp;go_enter Tryz.func141,Tryz.ntmps141
 go_wp2
 go_loopw [11,5,21] (fun v11 _ _ wr=>∃k:Nat,k<=n/\v11 = .int .i64 k/\Hid (gR p (l.drop k)=z)/\Hid (Below w.heap.size w wr)) (fun v11 _ _ _=>n - (intOf v11).toNat)
 case atStart=>exact⟨0,aV,rfl,by show gR p (l.drop 0)=z;rw [bT];exact hz0.out,Below.refl _ _⟩
 case round=>
  obtain ⟨k,hk,rfl,hE,hB⟩:=hrel;obtain ⟨wa,rfl⟩:∃wa,wa=wr:=⟨_,rfl⟩;by_cases hkn:k<n
  case neg=>
   obtain rfl:k=n:=by omega
   have hki:¬(k:Int)<k:=by omega
   have hv:=hid (show true=z from by rw [<-hE.out,List.drop_of_length_le (by rw [hl.out];exact aB)];rfl);go_wp2;go_ret;exact⟨aQ hv.out,hB.out⟩
  case pos=>
   have hki:(k:Int)<n:=by omega
   have hek:=cO (l:=l) (k:=k) (by rw [hl.out];omega);obtain ⟨b3,o3,a3,c3,e3,d3,rfl,V3,hv3⟩:=(H.out.below hB.out aB).valAt hek;have hsm:=hid (hs'.out _ (List.mem_of_getElem? hek));have hE2:=hid (show(qV p (bF l k) (l.drop (k+1)) && gR p (l.drop (k+1)))=z from by rw [<-aAn (by rw [hl.out];exact hkn)];exact hE.out);have y0:=hv3 0 _ rfl;have y1:=hv3 1 _ rfl;have y2:=hv3 2 _ rfl;have y3:=hv3 3 _ rfl;have y4:=hv3 4 _ rfl;have y5:=hv3 5 _ rfl;rw [Nat.add_zero] at y0;have HD:=hid (H.out.fromK (k:=k+1) (by omega) hc);rw [show fP.k=6 from rfl] at HD;have hdl:=hid HD.out.1;have hsl:=fun W=>rT (a:=some ⟨b3,o3,none⟩) (n:=n) (c:=c) (k:=k+1) (by omega) hc W
   rw [show((k+1:Nat):Int)=(k:Int)+1 by simp] at hsl;obtain ⟨m,hm⟩:∃m,n - (k+1)=m:=⟨_,rfl⟩;rw [hm] at HD hdl;simp only [hm] at hsl;have hmn:m<=1000000:=by omega
   have V3':=hid V3;clear hek hv3 hE V3 hm;generalize bF l k=x at *;obtain ⟨s,bo,⟨ng,nu,de⟩,el⟩:=x;dsimp only at *;have hBA:=hid (hB.out.trans (((Below.refl wa.heap.size wa).alloc aB (.cells #[.int .i64 s,.bool bo,.bool ng,.slice a3 nu.length c3,.slice e3 de.length d3,.int .i64 el] 64)).mono hB.out.size));have XA:=hid (heap_alloc_new wa (.cells #[.int .i64 s,.bool bo,.bool ng,.slice a3 nu.length c3,.slice e3 de.length d3,.int .i64 el] 64));have bA:=hid ((Below.refl wa.heap.size wa).alloc aB (.cells #[.int .i64 s,.bool bo,.bool ng,.slice a3 nu.length c3,.slice e3 de.length d3,.int .i64 el] 64));obtain ⟨T,hT⟩:∃T,l.drop (k+1)=T:=⟨_,rfl⟩;have hsT:=hid (show ∀v∈T,cZ v from fun v hv=>hs'.out v (by rw [<-hT] at hv;exact List.mem_of_mem_drop hv));have hT':=hid hT;rw [hT] at HD hdl hE2;clear hT;generalize gM (some ⟨b3,o3,none⟩) c (k+1) 6=a' at *
   go_upto_region 4 with fail
   generalize (wa.alloc (.cells #[.int .i64 s,.bool bo,.bool ng,.slice a3 nu.length c3,.slice e3 de.length d3,.int .i64 el] 64))=wA at *;clear y0 y1 y2 y3 y4 y5;go_wp2
   go_loopw [21] (fun v21 wr=>∃j:Nat,j<=m/\v21 = .int .i64 j/\Hid ((qV p ⟨s,bo,⟨ng,nu,de⟩,el⟩ (T.drop j) && gR p T)=z)/\Hid (Below wA.heap.size wA wr)) (fun v21 _=>m - (intOf v21).toNat)
   case atStart=>exact⟨0,aV,rfl,by show(qV p _ (T.drop 0) && gR p T)=z;rw [bT];exact hE2.out,Below.refl _ _⟩
   case round=>
    obtain ⟨j,hj,rfl,hE3,hB2⟩:=hrel;have BW:=hid (aI hBA hB2.out);by_cases hjm:j<m
    case neg=>
     obtain rfl:j=m:=by omega
     have hji:¬(j:Int)<j:=by omega
     have hv:=hid (show gR p T=z from by
      have:=hE3.out;rw [List.drop_of_length_le (by rw [hdl.out];exact aB)] at this;exact this)
     go_wp2
     go_roundw
     case rel=>exact⟨k+1,by omega,by go_num,by show gR p (l.drop (k+1))=z;rw [hT'.out];exact hv.out,BW.out⟩
     case measure=>first | (simp [intOf];done) | (simp [intOf];omega)
    case pos=>
     have hji:(j:Int)<m:=by omega
     have hej:=cO (l:=T) (k:=j) (by rw [hdl.out];omega);obtain ⟨b4,o4,a4,c4,e4,d4,rfl,V4,hv4⟩:=(HD.out.below BW.out aB).valAt hej;have hE4:=hid (show(((iQ ⟨s,bo,⟨ng,nu,de⟩,el⟩ (bF T j) == p) && qV p ⟨s,bo,⟨ng,nu,de⟩,el⟩ (T.drop (j+1))) && gR p T)=z from by rw [<-aCf (by rw [hdl.out];exact hjm)];exact hE3.out);have y0:=hv4 0 _ rfl;have y1:=hv4 1 _ rfl;have y2:=hv4 2 _ rfl;have y3:=hv4 3 _ rfl;have y4:=hv4 4 _ rfl;have y5:=hv4 5 _ rfl;rw [Nat.add_zero] at y0;have V4':=hid V4;clear hej hv4 hE3 V4;generalize bF T j=y at *;obtain ⟨t,bp,⟨mg,mu,me⟩,em⟩:=y;dsimp only at *;have bB:=hid ((Below.refl wr.heap.size wr).alloc aB (.cells #[.int .i64 t,.bool bp,.bool mg,.slice a4 mu.length c4,.slice e4 me.length d4,.int .i64 em] 64));have BB:=hid (aI hB2 bB.out);have XB:=hid (heap_alloc_new wr (.cells #[.int .i64 t,.bool bp,.bool mg,.slice a4 mu.length c4,.slice e4 me.length d4,.int .i64 em] 64));have hsa:=hid (oE ⟨s,bo,⟨ng,nu,de⟩,el⟩ ⟨t,bp,⟨mg,mu,me⟩,em⟩ a3 e3 a4 e4 c3 d3 c4 d4 _ ((V3'.out.below bA.out aB).below BB.out aB) (V4'.out.below bB.out aB) hsm.out.1 hsm.out.2);have XA2:=hid (aJ BB.out XA.out)
     go_upto_region 7 with fail
     generalize (wr.alloc (.cells #[.int .i64 t,.bool bp,.bool mg,.slice a4 mu.length c4,.slice e4 me.length d4,.int .i64 em] 64))=wB at *;clear y0 y1 y2 y3 y4 y5;obtain ⟨u0,u1,u2,u3,u4,u5⟩:=dP XA2.out;obtain ⟨v0,v1,v2,v3,v4,v5⟩:=dP XB.out;generalize iQ ⟨s,bo,⟨ng,nu,de⟩,el⟩ ⟨t,bp,⟨mg,mu,me⟩,em⟩=sv at *
     go_wp2_with fail
     refine hsa.out.mono ?_;rintro e wC ⟨rfl,bC⟩;have BC:=hid (aI BB bC);have BD:=hid (aI hBA BC.out);clear bC hsa u0 u1 u2 u3 u4 u5 v0 v1 v2 v3 v4 v5;cases hsp:(sv == p)
     case true=>
      obtain rfl:sv=p:=by simpa using hsp
      have hE5:=hid (show(qV sv ⟨s,bo,⟨ng,nu,de⟩,el⟩ (T.drop (j+1)) && gR sv T)=z from by rw [<-hE4.out,hsp];rfl);clear hE4;go_wp2
      go_roundw
      case rel=>exact⟨j+1,by omega,by go_num,hE5.out,BC.out⟩
      case measure=>first | (simp [intOf];done) | (simp [intOf];omega)
     case false=>
      have hv:=hid (show false=z from by rw [<-hE4.out,hsp];rfl);clear hE4;go_wp2;go_ret;exact⟨aQ hv.out,BD.out⟩
end
def aH (n d:Int):bP:=⟨1,false,gC n d,0⟩
def aAr (a b:bP):Bool:=decide (a.sort=b.sort) && ((a.bool == b.bool) && (decide (a.el=b.el) && iE a.num b.num))
theorem gT (a:bP):aAr a a=true:=by
 unfold aAr;rw [kV.2 rfl];simp
theorem cM (n d:Int) (hn:fG n) (hd0:0<d) (hd:fG d) (w:World):Calls Tryz.prog 34 #[.int .i64 n,.int .i64 d] w fun e w'=>rQ (aH n d) w e w':=by
 have X0:=hid (heap_alloc_new w (.cells #[.int .i64 0,.bool false,.bool false,.slice none 0 0,.slice none 0 0,.int .i64 0] 64));have hB0:=hid (show Below w.heap.size w (w.alloc (.cells #[.int .i64 0,.bool false,.bool false,.slice none 0 0,.slice none 0 0,.int .i64 0] 64)) from bD);have ho:=yD n d hn hd0 hd (w.alloc (.cells #[.int .i64 0,.bool false,.bool false,.slice none 0 0,.slice none 0 0,.int .i64 0] 64));obtain ⟨V,hV⟩:∃V,aH n d=V:=⟨_,rfl⟩;have hv:V=⟨1,false,gC n d,0⟩:=hV.symm;rw [hV];obtain ⟨RR,hRR⟩:∃R,gC n d=R:=⟨_,rfl⟩;rw [hRR] at ho hv;have ho':=hid ho;subst hv;obtain ⟨rn,ru,rd⟩:=RR;clear hRR hV ho hn hd0 hd;go_enter Tryz.func34,Tryz.ntmps34
 go_wp2_with fail
 refine ho'.out.mono ?_;rintro e w1 ⟨a,c,b,d1,rfl,h2,h3,h4,h5,hb1⟩;have V1:=hid (show dI (dM w.heap.size w1) w1 ⟨1,false,⟨rn,ru,rd⟩,0⟩ a c b d1 from⟨(show fG 1 from⟨by decide,by decide⟩),(show fG 0 from⟨by decide,by decide⟩),h2.mono fun _ _ hk=>⟨hk.1,aK hB0.out.size hk.2⟩,h4,h3.mono fun _ _ hk=>⟨hk.1,aK hB0.out.size hk.2⟩,h5⟩);have X1:=hid (aJ hb1 X0.out);have B1:=hid (aI hB0 hb1);clear h2 h3 h4 h5 hb1 ho';obtain ⟨z0,z1,z2,z3,z4,z5⟩:=dP X1.out;obtain ⟨f0,f1,f2,f3,f4,f5⟩:=fU X1.out;go_wp2;refine bodyPost_ret (v:=jV ⟨1,false,⟨rn,ru,rd⟩,0⟩ a c b d1) (by simp [results,Tryz.results34,go_sem, *]) rfl ?_;exact rQ.set (v:=⟨1,false,⟨rn,ru,rd⟩,0⟩) (by decide) (by decide) X1.out aB V1.out B1.out [(0,.int .i64 1),(1,.bool false),(2,.bool rn),(3,.slice a ru.length c),(4,.slice b rd.length d1),(5,.int .i64 0)]
theorem gU {S S':Nat->Prop} (x y:bP) (a b a' b':Option Addr) (c d c' d':Nat) (w:World) (h:dI S w x a c b d) (k:dI S' w y a' c' b' d') (hx:cZ x) (hy:cZ y) :
  Calls Tryz.prog 36 #[jV x a c b d,jV y a' c' b' d'] w fun e w'=>e = .returned (.bool (aAr x y))/\Below w.heap.size w w':=by
 have hd:=@hid (aAr x y=(decide (x.sort=y.sort) && ((x.bool == y.bool) && (decide (x.el=y.el) && sG x.num y.num)))) rfl;have hB:=hid (bX w (.cells #[.int .i64 x.sort,.bool x.bool,.bool x.num.neg,.slice a x.num.num.length c,.slice b x.num.den.length d,.int .i64 x.el] 64) (.cells #[.int .i64 y.sort,.bool y.bool,.bool y.num.neg,.slice a' y.num.num.length c',.slice b' y.num.den.length d',.int .i64 y.el] 64));have hs:=hid (aEi x.num y.num a b a' b' c d c' d' _ (h.num.below hB.out aB) (h.den.below hB.out aB) (k.num.below hB.out aB) (k.den.below hB.out aB) (Nat.lt_of_le_of_lt hx.1 (by decide)) (Nat.lt_of_le_of_lt hx.2 (by decide)) (Nat.lt_of_le_of_lt hy.1 (by decide)) (Nat.lt_of_le_of_lt hy.2 (by decide)));have h0:=dG w (.cells #[.int .i64 x.sort,.bool x.bool,.bool x.num.neg,.slice a x.num.num.length c,.slice b x.num.den.length d,.int .i64 x.el] 64) (.cells #[.int .i64 y.sort,.bool y.bool,.bool y.num.neg,.slice a' y.num.num.length c',.slice b' y.num.den.length d',.int .i64 y.el] 64);have h1:=cY w (.cells #[.int .i64 x.sort,.bool x.bool,.bool x.num.neg,.slice a x.num.num.length c,.slice b x.num.den.length d,.int .i64 x.el] 64) (.cells #[.int .i64 y.sort,.bool y.bool,.bool y.num.neg,.slice a' y.num.num.length c',.slice b' y.num.den.length d',.int .i64 y.el] 64);obtain ⟨R,hRR⟩:∃R,aAr x y=R:=⟨_,rfl⟩;rw [hRR] at hd ⊢;clear hRR;obtain ⟨s1,b1,⟨n1,u1,d1⟩,e1⟩:=x;obtain ⟨s2,b2,⟨n2,u2,d2⟩,e2⟩:=y;dsimp only at *;generalize hw0:(w.alloc (.cells #[.int .i64 s1,.bool b1,.bool n1,.slice a u1.length c,.slice b d1.length d,.int .i64 e1] 64)).alloc (.cells #[.int .i64 s2,.bool b2,.bool n2,.slice a' u2.length c',.slice b' d2.length d',.int .i64 e2] 64)=w0 at *;obtain ⟨p0,p1,p2,p3,p4,p5⟩:=dP h0;obtain ⟨q0,q1,q2,q3,q4,q5⟩:=dP h1;clear h0 h1 h k hx hy;by_cases g1:s1=s2
 case neg=>
  have hv:=hid (show R=false from by rw [hd.out,decide_eq_false g1];rfl);have g1b:(s1 == s2)=false:=by simpa using g1
  clear hd hs;go_enter Tryz.func36,Tryz.ntmps36
  go_upto_region 1 with fail
  go_wp2;go_ret;exact⟨aQ hv.out.symm,hB.out⟩
 case pos=>
  subst g1;have hd2:=hid (show R=((b1 == b2) && (decide (e1=e2) && sG ⟨n1,u1,d1⟩ ⟨n2,u2,d2⟩)) from by rw [hd.out];simp);clear hd;cases g2:(b1 == b2)
  case false=>
   have hv:=hid (show R=false from by rw [hd2.out,g2];rfl);clear hd2 hs;go_enter Tryz.func36,Tryz.ntmps36
   go_upto_region 1 with fail
   go_wp2;go_ret;exact⟨aQ hv.out.symm,hB.out⟩
  case true=>
   by_cases g3:e1=e2
   case neg=>
    have hv:=hid (show R=false from by rw [hd2.out,g2,decide_eq_false g3];rfl);have g3b:(e1 == e2)=false:=by simpa using g3
    clear hd2 hs;go_enter Tryz.func36,Tryz.ntmps36
    go_upto_region 1 with fail
    go_wp2;go_ret;exact⟨aQ hv.out.symm,hB.out⟩
   case pos=>
    subst g3;have hv:=hid (show R=sG ⟨n1,u1,d1⟩ ⟨n2,u2,d2⟩ from by rw [hd2.out,g2];simp);clear hd2;go_enter Tryz.func36,Tryz.ntmps36
    go_upto_region 1 with fail
    go_wp2_with fail
    refine hs.out.mono ?_;rintro e w1 ⟨rfl,hb1⟩;have B1:=hid (aI hB hb1);clear hb1 hs;go_wp2;go_ret;exact⟨aQ hv.out.symm,B1.out⟩
theorem aEn (s:Int) (hs:fG s) (w:World):Calls Tryz.prog 48 #[.int .i64 s] w fun e w'=>rQ (zeroV s) w e w':=by
 have h0:=dG w (.cells #[.int .i64 0,.bool false,.bool false,.slice none 0 0,.slice none 0 0,.int .i64 0] 64) (.cells #[.int .i64 s,.bool false,.bool false,.slice none 0 0,.slice none 0 0,.int .i64 0] 64);have h1:=cY w (.cells #[.int .i64 0,.bool false,.bool false,.slice none 0 0,.slice none 0 0,.int .i64 0] 64) (.cells #[.int .i64 s,.bool false,.bool false,.slice none 0 0,.slice none 0 0,.int .i64 0] 64);have hB:=hid (bX w (.cells #[.int .i64 0,.bool false,.bool false,.slice none 0 0,.slice none 0 0,.int .i64 0] 64) (.cells #[.int .i64 s,.bool false,.bool false,.slice none 0 0,.slice none 0 0,.int .i64 0] 64));have hS:=hid hs;clear hs;have hz:=hid (fun W=>aAl W);have H0:=hid h0;have H1:=hid h1;clear h0 h1;by_cases g1:s=1
 case pos=>
  subst g1;go_enter Tryz.func48,Tryz.ntmps48
  go_upto_region 3 with fail
  generalize (w.alloc (.cells #[.int .i64 0,.bool false,.bool false,.slice none 0 0,.slice none 0 0,.int .i64 0] 64)).alloc (.cells #[.int .i64 1,.bool false,.bool false,.slice none 0 0,.slice none 0 0,.int .i64 0] 64)=w0 at *
  go_wp2_with fail
  refine(hz.out w0).mono ?_;rintro e w1 ⟨a,c,b,d,rfl,s3,t3,l3,l3',hb1⟩;have y0:=aJ hb1 H0.out;have y1:=aJ hb1 H1.out;have Y0:=hid y0;have Y1:=hid y1;have B1:=hid (aI hB hb1);obtain ⟨p0,p1,p2,p3,p4,p5⟩:=dP y0;obtain ⟨q0,q1,q2,q3,q4,q5⟩:=dP y1;obtain ⟨f0,f1,f2,f3,f4,f5⟩:=fU y0;have k2:=aY y1 2;have k3:=aY y1 3;have k4:=aY y1 4;have S3:=hid s3;have T3:=hid t3;have L3:=hid l3;have L4:=hid l3';clear s3 t3 l3 l3' hb1 y0 y1 hz;go_wp2;refine bodyPost_ret (v:=jV (zeroV 1) a c b d) (by simp [results,Tryz.results48,go_sem,zeroV,yE, *]) rfl ?_;obtain ⟨g1,g2,g3⟩:=cN (p:=w.heap.size+1) (by decide) (by decide) [(2,.bool false),(3,.slice a 0 c),(4,.slice b 1 d)] w1 _ Y1.out;exact rQ.set (v:=zeroV 1) (W:=setL (w.heap.size+1) [(2,.bool false),(3,.slice a 0 c),(4,.slice b 1 d)] w1) (by decide) (by decide) ((eI (by omega) _ w1).trans Y0.out) aB
   ⟨hS.out,(show fG 0 from⟨by decide,by decide⟩),(S3.out.mono fun _ _ hk=>⟨hk.1,by have:=hB.out.size;have:=hk.2;omega⟩).move g1 (Nat.le_of_eq g2.symm),L3.out,(T3.out.mono fun _ _ hk=>⟨hk.1,by have:=hB.out.size;have:=hk.2;omega⟩).move g1 (Nat.le_of_eq g2.symm),L4.out⟩ (g3 _ _ (Nat.le_succ _) B1.out)
   [(0,.int .i64 1),(1,.bool false),(2,.bool false),(3,.slice a 0 c),(4,.slice b 1 d),(5,.int .i64 0)]
 case neg=>
  have g1b:(s == 1)=false:=by simpa using g1
  have hz0:=hid (show zeroV s=⟨s,false,dC,0⟩ from by unfold zeroV;rw [if_neg g1]);go_enter Tryz.func48,Tryz.ntmps48
  go_upto_region 4 with fail
  generalize (w.alloc (.cells #[.int .i64 0,.bool false,.bool false,.slice none 0 0,.slice none 0 0,.int .i64 0] 64)).alloc (.cells #[.int .i64 s,.bool false,.bool false,.slice none 0 0,.slice none 0 0,.int .i64 0] 64)=w0 at *;obtain ⟨p0,p1,p2,p3,p4,p5⟩:=dP H0.out;obtain ⟨q0,q1,q2,q3,q4,q5⟩:=dP H1.out;obtain ⟨f0,f1,f2,f3,f4,f5⟩:=fU H0.out;go_wp2;refine bodyPost_ret (v:=jV ⟨s,false,dC,0⟩ none 0 none 0) (by simp [results,Tryz.results48,go_sem,dC, *]) rfl ?_;rw [hz0.out];exact rQ.set (v:=⟨s,false,dC,0⟩) (by decide) (by decide) H0.out aB ⟨hS.out,(show fG 0 from⟨by decide,by decide⟩),.nil _ _ _ _,⟨aB,aV⟩,.nil _ _ _ _,⟨aB,aV⟩⟩ hB.out
   [(0,.int .i64 s),(1,.bool false),(2,.bool false),(3,.slice none 0 0),(4,.slice none 0 0),(5,.int .i64 0)]
section
variable {S S' : Nat -> Prop}
theorem aCh (op:Int) (a:Option Addr) (n c:Nat) (l:List bP) (w:World) (h:bJ fP S w a n l) (h1:1<=n) (hc:n<=c) (hn:n<=1000000) (hs:∀v∈l,cZ v) :
  Calls Tryz.prog 142 #[.int .i64 op,.slice a n c] w fun e w'=>e = .returned (.bool (jJ op l))/\Below w.heap.size w w':=by
 have H:=hid h;have hl:=hid h.1;have hs':=hid hs;obtain ⟨z,hz⟩:∃z,jJ op l=z:=⟨_,rfl⟩;have hz0:=hid hz;rw [hz];obtain ⟨m,rfl⟩:∃m,n=m+1:=⟨n - 1,by omega⟩;have HD:=hid (H.out.fromK (k:=1) (by omega) hc);rw [show fP.k=6 from rfl,Nat.add_sub_cancel] at HD;have hdl:=hid HD.out.1;have hsl:=fun W=>rT (a:=a) (n:=m+1) (c:=c) (k:=1) (by omega) hc W
 rw [show((1:Nat):Int)=1 from rfl,Nat.add_sub_cancel] at hsl;generalize gM a c 1 6=a' at *;clear hz h hs;go_enter Tryz.func142,Tryz.ntmps142
 go_wp2
 go_loopw [11,5,7] (fun v11 _ _ wr=>∃k:Nat,k<=m/\v11 = .int .i64 k/\Hid (jJ op (l.drop k)=z)/\Hid (Below w.heap.size w wr)) (fun v11 _ _ _=>m - (intOf v11).toNat)
 case atStart=>exact⟨0,aV,rfl,by show jJ op (l.drop 0)=z;rw [bT];exact hz0.out,Below.refl _ _⟩
 case round=>
  obtain ⟨k,hk,rfl,hE,hB⟩:=hrel;by_cases hkn:k<m
  case neg=>
   obtain rfl:k=m:=by omega
   have hki:¬(k:Int)<k:=by omega
   have hv:=hid (show true=z from by rw [<-hE.out,aAp (by rw [hl.out];omega)]);go_wp2;go_ret;exact⟨aQ hv.out,hB.out⟩
  case pos=>
   have hki:(k:Int)<m:=by omega
   have hkk:(k:Int)<(m:Int)+1:=by omega
   have hek:=cO (l:=l) (k:=k) (by rw [hl.out];omega);have hek1:=cO (l:=l.drop 1) (k:=k) (by rw [hdl.out];omega);have hsx:=hid (hs'.out _ (List.mem_of_getElem? hek));have hsy:=hid (hs'.out _ (List.mem_of_mem_drop (List.mem_of_getElem? hek1)));have hE2:=hid (show(gG op (kU (bF l k).num (bF (l.drop 1) k).num) && jJ op (l.drop (k+1)))=z from by
    rw [aAq,Nat.add_comm 1 k,<-aAo (by rw [hl.out];omega)];exact hE.out)
   obtain ⟨b3,o3,a3,c3,e3,d3,rfl,V3,hv3⟩:=(H.out.below hB.out aB).valAt hek;obtain ⟨b4,o4,a4,c4,e4,d4,rfl,V4,hv4⟩:=(HD.out.below hB.out aB).valAt hek1;have y0:=hv4 0 _ rfl;have y1:=hv4 1 _ rfl;have y2:=hv4 2 _ rfl;have y3:=hv4 3 _ rfl;have y4:=hv4 4 _ rfl;have y5:=hv4 5 _ rfl;rw [Nat.add_zero] at y0;have t2:=hv3 2 _ rfl;have t3:=hv3 3 _ rfl;have t4:=hv3 4 _ rfl;have V3':=hid V3.rat;have V4':=hid V4.rat;clear hek hek1 hv3 hv4 hE V3 V4;generalize bF l k=x at *;generalize bF (l.drop 1) k=y at *;obtain ⟨s,bo,⟨ng,nu,de⟩,el⟩:=x;obtain ⟨t,bp,⟨mg,mu,me⟩,em⟩:=y;dsimp only at *;have bA:=hid ((Below.refl wr.heap.size wr).alloc aB (.cells #[.int .i64 t,.bool bp,.bool mg,.slice a4 mu.length c4,.slice e4 me.length d4,.int .i64 em] 64));have hBA:=hid (aI hB bA.out);have XA:=hid (heap_alloc_new wr (.cells #[.int .i64 t,.bool bp,.bool mg,.slice a4 mu.length c4,.slice e4 me.length d4,.int .i64 em] 64));have u2:=aD bA.out t2;have u3:=aD bA.out t3;have u4:=aD bA.out t4
   go_upto_region 4 with fail
   generalize (wr.alloc (.cells #[.int .i64 t,.bool bp,.bool mg,.slice a4 mu.length c4,.slice e4 me.length d4,.int .i64 em] 64))=wA at *;have hcp:=hid (fun W (hW:Below wA.heap.size wA W)=>aEm ⟨ng,nu,de⟩ ⟨mg,mu,me⟩ a3 e3 a4 e4 c3 d3 c4 d4 W ⟨(V3'.out.num.below bA.out aB).below hW aB,V3'.out.nc,(V3'.out.den.below bA.out aB).below hW aB,V3'.out.dc⟩ ⟨(V4'.out.num.below bA.out aB).below hW aB,V4'.out.nc,(V4'.out.den.below bA.out aB).below hW aB,V4'.out.dc⟩ hsx.out.1 hsx.out.2 hsy.out.1 hsy.out.2);have z2:=aC XA.out 2;have z3:=aC XA.out 3;have z4:=aC XA.out 4;simp only [dA,dB,cW] at z2 z3 z4;clear y0 y1 y2 y3 y4 y5 t2 t3 t4 XA;have hcb:=hid (show -1<=kU ⟨ng,nu,de⟩ ⟨mg,mu,me⟩/\kU ⟨ng,nu,de⟩ ⟨mg,mu,me⟩<=1 from aJe _ _);generalize kU ⟨ng,nu,de⟩ ⟨mg,mu,me⟩=cm at *
   go_cut [7] from 16 to 23 (fun v7 wc=>v7 = .int .i64 cm/\Hid (Below w.heap.size w wc))
   case first=>
    refine aW (S:=fun W=>Below wA.heap.size wA W) 8 (by kernel_rfl) (by kernel_rfl) (aG wA) (fun _=>?_);refine aE 0 ?_;refine aE 1 ?_;refine aE 2 ?_;refine aE 3 ?_;refine aE 4 (hy:=(Or.inl ⟨by rfl,by(intro W hSw;have hq2:=aD hSw u2;have hq3:=aD hSw u3;have hq4:=aD hSw u4;go_simp <;> with_reducible rfl)⟩)) ?_;refine aE 5 ?_;refine aE 6 (hy:=(Or.inl ⟨by rfl,by(intro W hSw;have hq2:=aD hSw z2;have hq3:=aD hSw z3;have hq4:=aD hSw z4;go_simp <;> with_reducible rfl)⟩)) ?_;refine aN 7 fun K hK=>?_;go_simp
    go_at_call 180
    refine(hcp.out _ (aG wA)).mono ?_;rintro ee w9 ⟨rfl,b9⟩;have B9:Below wA.heap.size wA w9:=(aG wA).trans (b9.mono (aG wA).size);clear b9 hcp;dsimp only;refine hK.out _ _ (by(exact B9)) (fun hHeld2=>?_);clear hK K;(try simp only [Act.put,sA,sB,sC]);refine bH (by decide +kernel) ?_;simp only [cG,bT];have BC:=hid (aI hBA B9);clear B9 u2 u3 u4 z2 z3 z4;go_wp2;go_meet
    case rel=>exact⟨rfl,BC.out⟩
   case rest=>
    obtain ⟨rfl,hW⟩:=hcut;clear hcp u2 u3 u4 z2 z3 z4 hBA bA
    go_upto_region 5 with fail
    go_cut [57] from 24 to 57 (fun v57 wd=>v57 = .bool (!gG op cm)/\wd=wc)
    case first=>
     rcases (show cm = -1\/cm=0\/cm=1 from by have:=hcb.out;omega) with rfl | rfl | rfl
     ·by_cases e1:op=17
      ·subst e1;have hok:=hid (show gG 17 (-1)=true from by decide);go_wp2;go_meet
       case rel=>exact⟨by rw [hok.out];rfl,rfl⟩
      ·have e1b:(op != 17)=true:=by simpa using e1
       have e1d:decide (op=17)=false:=decide_eq_false e1;by_cases e2:op=18
       ·subst e2;have hok:=hid (show gG 18 (-1)=true from by decide);go_wp2;go_meet
        case rel=>exact⟨by rw [hok.out];rfl,rfl⟩
       ·have e2b:(op != 18)=true:=by simpa using e2
        have e2d:decide (op=18)=false:=decide_eq_false e2;have hok:=hid (show gG op (-1)=false from by unfold gG;simp [e1,e2]);go_wp2;go_meet
        case rel=>exact⟨by rw [hok.out];rfl,rfl⟩
     ·by_cases e1:op=17
      ·subst e1;have hok:=hid (show gG 17 (0)=true from by decide);go_wp2;go_meet
       case rel=>exact⟨by rw [hok.out];rfl,rfl⟩
      ·have e1b:(op != 17)=true:=by simpa using e1
       have e1d:decide (op=17)=false:=decide_eq_false e1;by_cases e2:op=19
       ·subst e2;have hok:=hid (show gG 19 (0)=true from by decide);go_wp2;go_meet
        case rel=>exact⟨by rw [hok.out];rfl,rfl⟩
       ·have e2b:(op != 19)=true:=by simpa using e2
        have e2d:decide (op=19)=false:=decide_eq_false e2;have hok:=hid (show gG op (0)=false from by unfold gG;simp [e1,e2]);go_wp2;go_meet
        case rel=>exact⟨by rw [hok.out];rfl,rfl⟩
     ·by_cases e1:op=19
      ·subst e1;have hok:=hid (show gG 19 (1)=true from by decide);go_wp2;go_meet
       case rel=>exact⟨by rw [hok.out];rfl,rfl⟩
      ·have e1b:(op != 19)=true:=by simpa using e1
       have e1d:decide (op=19)=false:=decide_eq_false e1;by_cases e2:op=20
       ·subst e2;have hok:=hid (show gG 20 (1)=true from by decide);go_wp2;go_meet
        case rel=>exact⟨by rw [hok.out];rfl,rfl⟩
       ·have e2b:(op != 20)=true:=by simpa using e2
        have e2d:decide (op=20)=false:=decide_eq_false e2;have hok:=hid (show gG op (1)=false from by unfold gG;simp [e1,e2]);go_wp2;go_meet
        case rel=>exact⟨by rw [hok.out];rfl,rfl⟩
    case rest=>
     obtain ⟨rfl,rfl⟩:=hcut;cases hok:gG op cm
     case true=>
      have hE3:=hid (show jJ op (l.drop (k+1))=z from by rw [<-hE2.out,hok];rfl);clear hE2 hok;go_wp2
      go_roundw
      case rel=>exact⟨k+1,by omega,by go_num,hE3.out,hW.out⟩
      case measure=>first | (simp [intOf];done) | (simp [intOf];omega)
     case false=>
      have hv:=hid (show false=z from by rw [<-hE2.out,hok];rfl);clear hE2 hok;go_wp2;go_ret;exact⟨aQ hv.out,hW.out⟩
end
def fY (S:Nat->Prop) (w W:World) (k:Nat):Prop:=(k<w.heap.size/\S k)\/dM w.heap.size W k
def qW (op:Int) (a b:cE):cE × Int:=if op=13 then jZ a b else if op=14 then pM a b else if op=15 then nA a b else if op=16 then lO a b else(a,0)
def eA (op:Int):cE->List bP->cE × Int
 | a,[]=>(a,0)
 | a,v :: l=>if (qW op a v.num).2=0 then eA op (qW op a v.num).1 l else qW op a v.num
def kC (op:Int) (l:List bP):cE × Int:=if op=14/\l.length=1 then(jS (bF l 0).num,0) else eA op (bF l 0).num (l.drop 1)
def gB (r:cE):Prop:=r.num.length<=1000000/\r.den.length<=1000000
theorem jW:gB iI:=⟨by decide,by decide⟩
theorem lI (ng:Bool) (n d:Nat):gB (dV ng n d).1:=by
 unfold dV
 split
 ·exact jW
 case isFalse h=>
  unfold xW at h;simp only [Bool.or_eq_true,decide_eq_true_eq,not_or] at h;exact⟨by show(qM ng n d).num.length<=_;omega,by show(qM ng n d).den.length<=_;omega⟩
theorem pW (a b:cE):gB (jZ a b).1:=by
 unfold jZ
 split
 ·exact lI _ _ _
 ·exact jW
theorem uG (a b:cE):gB (pM a b).1:=by
 unfold pM
 split
 ·exact pW _ _
 ·exact jW
theorem mK (a b:cE):gB (nA a b).1:=by
 unfold nA
 split
 ·exact lI _ _ _
 ·exact jW
theorem uH (a b:cE):gB (lO a b).1:=by
 unfold lO
 split
 ·exact lI _ _ _
 ·exact jW
theorem aAs {op:Int} {r:cE} {l:List bP} {k:Nat} (hk:k<l.length):eA op r (l.drop k)=if (qW op r (bF l k).num).2=0 then eA op (qW op r (bF l k).num).1 (l.drop (k+1)) else qW op r (bF l k).num:=by
 rw [List.drop_eq_getElem_cons hk];have:l[k]=bF l k:=by have:=cO hk;rw [List.getElem?_eq_getElem hk] at this;injection this
 rw [this];rfl
section
variable {S S' : Nat -> Prop} {w W W' : World} {r : cE} {a b : Option Addr} {c d : Nat}
theorem fJ.keep (h:fJ S W r a c b d) (hk:∀k,k<W.heap.size->S k->W'.heap[k]? = W.heap[k]?) (hs:W.heap.size<=W'.heap.size):fJ S W' r a c b d:=⟨h.num.keep hk hs,h.nc,h.den.keep hk hs,h.dc⟩
theorem fJ.mono (h:fJ S W r a c b d) (hk:∀k,k<W.heap.size->S k->S' k):fJ S' W r a c b d:=⟨h.num.mono hk,h.nc,h.den.mono hk,h.dc⟩
theorem fJ.below {B:Nat} (h:fJ S W r a c b d) (hb:Below B W W') (hB:W.heap.size<=B):fJ S W' r a c b d:=⟨h.num.below hb hB,h.nc,h.den.below hb hB,h.dc⟩
theorem fJ.old (h:fJ S w r a c b d):fJ (fY S w w) w r a c b d:=h.mono fun _ hk hS=>.inl ⟨hk,hS⟩
theorem fJ.move (h:fJ (fY S w W) W r a c b d) (hk:∀k,k<w.heap.size\/dO W k->W'.heap[k]? = W.heap[k]?) (hs:W.heap.size<=W'.heap.size):fJ (fY S w W') W' r a c b d:=
 (h.keep (fun k _ hS=>hk k (hS.elim (fun h=>.inl h.1) fun h=>.inr h.1)) hs).mono fun k _ hS=>hS.elim .inl fun h=>.inr ⟨h.1.same (hk k (.inr h.1)),h.2⟩
theorem fJ.moveBelow {B:Nat} (h:fJ (fY S w W) W r a c b d) (hb:Below B W W') (hB:W.heap.size<=B) (hw:w.heap.size<=W.heap.size):fJ (fY S w W') W' r a c b d:=
 h.move (fun k hk=>hb.block k (bN (hk.elim (fun h=>bN h hw) dO.lt) hB)) hb.size
theorem fJ.moveSet {p:Nat} {cs:Array Value} {t:TypeId} (h:fJ (fY S w W) W r a c b d) (h1:t≠3) (h2:t≠177) (hp:W.heap[p]? = some (.cells cs t (0,0))) (hwp:w.heap.size<=p) (l:List (Nat × Value)):fJ (fY S w (setL p l W)) (setL p l W) r a c b d:=by
 obtain ⟨q1,q2,_⟩:=cN h1 h2 l W cs hp;exact h.move (fun k hk=>hk.elim (fun h=>eI (by omega) _ _) (q1 k)) (Nat.le_of_eq q2.symm)
structure kN (S:Nat->Prop) (w W:World) (r:cE) (a:Option Addr) (c:Nat) (b:Option Addr) (d:Nat):Prop where
 x:W.heap[w.heap.size]? = some (.cells #[.bool r.neg,.slice a r.num.length c,.slice b r.den.length d] 36 (0,0))
 v:fJ (fY S w W) W r a c b d
 b:Below w.heap.size w W
 s:gB r
def aMa (S:Nat->Prop) (r:cE × Int) (w:World) (e:Ending) (w':World):Prop:=∃a c b d,e = .returned (.tuple #[dK r.1 a c b d,.int .i64 r.2])/\fJ (fY S w w') w' r.1 a c b d/\Below w.heap.size w w'
theorem kN.set {v0 v1 v2:Value} (hp:W.heap[w.heap.size]? = some (.cells #[v0,v1,v2] 36 (0,0))) (v:fJ (fY S w W) W r a c b d) (hb:Below w.heap.size w W) (s:gB r):kN S w (setL w.heap.size [(0,.bool r.neg),(1,.slice a r.num.length c),(2,.slice b r.den.length d)] W) r a c b d:=
 ⟨(lU _ W _ hp).trans rfl,v.moveSet (by decide) (by decide) hp aB _,(cN (by decide) (by decide) _ W _ hp).2.2 _ _ aB hb,s⟩
theorem kN.out {R:cE × Int} (h:kN S w W R.1 a c b d) (l:List (Nat × Value)):aMa S R w (.returned (.tuple #[dK R.1 a c b d,.int .i64 R.2])) (setL w.heap.size l W):=
 ⟨a,c,b,d,rfl,h.v.moveSet (by decide) (by decide) h.x aB l,(cN (by decide) (by decide) l W _ h.x).2.2 _ _ aB h.b⟩
theorem aCi (op:Int) (a:Option Addr) (n c:Nat) (l:List bP) (w:World) (h:bJ fP S w a n l) (h1:1<=n) (hc:n<=c) (hn:n<=1000000) (hs:∀v∈l,cZ v) :
  Calls Tryz.prog 143 #[.int .i64 op,.slice a n c] w fun e w'=>aMa S (kC op l) w e w':=by
 have H:=hid h;have hl:=hid h.1;have hs':=hid hs;obtain ⟨z,hz⟩:∃z,kC op l=z:=⟨_,rfl⟩;have hz0:=hid (show(if op=14/\n=1 then(jS (bF l 0).num,0) else eA op (bF l 0).num (l.drop 1))=z from by rw [<-hz,<-h.1];rfl);rw [hz];have he0:=cO (l:=l) (k:=0) (by rw [h.1];omega);obtain ⟨b0,o0,a0,c0,e0,d0,rfl,V0,hv0⟩:=h.valAt he0;have hs0:gB (bF l 0).num:=hs _ (List.mem_of_getElem? he0);have q2:w.cell? ⟨b0,o0+2,none⟩=some (.bool (bF l 0).num.neg):=by have:=hv0 2 _ rfl;rwa [Nat.zero_mul,Nat.add_zero] at this
 have q3:w.cell? ⟨b0,o0+3,none⟩=some (.slice a0 (bF l 0).num.num.length c0):=by have:=hv0 3 _ rfl;rwa [Nat.zero_mul,Nat.add_zero] at this
 have q4:w.cell? ⟨b0,o0+4,none⟩=some (.slice e0 (bF l 0).num.den.length d0):=by have:=hv0 4 _ rfl;rwa [Nat.zero_mul,Nat.add_zero] at this
 have V0':=hid V0.rat;obtain ⟨m,rfl⟩:∃m,n=m+1:=⟨n - 1,by omega⟩;have HD:=hid (H.out.fromK (k:=1) (by omega) hc);rw [show fP.k=6 from rfl,Nat.add_sub_cancel] at HD;have hdl:=hid HD.out.1;have hsl:=fun W=>rT (a:=some ⟨b0,o0,none⟩) (n:=m+1) (c:=c) (k:=1) (by omega) hc W
 rw [show((1:Nat):Int)=1 from rfl,Nat.add_sub_cancel] at hsl;have hsd:=hid (show ∀v∈l.drop 1,cZ v from fun v hv=>hs v (List.mem_of_mem_drop hv));generalize gM (some ⟨b0,o0,none⟩) c 1 6=a' at *;clear hz h hs hv0 he0 V0 hs';generalize (bF l 0).num=r0 at *;generalize l.drop 1=l' at *;clear H hl;obtain ⟨ng,nu,de⟩:=r0;dsimp only at *;have X0:=hid (heap_alloc_new w (.cells #[.bool false,.slice none 0 0,.slice none 0 0] 36));have bA:=hid (show Below w.heap.size w (w.alloc (.cells #[.bool false,.slice none 0 0,.slice none 0 0] 36)) from(Below.refl w.heap.size w).alloc aB _);generalize hw0:w.alloc (.cells #[.bool false,.slice none 0 0,.slice none 0 0] 36)=w0 at *;replace q2:=aD bA.out q2;replace q3:=aD bA.out q3;replace q4:=aD bA.out q4;obtain ⟨f0,f1,f2⟩:=dT X0.out;obtain ⟨z0,z1,z2⟩:=dF X0.out;have J0:=hid (kN.set (S:=S) (r:=⟨ng,nu,de⟩) X0.out (V0'.out.old.moveBelow bA.out aB aB) bA.out hs0);have hw0':=hid hw0;go_enter Tryz.func143,Tryz.ntmps143
 go_upto_region 2 with fail
 have J1:Hid (kN S w (((w0.setCell ⟨w.heap.size,0,none⟩ (.bool ng)).setCell ⟨w.heap.size,1,none⟩ (.slice a0 nu.length c0)).setCell ⟨w.heap.size,2,none⟩ (.slice e0 de.length d0)) ⟨ng,nu,de⟩ a0 c0 e0 d0):=J0;generalize ((w0.setCell ⟨w.heap.size,0,none⟩ (.bool ng)).setCell ⟨w.heap.size,1,none⟩ (.slice a0 nu.length c0)).setCell ⟨w.heap.size,2,none⟩ (.slice e0 de.length d0)=w1 at *;clear J0 hw0 hw0' q2 q3 q4 z0 z1 z2 f0 f1 f2 X0
 go_cut [18] from 12 to 18 (fun v18 wc=>v18 = .bool (decide (op=14/\m=0))/\wc=w1)
 case first=>
  by_cases h14:op=14
  ·subst h14;by_cases hm:m=0
   ·subst hm;go_wp2;go_meet
    case rel=>exact⟨rfl,rfl⟩
   ·have hmb:((m:Int)+1 == 1)=false:=by simp;omega
    have hmd:decide ((m:Int)+1=1)=false:=by simp;omega
    have hme:¬(m:Int)+1=1:=by omega
    have hv:=hid (show decide ((14:Int)=14/\m=0)=false from decide_eq_false fun h=>hm h.2);go_wp2;go_meet
    case rel=>exact⟨by rw [hv.out],rfl⟩
  ·have h14b:(op == 14)=false:=by simpa using h14
   have h14d:decide (op=14)=false:=decide_eq_false h14;have hv:=hid (show decide (op=14/\m=0)=false from decide_eq_false fun h=>h14 h.1);go_wp2;go_meet
   case rel=>exact⟨by rw [hv.out],rfl⟩
 case rest=>
  obtain ⟨rfl,rfl⟩:=hcut;by_cases h14:op=14/\m=0
  ·obtain ⟨rfl,rfl⟩:=h14;have hv:=hid (show decide ((14:Int)=14/\(0:Nat)=0)=true from rfl);have hz1:=hid (show(jS ⟨ng,nu,de⟩,(0:Int))=z from hz0.out);have hsz:=hid (J1.out.b.size);have hng:=hid (aAk ⟨ng,nu,de⟩ a0 e0 c0 d0 wc J1.out.v hs0.1 hs0.2);have hnl:=hid (show gB (jS ⟨ng,nu,de⟩) from by unfold jS;split <;> first | exact hs0 | exact jW);generalize jS ⟨ng,nu,de⟩=nn at *;obtain ⟨R1,R2,R3⟩:=nn;have z0:=aC J1.out.x 0;have z1:=aC J1.out.x 1;have z2:=aC J1.out.x 2;simp only [dA,dB,cW] at z0 z1 z2
   go_wp2_with fail
   refine hng.out.mono ?_;rintro ee w9 ⟨a9,c9,b9,d9,rfl,p1,p2,p3,p4,hb9⟩;have x9:=(hb9.block _ (bQ J1.out.x).1).trans J1.out.x;have V9:fJ (fY S w w9) w9 ⟨R1,R2,R3⟩ a9 c9 b9 d9:=⟨p1.mono fun k _ h=>.inr ⟨h.1,aK hsz.out h.2⟩,p3,p2.mono fun k _ h=>.inr ⟨h.1,aK hsz.out h.2⟩,p4⟩;have J9:=hid (kN.set x9 V9 (J1.out.b.trans (hb9.mono J1.out.b.size)) hnl.out);have f0:=aY x9 0;have f1:=aY x9 1;have f2:=aY x9 2;replace z0:=aC x9 0;replace z1:=aC x9 1;replace z2:=aC x9 2;simp only [dA,dB,cW] at z0 z1 z2;clear x9 V9 p1 p2 p3 p4 hb9 hng J1;go_wp2;refine bodyPost_ret (v:=.tuple #[dK ⟨R1,R2,R3⟩ a9 c9 b9 d9,.int .i64 0]) (by simp [results,Tryz.results143,go_sem, *]) rfl ?_;rw [<-hz1.out];exact kN.out (R:=(⟨R1,R2,R3⟩,0)) J9.out []
  ·have hv:=hid (show decide (op=14/\m=0)=false from decide_eq_false h14);rw [hv.out];have hz1:=hid (show eA op ⟨ng,nu,de⟩ l'=z from by rw [<-hz0.out,if_neg (fun h=>h14 ⟨h.1,by omega⟩)]);clear hz0 hv h14;go_wp2
   go_loopw [24,5] (fun v24 v5 wr=>∃(k:Nat) (r:cE) (a3:Option Addr) (c3:Nat) (e3:Option Addr) (d3:Nat),k<=m/\v24 = .int .i64 k/\v5 = .int .i64 0/\Hid (eA op r (l'.drop k)=z)/\Hid (kN S w wr r a3 c3 e3 d3)) (fun v24 _ _=>m - (intOf v24).toNat)
   case atStart=>exact⟨0,_,_,_,_,_,aV,rfl,rfl,by show eA op _ (l'.drop 0)=z;rw [bT];exact hz1.out,J1⟩
   case round=>
    obtain ⟨k,r,a1,c1,e1,d1,hk,rfl,rfl,hE,J⟩:=hrel;clear J1 hz1 hs0 V0';obtain ⟨ng,nu,de⟩:=r;have hs1:=J.out.s;have V1:=hid J.out.v;have B1:=hid J.out.b;have z0:=aC J.out.x 0;have z1:=aC J.out.x 1;have z2:=aC J.out.x 2;simp only [dA,dB,cW] at z0 z1 z2;by_cases hkn:k<m
    case neg=>
     obtain rfl:k=m:=by omega
     have hki:¬(k:Int)<k:=by omega
     have hv:=hid (show((⟨ng,nu,de⟩:cE),(0:Int))=z from by rw [<-hE.out,List.drop_of_length_le (by rw [hdl.out];exact aB)];rfl);have f0:=aY J.out.x 0;have f1:=aY J.out.x 1;have f2:=aY J.out.x 2;go_wp2;refine bodyPost_ret (v:=.tuple #[dK ⟨ng,nu,de⟩ a1 c1 e1 d1,.int .i64 0]) (by simp [results,Tryz.results143,go_sem, *]) rfl ?_;rw [<-hv.out];exact kN.out (R:=(⟨ng,nu,de⟩,0)) J.out [(0,.bool ng),(1,.slice a1 nu.length c1),(2,.slice e1 de.length d1)]
    case pos=>
     have hki:(k:Int)<m:=by omega
     have hek:=cO (l:=l') (k:=k) (by rw [hdl.out];omega);have hsx:=hsd.out _ (List.mem_of_getElem? hek);have hE2:=hid ((aAs (op:=op) (r:=⟨ng,nu,de⟩) (l:=l') (k:=k) (by rw [hdl.out];omega)).symm.trans hE.out);obtain ⟨b3,o3,a3,c3,e3,d3,rfl,V3,hv3⟩:=(HD.out.below B1.out aB).valAt hek;have y0:=hv3 0 _ rfl;have y1:=hv3 1 _ rfl;have y2:=hv3 2 _ rfl;have y3:=hv3 3 _ rfl;have y4:=hv3 4 _ rfl;have y5:=hv3 5 _ rfl;rw [Nat.add_zero] at y0;have V3':=hid V3.rat;clear hek hv3 hE V3;generalize bF l' k=x at *;obtain ⟨s,bo,⟨mg,mu,me⟩,em⟩:=x;dsimp only at *;have bA:=hid ((Below.refl wr.heap.size wr).alloc aB (.cells #[.int .i64 s,.bool bo,.bool mg,.slice a3 mu.length c3,.slice e3 me.length d3,.int .i64 em] 64));have XA:=hid (heap_alloc_new wr (.cells #[.int .i64 s,.bool bo,.bool mg,.slice a3 mu.length c3,.slice e3 me.length d3,.int .i64 em] 64));have xA:=hid ((bA.out.block _ (bQ J.out.x).1).trans J.out.x)
     go_upto_region 7 with fail
     generalize (wr.alloc (.cells #[.int .i64 s,.bool bo,.bool mg,.slice a3 mu.length c3,.slice e3 me.length d3,.int .i64 em] 64))=wA at *;have hR:=hid (fun W (hW:Below wA.heap.size wA W)=>(V1.out.below bA.out aB).below hW aB);have hR':=hid (fun W (hW:Below wA.heap.size wA W)=>(V3'.out.below bA.out aB).below hW aB);have u2:=aC XA.out 2;have u3:=aC XA.out 3;have u4:=aC XA.out 4;simp only [dA,dB,cW] at u2 u3 u4;replace z0:=aD bA.out z0;replace z1:=aD bA.out z1;replace z2:=aD bA.out z2;have BA:=hid (aI B1 bA.out);have JA:=hid (show kN S w wA ⟨ng,nu,de⟩ a1 c1 e1 d1 from⟨xA.out,V1.out.moveBelow bA.out aB B1.out.size,BA.out,hs1⟩);clear y0 y1 y2 y3 y4 y5 XA J V1 V3' B1 bA;by_cases h13:op=13
     case pos=>
      subst h13;have hE3:=hid (show(if (jZ ⟨ng,nu,de⟩ ⟨mg,mu,me⟩).2=0 then eA 13 (jZ ⟨ng,nu,de⟩ ⟨mg,mu,me⟩).1 (l'.drop (k+1)) else jZ ⟨ng,nu,de⟩ ⟨mg,mu,me⟩)=z from hE2.out);have hsm:=hid (pW ⟨ng,nu,de⟩ ⟨mg,mu,me⟩);have hcp:=hid (fun W (hW:Below wA.heap.size wA W)=>aAj ⟨ng,nu,de⟩ ⟨mg,mu,me⟩ a1 e1 a3 e3 c1 d1 c3 d3 W (hR.out W hW) (hR'.out W hW) hs1.1 hs1.2 hsx.1 hsx.2);generalize jZ ⟨ng,nu,de⟩ ⟨mg,mu,me⟩=res at *;obtain ⟨⟨R1,R2,R3⟩,er⟩:=res;clear hE2
      go_wp2_with fail
      refine(hcp.out wA (Below.refl _ _)).mono ?_;rintro ee w9 ⟨v9,rfl,a9,c9,b9,d9,hv9,p1,p2,p3,p4,B9⟩;cases hv9;have V9':=hid (show fJ (fY S w w9) w9 ⟨R1,R2,R3⟩ a9 c9 b9 d9 from⟨p1.mono fun k _ h=>.inr ⟨h.1,aK BA.out.size h.2⟩,p3,p2.mono fun k _ h=>.inr ⟨h.1,aK BA.out.size h.2⟩,p4⟩);clear p1 p2 p3 p4 hcp;dsimp only;have x9:=aJ B9 xA.out;have J9:=hid (kN.set x9 V9'.out (aI BA B9) hsm.out);have f0:=aY x9 0;have f1:=aY x9 1;have f2:=aY x9 2;replace z0:=aC x9 0;replace z1:=aC x9 1;replace z2:=aC x9 2;simp only [dA,dB,cW] at z0 z1 z2;clear x9 V9' B9 u2 u3 u4 hR hR' hsm JA
      go_upto_region 16 with fail
      have JB:Hid (kN S w (((w9.setCell ⟨w.heap.size,0,none⟩ (.bool R1)).setCell ⟨w.heap.size,1,none⟩ (.slice a9 R2.length c9)).setCell ⟨w.heap.size,2,none⟩ (.slice b9 R3.length d9)) ⟨R1,R2,R3⟩ a9 c9 b9 d9):=J9;generalize ((w9.setCell ⟨w.heap.size,0,none⟩ (.bool R1)).setCell ⟨w.heap.size,1,none⟩ (.slice a9 R2.length c9)).setCell ⟨w.heap.size,2,none⟩ (.slice b9 R3.length d9)=wB at *;clear J9 z0 z1 z2 f0 f1 f2;have z0:=aC JB.out.x 0;have z1:=aC JB.out.x 1;have z2:=aC JB.out.x 2;have f0:=aY JB.out.x 0;have f1:=aY JB.out.x 1;have f2:=aY JB.out.x 2;simp only [dA,dB,cW] at z0 z1 z2;by_cases her:er=0
      case pos=>
       subst her;have hE4:=hid (show eA 13 ⟨R1,R2,R3⟩ (l'.drop (k+1))=z from hE3.out);go_wp2
       go_roundw
       case rel=>exact⟨k+1,⟨R1,R2,R3⟩,_,_,_,_,by omega,by go_num,rfl,hE4.out,JB.out⟩
       case measure=>first | (simp [intOf];done) | (simp [intOf];omega)
      case neg=>
       have heb:(er == 0)=false:=by simpa using her
       have hen:(er != 0)=true:=by simpa using her
       have hed:decide (er=0)=false:=decide_eq_false her;have hE4:=hid (show((⟨R1,R2,R3⟩:cE),er)=z from by rw [<-hE3.out];exact(if_neg her).symm);go_wp2;refine bodyPost_ret (v:=.tuple #[dK ⟨R1,R2,R3⟩ a9 c9 b9 d9,.int .i64 er]) (by simp [results,Tryz.results143,go_sem, *]) rfl ?_;rw [<-hE4.out];exact kN.out (R:=(⟨R1,R2,R3⟩,er)) JB.out [(0,.bool R1),(1,.slice a9 R2.length c9),(2,.slice b9 R3.length d9)]
     case neg=>
      have h13b:(op == 13)=false:=by simpa using h13
      have h13d:decide (op=13)=false:=decide_eq_false h13;by_cases h14:op=14
      case pos=>
       subst h14;have hE3:=hid (show(if (pM ⟨ng,nu,de⟩ ⟨mg,mu,me⟩).2=0 then eA 14 (pM ⟨ng,nu,de⟩ ⟨mg,mu,me⟩).1 (l'.drop (k+1)) else pM ⟨ng,nu,de⟩ ⟨mg,mu,me⟩)=z from hE2.out);have hsm:=hid (uG ⟨ng,nu,de⟩ ⟨mg,mu,me⟩);have hcp:=hid (fun W (hW:Below wA.heap.size wA W)=>aEj ⟨ng,nu,de⟩ ⟨mg,mu,me⟩ a1 e1 a3 e3 c1 d1 c3 d3 W (hR.out W hW) (hR'.out W hW) hs1.1 hs1.2 hsx.1 hsx.2);generalize pM ⟨ng,nu,de⟩ ⟨mg,mu,me⟩=res at *;obtain ⟨⟨R1,R2,R3⟩,er⟩:=res;clear hE2
       go_wp2_with fail
       refine(hcp.out wA (Below.refl _ _)).mono ?_;rintro ee w9 ⟨v9,rfl,a9,c9,b9,d9,hv9,p1,p2,p3,p4,B9⟩;cases hv9;have V9':=hid (show fJ (fY S w w9) w9 ⟨R1,R2,R3⟩ a9 c9 b9 d9 from⟨p1.mono fun k _ h=>.inr ⟨h.1,aK BA.out.size h.2⟩,p3,p2.mono fun k _ h=>.inr ⟨h.1,aK BA.out.size h.2⟩,p4⟩);clear p1 p2 p3 p4 hcp;dsimp only;have x9:=aJ B9 xA.out;have J9:=hid (kN.set x9 V9'.out (aI BA B9) hsm.out);have f0:=aY x9 0;have f1:=aY x9 1;have f2:=aY x9 2;replace z0:=aC x9 0;replace z1:=aC x9 1;replace z2:=aC x9 2;simp only [dA,dB,cW] at z0 z1 z2;clear x9 V9' B9 u2 u3 u4 hR hR' hsm JA
       go_upto_region 16 with fail
       have JB:Hid (kN S w (((w9.setCell ⟨w.heap.size,0,none⟩ (.bool R1)).setCell ⟨w.heap.size,1,none⟩ (.slice a9 R2.length c9)).setCell ⟨w.heap.size,2,none⟩ (.slice b9 R3.length d9)) ⟨R1,R2,R3⟩ a9 c9 b9 d9):=J9;generalize ((w9.setCell ⟨w.heap.size,0,none⟩ (.bool R1)).setCell ⟨w.heap.size,1,none⟩ (.slice a9 R2.length c9)).setCell ⟨w.heap.size,2,none⟩ (.slice b9 R3.length d9)=wB at *;clear J9 z0 z1 z2 f0 f1 f2;have z0:=aC JB.out.x 0;have z1:=aC JB.out.x 1;have z2:=aC JB.out.x 2;have f0:=aY JB.out.x 0;have f1:=aY JB.out.x 1;have f2:=aY JB.out.x 2;simp only [dA,dB,cW] at z0 z1 z2;by_cases her:er=0
       case pos=>
        subst her;have hE4:=hid (show eA 14 ⟨R1,R2,R3⟩ (l'.drop (k+1))=z from hE3.out);go_wp2
        go_roundw
        case rel=>exact⟨k+1,⟨R1,R2,R3⟩,_,_,_,_,by omega,by go_num,rfl,hE4.out,JB.out⟩
        case measure=>first | (simp [intOf];done) | (simp [intOf];omega)
       case neg=>
        have heb:(er == 0)=false:=by simpa using her
        have hen:(er != 0)=true:=by simpa using her
        have hed:decide (er=0)=false:=decide_eq_false her;have hE4:=hid (show((⟨R1,R2,R3⟩:cE),er)=z from by rw [<-hE3.out];exact(if_neg her).symm);go_wp2;refine bodyPost_ret (v:=.tuple #[dK ⟨R1,R2,R3⟩ a9 c9 b9 d9,.int .i64 er]) (by simp [results,Tryz.results143,go_sem, *]) rfl ?_;rw [<-hE4.out];exact kN.out (R:=(⟨R1,R2,R3⟩,er)) JB.out [(0,.bool R1),(1,.slice a9 R2.length c9),(2,.slice b9 R3.length d9)]
      case neg=>
       have h14b:(op == 14)=false:=by simpa using h14
       have h14d:decide (op=14)=false:=decide_eq_false h14;by_cases h15:op=15
       case pos=>
        subst h15;have hE3:=hid (show(if (nA ⟨ng,nu,de⟩ ⟨mg,mu,me⟩).2=0 then eA 15 (nA ⟨ng,nu,de⟩ ⟨mg,mu,me⟩).1 (l'.drop (k+1)) else nA ⟨ng,nu,de⟩ ⟨mg,mu,me⟩)=z from hE2.out);have hsm:=hid (mK ⟨ng,nu,de⟩ ⟨mg,mu,me⟩);have hcp:=hid (fun W (hW:Below wA.heap.size wA W)=>aG1 ⟨ng,nu,de⟩ ⟨mg,mu,me⟩ a1 e1 a3 e3 c1 d1 c3 d3 W (hR.out W hW) (hR'.out W hW) hs1.1 hs1.2 hsx.1 hsx.2);generalize nA ⟨ng,nu,de⟩ ⟨mg,mu,me⟩=res at *;obtain ⟨⟨R1,R2,R3⟩,er⟩:=res;clear hE2
        go_wp2_with fail
        refine(hcp.out wA (Below.refl _ _)).mono ?_;rintro ee w9 ⟨v9,rfl,a9,c9,b9,d9,hv9,p1,p2,p3,p4,B9⟩;cases hv9;have V9':=hid (show fJ (fY S w w9) w9 ⟨R1,R2,R3⟩ a9 c9 b9 d9 from⟨p1.mono fun k _ h=>.inr ⟨h.1,aK BA.out.size h.2⟩,p3,p2.mono fun k _ h=>.inr ⟨h.1,aK BA.out.size h.2⟩,p4⟩);clear p1 p2 p3 p4 hcp;dsimp only;have x9:=aJ B9 xA.out;have J9:=hid (kN.set x9 V9'.out (aI BA B9) hsm.out);have f0:=aY x9 0;have f1:=aY x9 1;have f2:=aY x9 2;replace z0:=aC x9 0;replace z1:=aC x9 1;replace z2:=aC x9 2;simp only [dA,dB,cW] at z0 z1 z2;clear x9 V9' B9 u2 u3 u4 hR hR' hsm JA
        go_upto_region 16 with fail
        have JB:Hid (kN S w (((w9.setCell ⟨w.heap.size,0,none⟩ (.bool R1)).setCell ⟨w.heap.size,1,none⟩ (.slice a9 R2.length c9)).setCell ⟨w.heap.size,2,none⟩ (.slice b9 R3.length d9)) ⟨R1,R2,R3⟩ a9 c9 b9 d9):=J9;generalize ((w9.setCell ⟨w.heap.size,0,none⟩ (.bool R1)).setCell ⟨w.heap.size,1,none⟩ (.slice a9 R2.length c9)).setCell ⟨w.heap.size,2,none⟩ (.slice b9 R3.length d9)=wB at *;clear J9 z0 z1 z2 f0 f1 f2;have z0:=aC JB.out.x 0;have z1:=aC JB.out.x 1;have z2:=aC JB.out.x 2;have f0:=aY JB.out.x 0;have f1:=aY JB.out.x 1;have f2:=aY JB.out.x 2;simp only [dA,dB,cW] at z0 z1 z2;by_cases her:er=0
        case pos=>
         subst her;have hE4:=hid (show eA 15 ⟨R1,R2,R3⟩ (l'.drop (k+1))=z from hE3.out);go_wp2
         go_roundw
         case rel=>exact⟨k+1,⟨R1,R2,R3⟩,_,_,_,_,by omega,by go_num,rfl,hE4.out,JB.out⟩
         case measure=>first | (simp [intOf];done) | (simp [intOf];omega)
        case neg=>
         have heb:(er == 0)=false:=by simpa using her
         have hen:(er != 0)=true:=by simpa using her
         have hed:decide (er=0)=false:=decide_eq_false her;have hE4:=hid (show((⟨R1,R2,R3⟩:cE),er)=z from by rw [<-hE3.out];exact(if_neg her).symm);go_wp2;refine bodyPost_ret (v:=.tuple #[dK ⟨R1,R2,R3⟩ a9 c9 b9 d9,.int .i64 er]) (by simp [results,Tryz.results143,go_sem, *]) rfl ?_;rw [<-hE4.out];exact kN.out (R:=(⟨R1,R2,R3⟩,er)) JB.out [(0,.bool R1),(1,.slice a9 R2.length c9),(2,.slice b9 R3.length d9)]
       case neg=>
        have h15b:(op == 15)=false:=by simpa using h15
        have h15d:decide (op=15)=false:=decide_eq_false h15;by_cases h16:op=16
        case pos=>
         subst h16;have hE3:=hid (show(if (lO ⟨ng,nu,de⟩ ⟨mg,mu,me⟩).2=0 then eA 16 (lO ⟨ng,nu,de⟩ ⟨mg,mu,me⟩).1 (l'.drop (k+1)) else lO ⟨ng,nu,de⟩ ⟨mg,mu,me⟩)=z from hE2.out);have hsm:=hid (uH ⟨ng,nu,de⟩ ⟨mg,mu,me⟩);have hcp:=hid (fun W (hW:Below wA.heap.size wA W)=>aG2 ⟨ng,nu,de⟩ ⟨mg,mu,me⟩ a1 e1 a3 e3 c1 d1 c3 d3 W (hR.out W hW) (hR'.out W hW) hs1.1 hs1.2 hsx.1 hsx.2);generalize lO ⟨ng,nu,de⟩ ⟨mg,mu,me⟩=res at *;obtain ⟨⟨R1,R2,R3⟩,er⟩:=res;clear hE2
         go_wp2_with fail
         refine(hcp.out wA (Below.refl _ _)).mono ?_;rintro ee w9 ⟨v9,rfl,a9,c9,b9,d9,hv9,p1,p2,p3,p4,B9⟩;cases hv9;have V9':=hid (show fJ (fY S w w9) w9 ⟨R1,R2,R3⟩ a9 c9 b9 d9 from⟨p1.mono fun k _ h=>.inr ⟨h.1,aK BA.out.size h.2⟩,p3,p2.mono fun k _ h=>.inr ⟨h.1,aK BA.out.size h.2⟩,p4⟩);clear p1 p2 p3 p4 hcp;dsimp only;have x9:=aJ B9 xA.out;have J9:=hid (kN.set x9 V9'.out (aI BA B9) hsm.out);have f0:=aY x9 0;have f1:=aY x9 1;have f2:=aY x9 2;replace z0:=aC x9 0;replace z1:=aC x9 1;replace z2:=aC x9 2;simp only [dA,dB,cW] at z0 z1 z2;clear x9 V9' B9 u2 u3 u4 hR hR' hsm JA
         go_upto_region 16 with fail
         have JB:Hid (kN S w (((w9.setCell ⟨w.heap.size,0,none⟩ (.bool R1)).setCell ⟨w.heap.size,1,none⟩ (.slice a9 R2.length c9)).setCell ⟨w.heap.size,2,none⟩ (.slice b9 R3.length d9)) ⟨R1,R2,R3⟩ a9 c9 b9 d9):=J9;generalize ((w9.setCell ⟨w.heap.size,0,none⟩ (.bool R1)).setCell ⟨w.heap.size,1,none⟩ (.slice a9 R2.length c9)).setCell ⟨w.heap.size,2,none⟩ (.slice b9 R3.length d9)=wB at *;clear J9 z0 z1 z2 f0 f1 f2;have z0:=aC JB.out.x 0;have z1:=aC JB.out.x 1;have z2:=aC JB.out.x 2;have f0:=aY JB.out.x 0;have f1:=aY JB.out.x 1;have f2:=aY JB.out.x 2;simp only [dA,dB,cW] at z0 z1 z2;by_cases her:er=0
         case pos=>
          subst her;have hE4:=hid (show eA 16 ⟨R1,R2,R3⟩ (l'.drop (k+1))=z from hE3.out);go_wp2
          go_roundw
          case rel=>exact⟨k+1,⟨R1,R2,R3⟩,_,_,_,_,by omega,by go_num,rfl,hE4.out,JB.out⟩
          case measure=>first | (simp [intOf];done) | (simp [intOf];omega)
         case neg=>
          have heb:(er == 0)=false:=by simpa using her
          have hen:(er != 0)=true:=by simpa using her
          have hed:decide (er=0)=false:=decide_eq_false her;have hE4:=hid (show((⟨R1,R2,R3⟩:cE),er)=z from by rw [<-hE3.out];exact(if_neg her).symm);go_wp2;refine bodyPost_ret (v:=.tuple #[dK ⟨R1,R2,R3⟩ a9 c9 b9 d9,.int .i64 er]) (by simp [results,Tryz.results143,go_sem, *]) rfl ?_;rw [<-hE4.out];exact kN.out (R:=(⟨R1,R2,R3⟩,er)) JB.out [(0,.bool R1),(1,.slice a9 R2.length c9),(2,.slice b9 R3.length d9)]
        case neg=>
         have h16b:(op == 16)=false:=by simpa using h16
         have h16d:decide (op=16)=false:=decide_eq_false h16;have hcs:qW op ⟨ng,nu,de⟩ ⟨mg,mu,me⟩=(⟨ng,nu,de⟩,0):=by unfold qW;rw [if_neg h13,if_neg h14,if_neg h15,if_neg h16]
         rw [hcs] at hE2;have hE3:=hid (show eA op ⟨ng,nu,de⟩ (l'.drop (k+1))=z from hE2.out);have J9:=hid (show kN S w wA ⟨ng,nu,de⟩ a1 c1 e1 d1 from JA.out);go_wp2
         go_roundw
         case rel=>exact⟨k+1,⟨ng,nu,de⟩,_,_,_,_,by omega,by go_num,rfl,hE3.out,J9.out⟩
         case measure=>first | (simp [intOf];done) | (simp [intOf];omega)
end
end Go.Proofs.YtgoojkiccdjplaaGreatDoor
