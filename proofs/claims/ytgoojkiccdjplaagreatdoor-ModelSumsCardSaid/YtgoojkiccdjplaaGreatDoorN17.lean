/-
  Parts of this claim's texts, one behind the other: EG. No condition.
-/
import Derived.Test.YtgoojkiccdjplaaGreatDoorN16
set_option linter.unusedVariables false
set_option linter.unusedSimpArgs false
set_option maxRecDepth 100000
set_option maxHeartbeats 16000000
namespace Go.Proofs.YtgoojkiccdjplaaGreatDoor
open Go.RowKit Go.Sort Go.Lib
section
variable {S S' : Nat -> Prop}
theorem aG2 (r s:cE) (a b a' b':Option Addr) (c d c' d':Nat) (w:World) (h:fJ S w r a c b d) (k:fJ S' w s a' c' b' d') (hrn:r.num.length<=1000000) (hrd:r.den.length<=1000000) (hsn:s.num.length<=1000000) (hsd:s.den.length<=1000000) :
  Calls Tryz.prog 185 #[dK r a c b d,dK s a' c' b' d'] w fun e w'=>aGx (lO r s) w e w':=by
 have hr:=fun hv=>iM (r:=r) h.num.us64 h.den.us64 hv
 have hs:=fun hv=>iM (r:=s) k.num.us64 k.den.us64 hv
 have H:=hid h;have K:=hid k;obtain ⟨ng,nu,de⟩:=r;obtain ⟨mg,mu,me⟩:=s;dsimp only at *;have hr':=hid hr;have hs':=hid hs;clear h k hr hs;have X0:=hid (pU w (.cells #[.bool ng,.slice a nu.length c,.slice b de.length d] 36) (.cells #[.bool mg,.slice a' mu.length c',.slice b' me.length d'] 36) (.cells #[.bool false,.slice none 0 0,.slice none 0 0] 36));have x1:=nJ w (.cells #[.bool ng,.slice a nu.length c,.slice b de.length d] 36) (.cells #[.bool mg,.slice a' mu.length c',.slice b' me.length d'] 36) (.cells #[.bool false,.slice none 0 0,.slice none 0 0] 36);have x2:=nK w (.cells #[.bool ng,.slice a nu.length c,.slice b de.length d] 36) (.cells #[.bool mg,.slice a' mu.length c',.slice b' me.length d'] 36) (.cells #[.bool false,.slice none 0 0,.slice none 0 0] 36);have hB0:=hid (nL w (.cells #[.bool ng,.slice a nu.length c,.slice b de.length d] 36) (.cells #[.bool mg,.slice a' mu.length c',.slice b' me.length d'] 36) (.cells #[.bool false,.slice none 0 0,.slice none 0 0] 36));generalize hw0:((w.alloc (.cells #[.bool ng,.slice a nu.length c,.slice b de.length d] 36)).alloc (.cells #[.bool mg,.slice a' mu.length c',.slice b' me.length d'] 36)).alloc (.cells #[.bool false,.slice none 0 0,.slice none 0 0] 36)=w0 at *;have hcell:=hid (show ∀W,Below w0.heap.size w0 W->W.cell? ⟨w.heap.size,0,none⟩=some (.bool ng)/\W.cell? ⟨w.heap.size,1,none⟩=some (.slice a nu.length c)/\W.cell? ⟨w.heap.size,2,none⟩=some (.slice b de.length d)/\W.cell? ⟨w.heap.size+1,0,none⟩=some (.bool mg)/\W.cell? ⟨w.heap.size+1,1,none⟩=some (.slice a' mu.length c')/\W.cell? ⟨w.heap.size+1,2,none⟩=some (.slice b' me.length d') from fun W hW=>
  ⟨aD hW (aC x1 0),aD hW (aC x1 1),aD hW (aC x1 2),aD hW (aC x2 0),aD hW (aC x2 1),aD hW (aC x2 2)⟩)
 have hbox:=hid (show ∀W,Below w0.heap.size w0 W->W.heap[w.heap.size+1+1]? = some (.cells #[.bool false,.slice none 0 0,.slice none 0 0] 36 (0,0))/\Below w.heap.size w W from fun W hW=>⟨aJ hW X0.out,aI hB0 hW⟩);have hv1:=hid (dW ⟨ng,nu,de⟩ a b c d w0 (H.out.num.below hB0.out aB) (H.out.den.below hB0.out aB) hrn hrd H.out.nc H.out.dc);have hv2:=hid (fun W (hW:Below w0.heap.size w0 W)=>dW ⟨mg,mu,me⟩ a' b' c' d' W (K.out.num.below (hbox.out W hW).2 aB) (K.out.den.below (hbox.out W hW).2 aB) hsn hsd K.out.nc K.out.dc);obtain ⟨q0,q1,q2,r0,r1,r2⟩:=hcell.out w0 (Below.refl _ _);clear x1 x2;cases hvr:iA ⟨ng,nu,de⟩
 case false=>
  have hdf:=hid (show lO ⟨ng,nu,de⟩ ⟨mg,mu,me⟩=(iI,1) from by unfold lO dN;rw [hvr];rfl);rw [hvr] at hv1;clear hvr;go_enter Tryz.func185,Tryz.ntmps185
  go_wp2_with fail
  refine hv1.out.mono ?_;rintro e w1 ⟨rfl,hb1⟩;obtain ⟨xb,hb⟩:=hbox.out w1 hb1;have XB:=hid xb;have HB:=hid hb;clear hw0 xb hb hb1 hv1;have x5:=XB.out;obtain ⟨z0,z1,z2⟩:=dF x5;obtain ⟨f0,f1,f2⟩:=dT x5;clear x5;go_wp2;refine bodyPost_ret (v:=.tuple #[dK ⟨false,[],[]⟩ none 0 none 0,.int .i64 1]) (by simp [results,Tryz.results185,go_sem, *]) rfl ?_;rw [hdf.out];exact⟨_,rfl,cI.set (r:=iI) (by decide) (by decide) XB.out (by omega) (.nil _ _ _ _) (.nil _ _ _ _) ⟨aV,aV⟩ ⟨aV,aV⟩ HB.out [(0,.bool false),(1,.slice none 0 0),(2,.slice none 0 0)]⟩
 case true=>
  rw [hvr] at hv1;cases hvs:iA ⟨mg,mu,me⟩
  case false=>
   have hdf:=hid (show lO ⟨ng,nu,de⟩ ⟨mg,mu,me⟩=(iI,1) from by unfold lO dN;rw [hvr,hvs];rfl);rw [hvs] at hv2;clear hvr hvs;go_enter Tryz.func185,Tryz.ntmps185
   go_wp2_with fail
   refine hv1.out.mono ?_;rintro e w1 ⟨rfl,hb1⟩;have hb1':=hid hb1;clear q0 q1 q2 r0 r1 r2;obtain ⟨q0,q1,q2,r0,r1,r2⟩:=hcell.out w1 hb1;clear hw0 hv1
   go_wp2_with fail
   refine(hv2.out w1 hb1'.out).mono ?_;rintro e w2 ⟨rfl,hb2⟩;obtain ⟨xb,hb⟩:=hbox.out w2 (hb1'.out.trans (hb2.mono hb1'.out.size));have XB:=hid xb;have HB:=hid hb;clear xb hb hb1 hb2 hv2;have x5:=XB.out;obtain ⟨z0,z1,z2⟩:=dF x5;obtain ⟨f0,f1,f2⟩:=dT x5;clear x5;go_wp2;refine bodyPost_ret (v:=.tuple #[dK ⟨false,[],[]⟩ none 0 none 0,.int .i64 1]) (by simp [results,Tryz.results185,go_sem, *]) rfl ?_;rw [hdf.out];exact⟨_,rfl,cI.set (r:=iI) (by decide) (by decide) XB.out (by omega) (.nil _ _ _ _) (.nil _ _ _ _) ⟨aV,aV⟩ ⟨aV,aV⟩ HB.out [(0,.bool false),(1,.slice none 0 0),(2,.slice none 0 0)]⟩
  case true=>
   by_cases hz:mu.length=0
   case pos=>
    have hdf:=hid (show lO ⟨ng,nu,de⟩ ⟨mg,mu,me⟩=(iI,1) from by unfold lO dN;rw [hvr,hvs,decide_eq_true hz];rfl);have hzi:(mu.length:Int)=0:=by omega
    have hzb:((mu.length:Int) == 0)=true:=by simpa using hz
    have hzd:decide ((mu.length:Int)=0)=true:=decide_eq_true hzi;rw [hvs] at hv2;clear hvr hvs hz;go_enter Tryz.func185,Tryz.ntmps185
    go_wp2_with fail
    refine hv1.out.mono ?_;rintro e w1 ⟨rfl,hb1⟩;have hb1':=hid hb1;clear q0 q1 q2 r0 r1 r2;obtain ⟨q0,q1,q2,r0,r1,r2⟩:=hcell.out w1 hb1;clear hw0 hv1
    go_wp2_with fail
    refine(hv2.out w1 hb1'.out).mono ?_;rintro e w2 ⟨rfl,hb2⟩;obtain ⟨xb,hb⟩:=hbox.out w2 (hb1'.out.trans (hb2.mono hb1'.out.size));clear q0 q1 q2 r0 r1 r2;obtain ⟨q0,q1,q2,r0,r1,r2⟩:=hcell.out w2 (hb1'.out.trans (hb2.mono hb1'.out.size));have XB:=hid xb;have HB:=hid hb;clear xb hb hb1 hb2 hv2;have x5:=XB.out;obtain ⟨z0,z1,z2⟩:=dF x5;obtain ⟨f0,f1,f2⟩:=dT x5;clear x5;go_wp2;refine bodyPost_ret (v:=.tuple #[dK ⟨false,[],[]⟩ none 0 none 0,.int .i64 1]) (by simp [results,Tryz.results185,go_sem, *]) rfl ?_;rw [hdf.out];exact⟨_,rfl,cI.set (r:=iI) (by decide) (by decide) XB.out (by omega) (.nil _ _ _ _) (.nil _ _ _ _) ⟨aV,aV⟩ ⟨aV,aV⟩ HB.out [(0,.bool false),(1,.slice none 0 0),(2,.slice none 0 0)]⟩
   case neg=>
    have hzi:¬(mu.length:Int)=0:=by omega
    have hzb:((mu.length:Int) == 0)=false:=by simpa using hz
    have hzd:decide ((mu.length:Int)=0)=false:=decide_eq_false hzi;have hz':=hid hz;clear hz;have R:=hid (hr'.out hvr);have S2:=hid (hs'.out hvs);rw [hvs] at hv2;have hdm:=hid (show lO ⟨ng,nu,de⟩ ⟨mg,mu,me⟩=dV (ng != mg) (aM nu * aM me) (aM de * aM mu) from by unfold lO dN;rw [hvr,hvs,decide_eq_false hz'.out];rfl);clear hr' hs' hvr hvs;obtain ⟨x,y,e1,e2,lx,ly,hy0⟩:∃x y,nu=aF x/\de=aF y/\nu.length<=64/\de.length<=64/\0<y:=⟨_,_,R.out.num,R.out.den,R.out.nl,R.out.dl,R.out.pos⟩;obtain ⟨x',y',e3,e4,lx',ly',hy0'⟩:∃x y,mu=aF x/\me=aF y/\mu.length<=64/\me.length<=64/\0<y:=⟨_,_,S2.out.num,S2.out.den,S2.out.nl,S2.out.dl,S2.out.pos⟩;subst e1 e2 e3 e4;have hx0':0<x':=aZ.1 (by have:=hz'.out;omega);rw [aU,aU,aU,aU] at hdm;clear R S2;go_enter Tryz.func185,Tryz.ntmps185
    go_wp2_with fail
    refine hv1.out.mono ?_;rintro e w1 ⟨rfl,hb1⟩;have hb1':=hid hb1;clear q0 q1 q2 r0 r1 r2;obtain ⟨q0,q1,q2,r0,r1,r2⟩:=hcell.out w1 hb1;clear hw0 hv1 hb1
    go_wp2_with fail
    refine(hv2.out w1 hb1'.out).mono ?_;rintro e w2 ⟨rfl,hb2⟩;have hb02:=hid (hb1'.out.trans (hb2.mono hb1'.out.size));clear q0 q1 q2 r0 r1 r2 X0 hB0;obtain ⟨q0,q1,q2,r0,r1,r2⟩:=hcell.out w2 hb02.out;obtain ⟨xb,hb⟩:=hbox.out w2 hb02.out;have X0:=hid xb;have hB0:=hid hb;clear hcell hbox hb02 hb1' hb2 hv2 xb hb;clear w1 w0;obtain ⟨w0,rfl⟩:∃W,W=w2:=⟨_,rfl⟩;have hsz:=hid hB0.out.size;have ht1:=hid (fun W (hb:Below w0.heap.size w0 W)=>hD a b' (aF x).length (aF y').length c d' x y' W (H.out.num.below (aI hB0 hb) aB) (K.out.den.below (aI hB0 hb) aB) (by omega) (by omega));have ht2:=hid (fun W (hb:Below w0.heap.size w0 W)=>hD b a' (aF y).length (aF x').length d c' y x' W (H.out.den.below (aI hB0 hb) aB) (K.out.num.below (aI hB0 hb) aB) (by omega) (by omega));have hz1:=hid (show(aF (x * y')).length<=274877906944 from aK (dY lx ly') (by decide));have hz2:=hid (show(aF (y * x')).length<=274877906944 from aK (dY ly lx') (by decide));have hz0:=hid (show 0<y * x' from Nat.mul_pos hy0 hx0');generalize x * y'=z1 at *;generalize y * x'=z2 at *;go_wp2;refine aW (S:=fun W=>Below w0.heap.size w0 W) 18 (by kernel_rfl) (by kernel_rfl) (aG w0) (fun _=>?_);refine aE 0 ?_;refine cJ 1 (fun W h=>aD h q0) ?_;refine aE 2 ?_;refine cJ 3 (fun W h=>aD h r0) ?_;refine aE 4 ?_;refine aE 5 ?_;refine cJ 6 (fun W h=>aD h q1) ?_;refine aE 7 ?_;refine cJ 8 (fun W h=>aD h r2) ?_;refine aE 10 ?_;refine cJ 11 (fun W h=>aD h q2) ?_;refine aE 12 ?_;refine cJ 13 (fun W h=>aD h r1) ?_;refine aN 9 fun K hK=>?_;go_simp
    go_at_call 216
    refine(ht1.out _ (aG w0)).mono ?_;rintro ee w9 ⟨a9,c9,rfl,s9,l9,m9,b9⟩;have B9:Below w0.heap.size w0 w9:=(aG w0).trans (b9.mono (aG w0).size);have S9:=hid (s9.mono (S':=fun _=>True) fun _ _ _=>trivial);have L9:=hid (And.intro l9 m9);clear s9 b9 l9 m9;dsimp only;refine hK.out _ _ (by(exact B9)) (fun hHeld2=>?_);clear hK K;refine aN 14 fun K hK=>?_;go_simp
    go_at_call 216
    refine(ht2.out _ B9).mono ?_;rintro ee w14 ⟨a14,c14,rfl,s14,l14,m14,b14⟩;have B14:Below w0.heap.size w0 w14:=B9.trans (b14.mono B9.size);have hlo:=hid (pV (ng != mg) a9 a14 (aF z1).length (aF z2).length c9 c14 z1 z2 w14 (S9.out.below b14 aB) (s14.mono (S':=fun _=>True) fun _ _ _=>trivial) hz1.out hz2.out L9.out ⟨l14,m14⟩ hz0.out);clear s14 b14 l14 m14 S9 L9 ht1 ht2;generalize dV (ng != mg) z1 z2=res at *;obtain ⟨R,er⟩:=res;dsimp only;refine hK.out _ _ (by(exact B14)) (fun hHeld3=>?_);clear hK K;refine aN 15 fun K hK=>?_;go_simp
    go_at_call 215
    refine hlo.out.mono ?_;rintro ee w15 ⟨v15,rfl,a15,c15,d15,e15,hv15,p1,p2,p3,p4,b15⟩;cases hv15;have zB:=B14.size;have B15:Below w0.heap.size w0 w15:=B14.trans (b15.mono B14.size);have P1:=hid p1;have P2:=hid p2;have P3:=hid p3;have P4:=hid p4;clear p1 p2 p3 p4 b15 hlo;dsimp only;refine hK.out _ _ (by(exact B15)) (fun hHeld4=>?_);clear hK K;(try simp only [Act.put,sA,sB,sC]);refine aE 16 ?_;refine aE 17 ?_;refine bH (by decide +kernel) ?_;simp only [cG,bT];have x5:=aJ B15 X0.out;have X5:=hid x5;obtain ⟨z0,z1,z2⟩:=dF x5;obtain ⟨f0,f1,f2⟩:=dT x5;clear x5;go_wp2;refine bodyPost_ret (v:=.tuple #[dK R a15 c15 d15 e15,.int .i64 er]) (by simp [results,Tryz.results185,go_sem, *]) rfl ?_;rw [hdm.out];exact⟨_,rfl,cI.set (r:=R) (by decide) (by decide) X5.out (by omega) (P1.out.mono fun k _ h=>⟨h.1,aK (aK hsz.out zB) h.2⟩) (P2.out.mono fun k _ h=>⟨h.1,aK (aK hsz.out zB) h.2⟩) P3.out P4.out (aI hB0 B15) [(0,.bool R.neg),(1,.slice a15 R.num.length c15),(2,.slice d15 R.den.length e15)]⟩
end
end Go.Proofs.YtgoojkiccdjplaaGreatDoor
