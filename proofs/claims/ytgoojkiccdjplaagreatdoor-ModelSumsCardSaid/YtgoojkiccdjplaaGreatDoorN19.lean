/-
  Parts of this claim's texts, one behind the other: EI FB FC. No condition.
-/
import Derived.Test.YtgoojkiccdjplaaGreatDoorN17
import Derived.Test.YtgoojkiccdjplaaGreatDoorN18
import Derived.Test.YtgoojkiccdjplaaGreatDoorN16
set_option linter.unusedVariables false
set_option linter.unusedSimpArgs false
set_option maxRecDepth 100000
set_option maxHeartbeats 16000000
namespace Go.Proofs.YtgoojkiccdjplaaGreatDoor
open Go.RowKit Go.Sort Go.Lib
section
variable {S S' : Nat -> Prop}
theorem aAk (r:cE) (a b:Option Addr) (c d:Nat) (w:World) (h:fJ S w r a c b d) (hrn:r.num.length<=1000000) (hrd:r.den.length<=1000000) :
  Calls Tryz.prog 181 #[dK r a c b d] w fun e w'=>cI (jS r) w e w':=by
 have H:=hid h;obtain ⟨ng,nu,de⟩:=r;dsimp only at *;clear h;have X0:=hid (cY w (.cells #[.bool ng,.slice a nu.length c,.slice b de.length d] 36) (.cells #[.bool false,.slice none 0 0,.slice none 0 0] 36));have x1:=dG w (.cells #[.bool ng,.slice a nu.length c,.slice b de.length d] 36) (.cells #[.bool false,.slice none 0 0,.slice none 0 0] 36);have hB0:=hid (bX w (.cells #[.bool ng,.slice a nu.length c,.slice b de.length d] 36) (.cells #[.bool false,.slice none 0 0,.slice none 0 0] 36));generalize hw0:(w.alloc (.cells #[.bool ng,.slice a nu.length c,.slice b de.length d] 36)).alloc (.cells #[.bool false,.slice none 0 0,.slice none 0 0] 36)=w0 at *;have q0:w0.cell? ⟨w.heap.size,0,none⟩=some (.bool ng):=aC x1 0;have q1:w0.cell? ⟨w.heap.size,1,none⟩=some (.slice a nu.length c):=aC x1 1;have q2:w0.cell? ⟨w.heap.size,2,none⟩=some (.slice b de.length d):=aC x1 2;have hv1:=hid (dW ⟨ng,nu,de⟩ a b c d w0 (H.out.num.below hB0.out aB) (H.out.den.below hB0.out aB) hrn hrd H.out.nc H.out.dc);clear x1;cases hvr:iA ⟨ng,nu,de⟩
 case false=>
  have hdf:=hid (show jS ⟨ng,nu,de⟩=iI from by unfold jS dN;rw [hvr];rfl);rw [hvr] at hv1;clear hvr;go_enter Tryz.func181,Tryz.ntmps181
  go_wp2_with fail
  refine hv1.out.mono ?_;rintro e w1 ⟨rfl,hb1⟩;have x5:=aJ hb1 X0.out;have XB:=hid x5;have HB:=hid (aI hB0 hb1);obtain ⟨z0,z1,z2⟩:=dF x5;obtain ⟨f0,f1,f2⟩:=dT x5;clear hw0 hb1 hv1 x5;go_wp2;refine bodyPost_ret (v:=dK ⟨false,[],[]⟩ none 0 none 0) (by simp [results,Tryz.results181,go_sem, *]) rfl ?_;rw [hdf.out];exact cI.set (r:=iI) (by decide) (by decide) XB.out (by omega) (.nil _ _ _ _) (.nil _ _ _ _) ⟨aV,aV⟩ ⟨aV,aV⟩ HB.out [(0,.bool false),(1,.slice none 0 0),(2,.slice none 0 0)]
 case true=>
  rw [hvr] at hv1;have hdf0:=hid (show jS ⟨ng,nu,de⟩=⟨!ng && decide (0<nu.length),nu,de⟩ from by unfold jS dN;rw [hvr];rfl);clear hvr;cases ng
  case true=>
   have hdf:=hid (show jS ⟨true,nu,de⟩=⟨false,nu,de⟩ from hdf0.out);clear hdf0;go_enter Tryz.func181,Tryz.ntmps181
   go_wp2_with fail
   refine hv1.out.mono ?_;rintro e w1 ⟨rfl,hb1⟩;have q0:=aD hb1 q0;have q1:=aD hb1 q1;have q2:=aD hb1 q2;have X1:=hid (aJ hb1 X0.out);have HB:=hid (aI hB0 hb1);clear hw0 hv1 X0 hb1 hB0;obtain ⟨w0,rfl⟩:∃W,W=w1:=⟨_,rfl⟩;have X0:=X1;have hB0:=HB;have hsz:=hid hB0.out.size;have k1:=hid (fun W (hb:Below w0.heap.size w0 W)=>cV a nu.length c nu W (H.out.num.below (aI hB0 hb) aB) (by omega));have k2:=hid (fun W (hb:Below w0.heap.size w0 W)=>cV b de.length d de W (H.out.den.below (aI hB0 hb) aB) (by omega));go_wp2;refine aW (S:=fun W=>Below w0.heap.size w0 W) 16 (by kernel_rfl) (by kernel_rfl) (aG w0) (fun _=>?_);refine aE 0 ?_;refine cJ 1 (fun W h=>aD h q0) ?_;refine aE 2 ?_;refine aE 3 ?_;refine aE 4 ?_;refine aE 5 (hy:=(by first | exact Or.inl ⟨by rfl,by(intro W hSw;have hq:=aD hSw q1;go_simp <;> with_reducible rfl)⟩ | exact Or.inr ⟨by rfl,rfl⟩)) ?_;refine aE 6 ?_;refine aE 7 ?_;refine aE 8 ?_;refine aE 9 ?_;refine cJ 10 (fun W h=>aD h q1) ?_;refine aE 12 ?_;refine cJ 13 (fun W h=>aD h q2) ?_;refine aN 11 fun K hK=>?_;go_simp
   go_at_call 120
   refine(k1.out _ (aG w0)).mono ?_;rintro ee w5 ⟨a5,c5,rfl,o5,b5⟩;have B5:Below w0.heap.size w0 w5:=(aG w0).trans (b5.mono (aG w0).size);have D5:=hid (o5.datF (n:=w.heap.size) hsz.out);have L5:=hid o5.slice;clear o5 b5;dsimp only;refine hK.out _ _ (by(exact B5)) (fun hHeld2=>?_);clear hK K;refine aN 14 fun K hK=>?_;go_simp
   go_at_call 120
   refine(k2.out _ B5).mono ?_;rintro ee w6 ⟨a6,c6,rfl,o6,b6⟩;have B6:Below w0.heap.size w0 w6:=B5.trans (b6.mono B5.size);have D6:=hid (o6.datF (n:=w.heap.size) (aK hsz.out B5.size));have L6:=hid o6.slice;have E5:=hid (D5.out.move (Below.dat b6) b6.size);clear o6 b6;dsimp only;refine hK.out _ _ (by(exact B6)) (fun hHeld3=>?_);clear hK K;(try simp only [Act.put,sA,sB,sC]);refine aE 15 ?_;refine bH (by decide +kernel) ?_;simp only [cG,bT];have x5:=aJ B6 X0.out;have X5:=hid x5;obtain ⟨z0,z1,z2⟩:=dF x5;obtain ⟨f0,f1,f2⟩:=dT x5;clear x5;go_wp2;refine bodyPost_ret (v:=dK ⟨false,nu,de⟩ a5 c5 a6 c6) (by simp [results,Tryz.results181,go_sem, *]) rfl ?_;rw [hdf.out];exact cI.set (r:=⟨false,nu,de⟩) (by decide) (by decide) X5.out (by omega) E5.out D6.out (by obtain ⟨_,_,e,h⟩:=L5.out;cases e;exact h) (by obtain ⟨_,_,e,h⟩:=L6.out;cases e;exact h) (aI hB0 B6) [(0,.bool false),(1,.slice a5 nu.length c5),(2,.slice a6 de.length c6)]
  case false=>
   by_cases hp:0<nu.length
   case pos=>
    have hpi:(0:Int)<nu.length:=by omega
    have hdf:=hid (show jS ⟨false,nu,de⟩=⟨true,nu,de⟩ from by rw [hdf0.out,decide_eq_true hp];rfl);clear hdf0;go_enter Tryz.func181,Tryz.ntmps181
    go_wp2_with fail
    refine hv1.out.mono ?_;rintro e w1 ⟨rfl,hb1⟩;have q0:=aD hb1 q0;have q1:=aD hb1 q1;have q2:=aD hb1 q2;have X1:=hid (aJ hb1 X0.out);have HB:=hid (aI hB0 hb1);clear hw0 hv1 X0 hb1 hB0;obtain ⟨w0,rfl⟩:∃W,W=w1:=⟨_,rfl⟩;have X0:=X1;have hB0:=HB;have hsz:=hid hB0.out.size;have k1:=hid (fun W (hb:Below w0.heap.size w0 W)=>cV a nu.length c nu W (H.out.num.below (aI hB0 hb) aB) (by omega));have k2:=hid (fun W (hb:Below w0.heap.size w0 W)=>cV b de.length d de W (H.out.den.below (aI hB0 hb) aB) (by omega));go_wp2;refine aW (S:=fun W=>Below w0.heap.size w0 W) 16 (by kernel_rfl) (by kernel_rfl) (aG w0) (fun _=>?_);refine aE 0 ?_;refine cJ 1 (fun W h=>aD h q0) ?_;refine aE 2 ?_;refine aE 3 ?_;refine aE 4 ?_;refine aE 5 (hy:=(by first | exact Or.inl ⟨by rfl,by(intro W hSw;have hq:=aD hSw q1;go_simp <;> with_reducible rfl)⟩ | exact Or.inr ⟨by rfl,rfl⟩)) ?_;refine aE 6 ?_;refine aE 7 ?_;refine aE 8 ?_;refine aE 9 ?_;refine cJ 10 (fun W h=>aD h q1) ?_;refine aE 12 ?_;refine cJ 13 (fun W h=>aD h q2) ?_;refine aN 11 fun K hK=>?_;go_simp
    go_at_call 120
    refine(k1.out _ (aG w0)).mono ?_;rintro ee w5 ⟨a5,c5,rfl,o5,b5⟩;have B5:Below w0.heap.size w0 w5:=(aG w0).trans (b5.mono (aG w0).size);have D5:=hid (o5.datF (n:=w.heap.size) hsz.out);have L5:=hid o5.slice;clear o5 b5;dsimp only;refine hK.out _ _ (by(exact B5)) (fun hHeld2=>?_);clear hK K;refine aN 14 fun K hK=>?_;go_simp
    go_at_call 120
    refine(k2.out _ B5).mono ?_;rintro ee w6 ⟨a6,c6,rfl,o6,b6⟩;have B6:Below w0.heap.size w0 w6:=B5.trans (b6.mono B5.size);have D6:=hid (o6.datF (n:=w.heap.size) (aK hsz.out B5.size));have L6:=hid o6.slice;have E5:=hid (D5.out.move (Below.dat b6) b6.size);clear o6 b6;dsimp only;refine hK.out _ _ (by(exact B6)) (fun hHeld3=>?_);clear hK K;(try simp only [Act.put,sA,sB,sC]);refine aE 15 ?_;refine bH (by decide +kernel) ?_;simp only [cG,bT];have x5:=aJ B6 X0.out;have X5:=hid x5;obtain ⟨z0,z1,z2⟩:=dF x5;obtain ⟨f0,f1,f2⟩:=dT x5;clear x5;go_wp2;refine bodyPost_ret (v:=dK ⟨true,nu,de⟩ a5 c5 a6 c6) (by simp [results,Tryz.results181,go_sem, *]) rfl ?_;rw [hdf.out];exact cI.set (r:=⟨true,nu,de⟩) (by decide) (by decide) X5.out (by omega) E5.out D6.out (by obtain ⟨_,_,e,h⟩:=L5.out;cases e;exact h) (by obtain ⟨_,_,e,h⟩:=L6.out;cases e;exact h) (aI hB0 B6) [(0,.bool true),(1,.slice a5 nu.length c5),(2,.slice a6 de.length c6)]
   case neg=>
    have hpi:¬(0:Int)<nu.length:=by omega
    have hpd:decide ((0:Int)<nu.length)=false:=decide_eq_false hpi;have hdf:=hid (show jS ⟨false,nu,de⟩=⟨false,nu,de⟩ from by rw [hdf0.out,decide_eq_false hp];rfl);have hnil:=hid (List.eq_nil_of_length_eq_zero (show nu.length=0 by omega));have hpb:(0<nu.length)=False:=by simp only [hp]
    clear hdf0 hp;go_enter Tryz.func181,Tryz.ntmps181
    go_wp2_with fail
    refine hv1.out.mono ?_;rintro e w1 ⟨rfl,hb1⟩;have q0:=aD hb1 q0;have q1:=aD hb1 q1;have q2:=aD hb1 q2;have X1:=hid (aJ hb1 X0.out);have HB:=hid (aI hB0 hb1);clear hw0 hv1 X0 hb1 hB0;obtain ⟨w0,rfl⟩:∃W,W=w1:=⟨_,rfl⟩;have X0:=X1;have hB0:=HB;have hsz:=hid hB0.out.size;have k1:=hid (fun W (hb:Below w0.heap.size w0 W)=>cV a nu.length c nu W (H.out.num.below (aI hB0 hb) aB) (by omega));have k2:=hid (fun W (hb:Below w0.heap.size w0 W)=>cV b de.length d de W (H.out.den.below (aI hB0 hb) aB) (by omega));go_wp2;refine aW (S:=fun W=>Below w0.heap.size w0 W) 16 (by kernel_rfl) (by kernel_rfl) (aG w0) (fun _=>?_);refine aE 0 ?_;refine cJ 1 (fun W h=>aD h q0) ?_;refine aE 2 ?_;refine aE 3 ?_;refine aE 4 ?_;refine aE 5 (hy:=(by first | exact Or.inl ⟨by rfl,by(intro W hSw;have hq:=aD hSw q1;go_simp <;> with_reducible rfl)⟩ | exact Or.inr ⟨by rfl,rfl⟩)) ?_;refine aE 6 ?_;refine aE 7 ?_;refine aE 8 ?_;refine aE 9 ?_;refine cJ 10 (fun W h=>aD h q1) ?_;refine aE 12 ?_;refine cJ 13 (fun W h=>aD h q2) ?_;refine aN 11 fun K hK=>?_;go_simp
    go_at_call 120
    refine(k1.out _ (aG w0)).mono ?_;rintro ee w5 ⟨a5,c5,rfl,o5,b5⟩;have B5:Below w0.heap.size w0 w5:=(aG w0).trans (b5.mono (aG w0).size);have D5:=hid (o5.datF (n:=w.heap.size) hsz.out);have L5:=hid o5.slice;clear o5 b5;dsimp only;refine hK.out _ _ (by(exact B5)) (fun hHeld2=>?_);clear hK K;refine aN 14 fun K hK=>?_;go_simp
    go_at_call 120
    refine(k2.out _ B5).mono ?_;rintro ee w6 ⟨a6,c6,rfl,o6,b6⟩;have B6:Below w0.heap.size w0 w6:=B5.trans (b6.mono B5.size);have D6:=hid (o6.datF (n:=w.heap.size) (aK hsz.out B5.size));have L6:=hid o6.slice;have E5:=hid (D5.out.move (Below.dat b6) b6.size);clear o6 b6;dsimp only;refine hK.out _ _ (by(exact B6)) (fun hHeld3=>?_);clear hK K;(try simp only [Act.put,sA,sB,sC]);refine aE 15 ?_;refine bH (by decide +kernel) ?_;simp only [cG,bT];have x5:=aJ B6 X0.out;have X5:=hid x5;obtain ⟨z0,z1,z2⟩:=dF x5;obtain ⟨f0,f1,f2⟩:=dT x5;clear x5;go_wp2;refine bodyPost_ret (v:=dK ⟨false,nu,de⟩ a5 c5 a6 c6) (by simp [results,Tryz.results181,go_sem,hnil.out, *]) rfl ?_;rw [hdf.out];exact cI.set (r:=⟨false,nu,de⟩) (by decide) (by decide) X5.out (by omega) E5.out D6.out (by obtain ⟨_,_,e,h⟩:=L5.out;cases e;exact h) (by obtain ⟨_,_,e,h⟩:=L6.out;cases e;exact h) (aI hB0 B6) [(0,.bool false),(1,.slice a5 nu.length c5),(2,.slice a6 de.length c6)]
theorem aEj (r s:cE) (a b a' b':Option Addr) (c d c' d':Nat) (w:World) (h:fJ S w r a c b d) (k:fJ S' w s a' c' b' d') (hrn:r.num.length<=1000000) (hrd:r.den.length<=1000000) (hsn:s.num.length<=1000000) (hsd:s.den.length<=1000000) :
  Calls Tryz.prog 183 #[dK r a c b d,dK s a' c' b' d'] w fun e w'=>aGx (pM r s) w e w':=by
 have H:=hid h;have K:=hid k;obtain ⟨ng,nu,de⟩:=r;obtain ⟨mg,mu,me⟩:=s;dsimp only at *;clear h k;have X0:=hid (pU w (.cells #[.bool ng,.slice a nu.length c,.slice b de.length d] 36) (.cells #[.bool mg,.slice a' mu.length c',.slice b' me.length d'] 36) (.cells #[.bool false,.slice none 0 0,.slice none 0 0] 36));have x1:=nJ w (.cells #[.bool ng,.slice a nu.length c,.slice b de.length d] 36) (.cells #[.bool mg,.slice a' mu.length c',.slice b' me.length d'] 36) (.cells #[.bool false,.slice none 0 0,.slice none 0 0] 36);have x2:=nK w (.cells #[.bool ng,.slice a nu.length c,.slice b de.length d] 36) (.cells #[.bool mg,.slice a' mu.length c',.slice b' me.length d'] 36) (.cells #[.bool false,.slice none 0 0,.slice none 0 0] 36);have hB0:=hid (nL w (.cells #[.bool ng,.slice a nu.length c,.slice b de.length d] 36) (.cells #[.bool mg,.slice a' mu.length c',.slice b' me.length d'] 36) (.cells #[.bool false,.slice none 0 0,.slice none 0 0] 36));generalize hw0:((w.alloc (.cells #[.bool ng,.slice a nu.length c,.slice b de.length d] 36)).alloc (.cells #[.bool mg,.slice a' mu.length c',.slice b' me.length d'] 36)).alloc (.cells #[.bool false,.slice none 0 0,.slice none 0 0] 36)=w0 at *;have hcell:=hid (show ∀W,Below w0.heap.size w0 W->W.cell? ⟨w.heap.size,0,none⟩=some (.bool ng)/\W.cell? ⟨w.heap.size,1,none⟩=some (.slice a nu.length c)/\W.cell? ⟨w.heap.size,2,none⟩=some (.slice b de.length d)/\W.cell? ⟨w.heap.size+1,0,none⟩=some (.bool mg)/\W.cell? ⟨w.heap.size+1,1,none⟩=some (.slice a' mu.length c')/\W.cell? ⟨w.heap.size+1,2,none⟩=some (.slice b' me.length d') from fun W hW=>
  ⟨aD hW (aC x1 0),aD hW (aC x1 1),aD hW (aC x1 2),aD hW (aC x2 0),aD hW (aC x2 1),aD hW (aC x2 2)⟩)
 have hbox:=hid (show ∀W,Below w0.heap.size w0 W->W.heap[w.heap.size+1+1]? = some (.cells #[.bool false,.slice none 0 0,.slice none 0 0] 36 (0,0))/\Below w.heap.size w W from fun W hW=>⟨aJ hW X0.out,aI hB0 hW⟩);have hv1:=hid (dW ⟨mg,mu,me⟩ a' b' c' d' w0 (K.out.num.below hB0.out aB) (K.out.den.below hB0.out aB) hsn hsd K.out.nc K.out.dc);obtain ⟨q0,q1,q2,r0,r1,r2⟩:=hcell.out w0 (Below.refl _ _);clear x1 x2;cases hvr:iA ⟨mg,mu,me⟩
 case false=>
  have hdf:=hid (show pM ⟨ng,nu,de⟩ ⟨mg,mu,me⟩=(iI,1) from by unfold pM dN;rw [hvr];rfl);rw [hvr] at hv1;clear hvr;go_enter Tryz.func183,Tryz.ntmps183
  go_wp2_with fail
  refine hv1.out.mono ?_;rintro e w1 ⟨rfl,hb1⟩;obtain ⟨xb,hb⟩:=hbox.out w1 hb1;have XB:=hid xb;have HB:=hid hb;clear hw0 xb hb hb1 hv1;have x5:=XB.out;obtain ⟨z0,z1,z2⟩:=dF x5;obtain ⟨f0,f1,f2⟩:=dT x5;clear x5;go_wp2;refine bodyPost_ret (v:=.tuple #[dK ⟨false,[],[]⟩ none 0 none 0,.int .i64 1]) (by simp [results,Tryz.results183,go_sem, *]) rfl ?_;rw [hdf.out];exact⟨_,rfl,cI.set (r:=iI) (by decide) (by decide) XB.out (by omega) (.nil _ _ _ _) (.nil _ _ _ _) ⟨aV,aV⟩ ⟨aV,aV⟩ HB.out [(0,.bool false),(1,.slice none 0 0),(2,.slice none 0 0)]⟩
 case true=>
  rw [hvr] at hv1;have hdm0:=hid (show pM ⟨ng,nu,de⟩ ⟨mg,mu,me⟩=jZ ⟨ng,nu,de⟩ (jS ⟨mg,mu,me⟩) from by unfold pM dN;rw [hvr];rfl);have hnl:=hid (show(jS ⟨mg,mu,me⟩).num.length<=1000000/\(jS ⟨mg,mu,me⟩).den.length<=1000000 from by unfold jS;constructor <;> split <;> first | exact hsn | exact hsd | exact aV);clear hvr;go_enter Tryz.func183,Tryz.ntmps183
  go_wp2_with fail
  refine hv1.out.mono ?_;rintro e w1 ⟨rfl,hb1⟩;have hb1':=hid hb1;clear q0 q1 q2 r0 r1 r2 X0 hB0;obtain ⟨q0,q1,q2,r0,r1,r2⟩:=hcell.out w1 hb1;obtain ⟨xb,hb⟩:=hbox.out w1 hb1;have X0:=hid xb;have hB0:=hid hb;clear hw0 hv1 hb1 hb1' hcell hbox xb hb;clear w0;obtain ⟨w0,rfl⟩:∃W,W=w1:=⟨_,rfl⟩;have hsz:=hid hB0.out.size;have hng:=hid (fun W (hb:Below w0.heap.size w0 W)=>aAk ⟨mg,mu,me⟩ a' b' c' d' W ⟨K.out.num.below (aI hB0 hb) aB,K.out.nc,K.out.den.below (aI hB0 hb) aB,K.out.dc⟩ hsn hsd);generalize jS ⟨mg,mu,me⟩=nn at *;obtain ⟨ing,inu,ide⟩:=nn;have hcB:=hid (show ∀W,Below w0.heap.size w0 W->(W.cell? ⟨w.heap.size,0,none⟩=some (.bool ng)/\W.cell? ⟨w.heap.size,1,none⟩=some (.slice a nu.length c)/\W.cell? ⟨w.heap.size,2,none⟩=some (.slice b de.length d))/\(W.cell? ⟨w.heap.size+1,0,none⟩=some (.bool mg)/\W.cell? ⟨w.heap.size+1,1,none⟩=some (.slice a' mu.length c')/\W.cell? ⟨w.heap.size+1,2,none⟩=some (.slice b' me.length d')) from fun W hW=>⟨⟨aD hW q0,aD hW q1,aD hW q2⟩,aD hW r0,aD hW r1,aD hW r2⟩);go_wp2;clear q0 q1 q2 r0 r1 r2;refine aW (S:=fun W=>Below w0.heap.size w0 W) 6 (by kernel_rfl) (by kernel_rfl) (aG w0) (fun _=>?_);refine aE 0 (hy:=(Or.inl ⟨by rfl,by(intro W hSw;have hq:=(hcB.out W hSw).1;have hq1:=hq.1;have hq2:=hq.2.1;have hq3:=hq.2.2;go_simp <;> with_reducible rfl)⟩)) ?_;refine aE 1 (hy:=(Or.inl ⟨by rfl,by(intro W hSw;have hq:=(hcB.out W hSw).2;have hq1:=hq.1;have hq2:=hq.2.1;have hq3:=hq.2.2;go_simp <;> with_reducible rfl)⟩)) ?_;refine aN 2 fun K hK=>?_;go_simp
  go_at_call 181
  refine(hng.out _ (aG w0)).mono ?_;rintro ee w14 ⟨a14,c14,e14,f14,rfl,s14,t14,l14,m14,b14⟩;have B14:Below w0.heap.size w0 w14:=(aG w0).trans (b14.mono (aG w0).size);have hlo:=hid (aAj ⟨ng,nu,de⟩ ⟨ing,inu,ide⟩ a b a14 e14 c d c14 f14 w14 ⟨H.out.num.below (aI hB0 B14) aB,H.out.nc,H.out.den.below (aI hB0 B14) aB,H.out.dc⟩ ⟨s14,l14,t14,m14⟩ hrn hrd hnl.out.1 hnl.out.2);have hdm:=hid hdm0.out;clear s14 t14 b14 l14 m14 hng hdm0 hnl;generalize jZ ⟨ng,nu,de⟩ ⟨ing,inu,ide⟩=res at *;obtain ⟨R,er⟩:=res;dsimp only;refine hK.out _ _ (by(exact B14)) (fun hHeld2=>?_);clear hK K;refine aN 3 fun K hK=>?_;go_simp
  go_at_call 182
  refine hlo.out.mono ?_;rintro ee w15 ⟨v15,rfl,a15,c15,d15,e15,hv15,p1,p2,p3,p4,b15⟩;cases hv15;have zB:=B14.size;have B15:Below w0.heap.size w0 w15:=B14.trans (b15.mono B14.size);have P1:=hid p1;have P2:=hid p2;have P3:=hid p3;have P4:=hid p4;clear p1 p2 p3 p4 b15 hlo;dsimp only;refine hK.out _ _ (by(exact B15)) (fun hHeld3=>?_);clear hK K;(try simp only [Act.put,sA,sB,sC]);refine aE 4 ?_;refine aE 5 ?_;refine bH (by decide +kernel) ?_;simp only [cG,bT];have x5:=aJ B15 X0.out;have X5:=hid x5;obtain ⟨z0,z1,z2⟩:=dF x5;obtain ⟨f0,f1,f2⟩:=dT x5;clear x5;go_wp2;refine bodyPost_ret (v:=.tuple #[dK R a15 c15 d15 e15,.int .i64 er]) (by simp [results,Tryz.results183,go_sem, *]) rfl ?_;rw [hdm.out];exact⟨_,rfl,cI.set (r:=R) (by decide) (by decide) X5.out (by omega) (P1.out.mono fun k _ h=>⟨h.1,aK (aK hsz.out zB) h.2⟩) (P2.out.mono fun k _ h=>⟨h.1,aK (aK hsz.out zB) h.2⟩) P3.out P4.out (aI hB0 B15) [(0,.bool R.neg),(1,.slice a15 R.num.length c15),(2,.slice d15 R.den.length e15)]⟩
theorem aAl (w:World):Calls Tryz.prog 103 #[] w fun e w'=>cI ⟨false,[],[1]⟩ w e w':=by
 have hB0:Below w.heap.size w (w.alloc (.cells #[.bool false,.slice none 0 0,.slice none 0 0] 36)):=bD;have X0:=hid (heap_alloc_new w (.cells #[.bool false,.slice none 0 0,.slice none 0 0] 36));have hB0':=hid hB0;generalize hw0:w.alloc (.cells #[.bool false,.slice none 0 0,.slice none 0 0] 36)=w0 at *;clear hB0;go_enter Tryz.func103,Tryz.ntmps103
 go_wp2_with fail
 refine(lA _).mono ?_;rintro ee w3 ⟨rfl,hw3⟩;have B3:=hid (show Below w0.heap.size w0 w3 from by rw [hw3];exact bD);have S3:=hid (show bJ bV.u64 (dM w.heap.size w3) w3 (some ⟨w0.heap.size,0,none⟩) 1 [1] from by rw [hw3];exact(aC8 w0 1 ⟨by decide,by decide⟩ w.heap.size hB0'.out.size).datF);have x5:=aJ B3.out X0.out;have X5:=hid x5;obtain ⟨z0,z1,z2⟩:=dF x5;obtain ⟨f0,f1,f2⟩:=dT x5;clear x5 hw3 hw0;go_wp2;refine bodyPost_ret (v:=dK ⟨false,[],[1]⟩ none 0 (some ⟨w0.heap.size,0,none⟩) 1) (by simp [results,Tryz.results103,go_sem, *]) rfl ?_;exact cI.set (r:=⟨false,[],[1]⟩) (by decide) (by decide) X5.out aB (.nil _ _ _ _) S3.out ⟨aV,aV⟩ ⟨aB,by decide⟩ (hB0'.out.trans (B3.out.mono hB0'.out.size)) [(0,.bool false),(1,.slice none 0 0),(2,.slice (some ⟨w0.heap.size,0,none⟩) 1 1)]
end
section
variable {S S' : Nat -> Prop}
theorem aG4 (r:cE) (a b:Option Addr) (c d:Nat) (w:World) (h:fJ S w r a c b d) (hrn:r.num.length<=1000000) (hrd:r.den.length<=1000000) :
  Calls Tryz.prog 144 #[dK r a c b d] w fun e w'=>cI r w e w':=by
 have H:=hid h;obtain ⟨ng,nu,de⟩:=r;dsimp only at *;clear h;have X0:=hid (cY w (.cells #[.bool ng,.slice a nu.length c,.slice b de.length d] 36) (.cells #[.bool false,.slice none 0 0,.slice none 0 0] 36));have x1:=dG w (.cells #[.bool ng,.slice a nu.length c,.slice b de.length d] 36) (.cells #[.bool false,.slice none 0 0,.slice none 0 0] 36);have hB0:=hid (bX w (.cells #[.bool ng,.slice a nu.length c,.slice b de.length d] 36) (.cells #[.bool false,.slice none 0 0,.slice none 0 0] 36));generalize hw0:(w.alloc (.cells #[.bool ng,.slice a nu.length c,.slice b de.length d] 36)).alloc (.cells #[.bool false,.slice none 0 0,.slice none 0 0] 36)=w0 at *;have q0:w0.cell? ⟨w.heap.size,0,none⟩=some (.bool ng):=aC x1 0;have q1:w0.cell? ⟨w.heap.size,1,none⟩=some (.slice a nu.length c):=aC x1 1;have q2:w0.cell? ⟨w.heap.size,2,none⟩=some (.slice b de.length d):=aC x1 2;have hsz:=hid hB0.out.size;have k1:=hid (fun W (hb:Below w0.heap.size w0 W)=>cV a nu.length c nu W (H.out.num.below (aI hB0 hb) aB) (by omega));have k2:=hid (fun W (hb:Below w0.heap.size w0 W)=>cV b de.length d de W (H.out.den.below (aI hB0 hb) aB) (by omega));clear x1;go_enter Tryz.func144,Tryz.ntmps144
 go_wp2;clear hw0;refine aW (S:=fun W=>Below w0.heap.size w0 W) 9 (by kernel_rfl) (by kernel_rfl) (aG w0) (fun _=>?_);refine aE 0 ?_;refine cJ 1 (fun W h=>aD h q0) ?_;refine aE 2 ?_;refine cJ 3 (fun W h=>aD h q1) ?_;refine aE 5 ?_;refine cJ 6 (fun W h=>aD h q2) ?_;refine aN 4 fun K hK=>?_;go_simp
 go_at_call 120
 refine(k1.out _ (aG w0)).mono ?_;rintro ee w5 ⟨a5,c5,rfl,o5,b5⟩;have B5:Below w0.heap.size w0 w5:=(aG w0).trans (b5.mono (aG w0).size);have D5:=hid (o5.datF (n:=w.heap.size) hsz.out);have L5:=hid o5.slice;clear o5 b5;dsimp only;refine hK.out _ _ (by(exact B5)) (fun hHeld2=>?_);clear hK K;refine aN 7 fun K hK=>?_;go_simp
 go_at_call 120
 refine(k2.out _ B5).mono ?_;rintro ee w6 ⟨a6,c6,rfl,o6,b6⟩;have B6:Below w0.heap.size w0 w6:=B5.trans (b6.mono B5.size);have D6:=hid (o6.datF (n:=w.heap.size) (aK hsz.out B5.size));have L6:=hid o6.slice;have E5:=hid (D5.out.move (Below.dat b6) b6.size);clear o6 b6;dsimp only;refine hK.out _ _ (by(exact B6)) (fun hHeld3=>?_);clear hK K;(try simp only [Act.put,sA,sB,sC]);refine aE 8 ?_;refine bH (by decide +kernel) ?_;simp only [cG,bT];have x5:=aJ B6 X0.out;have X5:=hid x5;obtain ⟨z0,z1,z2⟩:=dF x5;obtain ⟨f0,f1,f2⟩:=dT x5;clear x5;go_wp2;refine bodyPost_ret (v:=dK ⟨ng,nu,de⟩ a5 c5 a6 c6) (by simp [results,Tryz.results144,go_sem, *]) rfl ?_;exact cI.set (r:=⟨ng,nu,de⟩) (by decide) (by decide) X5.out (by omega) E5.out D6.out (by obtain ⟨_,_,e,h⟩:=L5.out;cases e;exact h) (by obtain ⟨_,_,e,h⟩:=L6.out;cases e;exact h) (aI hB0 B6) [(0,.bool ng),(1,.slice a5 nu.length c5),(2,.slice a6 de.length c6)]
theorem bJ.at64q {w:World} {a:Option Addr} {n:Nat} {xs:List Int} (h:bJ bV.u64 S w a n xs) {k:Nat} (hk:k<xs.length):∃b o,a=some ⟨b,o,none⟩/\w.cell? ⟨b,o+k,none⟩=some (.int .u64 (nth xs k)):=by
 obtain ⟨b,o,e,h1,_⟩:=h.at64 hk;exact⟨b,o,e,h1⟩
theorem aG5 {xs ys:List Int} {k:Nat} (hx:k<xs.length) (hl:ys.length=xs.length) (h:xs.take k=ys.take k):(xs.take (k+1)=ys.take (k+1))↔nth xs k=nth ys k:=by
 rw [List.take_succ_eq_append_getElem hx,List.take_succ_eq_append_getElem (show k<ys.length by omega),h,cK hx,cK (show k<ys.length by omega)];constructor
 ·intro e;have:=List.append_cancel_left e
  simpa using this
 ·intro e;rw [e]
theorem aAm (a b:Option Addr) (n m c d:Nat) (xs ys:List Int) (w:World) (hx:bJ bV.u64 S w a n xs) (hy:bJ bV.u64 S' w b m ys) (hn:n<=1099511627776) :
  Calls Tryz.prog 152 #[.slice a n c,.slice b m d] w fun e w'=>e = .returned (.bool (decide (xs=ys)))/\Below w.heap.size w w':=by
 have hX:=hid hx;have hY:=hid hy;have lx:=hid hx.1;have ly:=hid hy.1;clear hx hy;by_cases hnm:n=m
 case neg=>
  have hv:=hid (show decide (xs=ys)=false from decide_eq_false fun e=>hnm (by rw [<-lx.out,<-ly.out,e]));have hni:¬(n:Int)=m:=by omega
  have hnb:((n:Int) != m)=true:=by simpa using hni
  have hnd:decide ((n:Int)=m)=false:=decide_eq_false hni;clear hnm;go_enter Tryz.func152,Tryz.ntmps152
  go_wp2;go_ret;exact⟨aQ hv.out.symm,Below.refl _ _⟩
 case pos=>
  subst hnm;go_enter Tryz.func152,Tryz.ntmps152
  go_wp2
  go_loopw [13] (fun v13 wr=>∃k:Nat,k<=n/\v13 = .int .i64 k/\Hid (xs.take k=ys.take k)/\Hid (Below w.heap.size w wr)) (fun v13 _=>n - (intOf v13).toNat)
  case atStart=>exact⟨0,aV,rfl,by show _=_;simp,Below.refl _ _⟩
  case round=>
   obtain ⟨k,hk,rfl,hT,hB⟩:=hrel;by_cases hkn:k<n
   case neg=>
    obtain rfl:k=n:=by omega
    have hki:¬(k:Int)<k:=by omega
    have hv:=hid (show decide (xs=ys)=true from decide_eq_true (by
     have h:=hT.out;rw [List.take_of_length_le (by rw [lx.out];exact aB),List.take_of_length_le (by rw [ly.out];exact aB)] at h;exact h))
    go_wp2;go_ret;exact⟨aQ hv.out.symm,hB.out⟩
   case pos=>
    have hki:(k:Int)<n:=by omega
    obtain ⟨b1,o1,rfl,y1⟩:=(hX.out.below hB.out aB).at64q (k:=k) (by rw [lx.out];exact hkn);obtain ⟨b2,o2,rfl,y2⟩:=(hY.out.below hB.out aB).at64q (k:=k) (by rw [ly.out];exact hkn);have hs:=hid (aG5 (xs:=xs) (ys:=ys) (k:=k) (by rw [lx.out];exact hkn) (by rw [lx.out,ly.out]) hT.out);have hv:=hid (show nth xs k≠nth ys k->decide (xs=ys)=false from fun h=>decide_eq_false fun e=>h (by rw [e]));generalize nth xs k=p at *;generalize nth ys k=q at *;by_cases hpq:p=q
    case pos=>
     have hT2:=hid (hs.out.2 hpq);subst hpq;clear hs hv;go_wp2
     go_quiet (fail)
     have B6:=hid (hB.out.trans ((Below.refl _ _).drewN nq));go_wp2
     go_roundw
     case rel=>exact⟨k+1,by omega,by go_num,hT2.out,B6.out⟩
     case measure=>first | (simp [intOf];done) | (simp [intOf];omega)
    case neg=>
     have hpd:decide (p=q)=false:=decide_eq_false hpq;have hpb:(p == q)=false:=by simpa using hpq
     have hpc:(p != q)=true:=by simpa using hpq
     have hv2:=hid (hv.out hpq);clear hs hv;go_wp2
     go_quiet (fail)
     have B6:=hid (hB.out.trans ((Below.refl _ _).drewN nq));go_wp2;go_ret;exact⟨aQ hv2.out.symm,B6.out⟩
theorem aCc (r s:cE) (a b a' b':Option Addr) (c d c' d':Nat) (w:World) (h:fJ S w r a c b d) (k:fJ S' w s a' c' b' d') (hrn:r.num.length<=1000000) (hrd:r.den.length<=1000000) :
  Calls Tryz.prog 99 #[dK r a c b d,dK s a' c' b' d'] w fun e w'=>e = .returned (.bool (iE r s))/\Below w.heap.size w w':=by
 obtain ⟨ng,nu,de⟩:=r;obtain ⟨mg,mu,me⟩:=s;have hB0:=hid (bX w (.cells #[.bool ng,.slice a nu.length c,.slice b de.length d] 36) (.cells #[.bool mg,.slice a' mu.length c',.slice b' me.length d'] 36));have x1:=dG w (.cells #[.bool ng,.slice a nu.length c,.slice b de.length d] 36) (.cells #[.bool mg,.slice a' mu.length c',.slice b' me.length d'] 36);have x2:=cY w (.cells #[.bool ng,.slice a nu.length c,.slice b de.length d] 36) (.cells #[.bool mg,.slice a' mu.length c',.slice b' me.length d'] 36);have h1:=hid (aAm a a' nu.length mu.length c c' nu mu _ (h.num.below hB0.out aB) (k.num.below hB0.out aB) (by dsimp only at hrn;omega));have h2:=hid (fun W (hW:Below w.heap.size w W)=>aAm b b' de.length me.length d d' de me W (h.den.below hW aB) (k.den.below hW aB) (by dsimp only at hrd;omega));have hd:=@hid (iE ⟨ng,nu,de⟩ ⟨mg,mu,me⟩=(ng == mg && (decide (nu=mu) && decide (de=me)))) rfl;dsimp only at *;clear h k hrn hrd;generalize hw0:(w.alloc (.cells #[.bool ng,.slice a nu.length c,.slice b de.length d] 36)).alloc (.cells #[.bool mg,.slice a' mu.length c',.slice b' me.length d'] 36)=w0 at *;have q0:w0.cell? ⟨w.heap.size,0,none⟩=some (.bool ng):=aC x1 0;have q1:w0.cell? ⟨w.heap.size,1,none⟩=some (.slice a nu.length c):=aC x1 1;have q2:w0.cell? ⟨w.heap.size,2,none⟩=some (.slice b de.length d):=aC x1 2;have r0:w0.cell? ⟨w.heap.size+1,0,none⟩=some (.bool mg):=aC x2 0;have r1:w0.cell? ⟨w.heap.size+1,1,none⟩=some (.slice a' mu.length c'):=aC x2 1;have r2:w0.cell? ⟨w.heap.size+1,2,none⟩=some (.slice b' me.length d'):=aC x2 2;clear x1 x2;generalize decide (nu=mu)=b1 at *;generalize decide (de=me)=b2 at *;cases hng:(ng == mg)
 case false=>
  have hv:=hid (show false=iE ⟨ng,nu,de⟩ ⟨mg,mu,me⟩ from by rw [hd.out,hng];rfl);clear hd h1 h2;go_enter Tryz.func99,Tryz.ntmps99
  go_wp2;go_ret;exact⟨aQ hv.out,hB0.out⟩
 case true=>
  cases b1
  case false=>
   have hv:=hid (show false=iE ⟨ng,nu,de⟩ ⟨mg,mu,me⟩ from by rw [hd.out,hng];rfl);clear hd h2;go_enter Tryz.func99,Tryz.ntmps99
   go_wp2_with fail
   refine h1.out.mono ?_;rintro e w1 ⟨rfl,hb1⟩;have B1:=hid (aI hB0 hb1);clear hb1;go_wp2;go_ret;exact⟨aQ hv.out,B1.out⟩
  case true=>
   have hv:=hid (show b2=iE ⟨ng,nu,de⟩ ⟨mg,mu,me⟩ from by rw [hd.out,hng];rfl);clear hd;go_enter Tryz.func99,Tryz.ntmps99
   go_wp2_with fail
   refine h1.out.mono ?_;rintro e w1 ⟨rfl,hb1⟩;have B1:=hid (aI hB0 hb1);have p2:=aD hb1 q2;have s2:=aD hb1 r2;clear hb1 hw0
   go_wp2_with fail
   refine(h2.out w1 B1.out).mono ?_;rintro e w2 ⟨rfl,hb2⟩;have B2:=hid (aI B1 hb2);clear hb2;go_wp2;go_ret;exact⟨aQ hv.out,B2.out⟩
theorem dI.rat {w:World} {v:bP} {a b:Option Addr} {c d:Nat} (h:dI S w v a c b d):fJ S w v.num a c b d:=⟨h.num,h.nc,h.den,h.dc⟩
theorem oE (x y:bP) (a b a' b':Option Addr) (c d c' d':Nat) (w:World) (h:dI S w x a c b d) (k:dI S' w y a' c' b' d') (hrn:x.num.num.length<=1000000) (hrd:x.num.den.length<=1000000) :
  Calls Tryz.prog 43 #[jV x a c b d,jV y a' c' b' d'] w fun e w'=>e = .returned (.bool (iQ x y))/\Below w.heap.size w w':=by
 obtain ⟨s,bo,⟨ng,nu,de⟩,el⟩:=x;obtain ⟨t,bp,⟨mg,mu,me⟩,em⟩:=y;have hB0:=hid (bX w (.cells #[.int .i64 s,.bool bo,.bool ng,.slice a nu.length c,.slice b de.length d,.int .i64 el] 64) (.cells #[.int .i64 t,.bool bp,.bool mg,.slice a' mu.length c',.slice b' me.length d',.int .i64 em] 64));have h1:=hid (aCc ⟨ng,nu,de⟩ ⟨mg,mu,me⟩ a b a' b' c d c' d' _ ⟨h.num.below hB0.out aB,h.nc,h.den.below hB0.out aB,h.dc⟩ ⟨k.num.below hB0.out aB,k.nc,k.den.below hB0.out aB,k.dc⟩ hrn hrd);have hd:=@hid (iQ ⟨s,bo,⟨ng,nu,de⟩,el⟩ ⟨t,bp,⟨mg,mu,me⟩,em⟩=(decide (s=t) && (if s=0 then bo == bp else if s=1 then iE ⟨ng,nu,de⟩ ⟨mg,mu,me⟩ else decide (el=em)))) rfl;clear h k hrn hrd;generalize iQ ⟨s,bo,⟨ng,nu,de⟩,el⟩ ⟨t,bp,⟨mg,mu,me⟩,em⟩=z at *;generalize iE ⟨ng,nu,de⟩ ⟨mg,mu,me⟩=al at *;by_cases hst:s=t
 case neg=>
  have hv:=hid (show false=z from by rw [hd.out,decide_eq_false hst];rfl);have hsb:(s != t)=true:=by simpa using hst
  have hsd:decide (s=t)=false:=decide_eq_false hst;clear hd h1;go_enter Tryz.func43,Tryz.ntmps43
  go_wp2;go_ret;exact⟨aQ hv.out,hB0.out⟩
 case pos=>
  subst hst;by_cases h0:s=0
  case pos=>
   subst h0;have hv:=hid (show(bo == bp)=z from by rw [hd.out];rfl);clear hd h1;go_enter Tryz.func43,Tryz.ntmps43
   go_wp2;go_ret;exact⟨aQ hv.out,hB0.out⟩
  case neg=>
   have h0b:(s == 0)=false:=by simpa using h0
   have h0d:decide (s=0)=false:=decide_eq_false h0;by_cases h1':s=1
   case pos=>
    subst h1';have hv:=hid (show al=z from by rw [hd.out];rfl);clear hd;go_enter Tryz.func43,Tryz.ntmps43
    go_wp2_with fail
    refine h1.out.mono ?_;rintro e w1 ⟨rfl,hb1⟩;have B1:=hid (aI hB0 hb1);clear hb1;go_wp2;go_ret;exact⟨aQ hv.out,B1.out⟩
   case neg=>
    have h1b:(s == 1)=false:=by simpa using h1'
    have h1d:decide (s=1)=false:=decide_eq_false h1';have hv:=hid (show(el == em)=z from by rw [hd.out,decide_eq_true rfl,if_neg h0,if_neg h1'];rw [Bool.true_and,Bool.eq_iff_iff];simp);clear hd h1;go_enter Tryz.func43,Tryz.ntmps43
    go_wp2;go_ret;exact⟨aQ hv.out,hB0.out⟩
end
def rQ (v:bP) (w:World) (e:Ending) (w':World):Prop:=∃a c b d,e = .returned (jV v a c b d)/\dI (dM w.heap.size w') w' v a c b d/\Below w.heap.size w w'
theorem dI.setL {v:bP} {n:Nat} {W:World} {p:Nat} {cs:Array Value} {t:TypeId} {a b:Option Addr} {c d:Nat} (h1:t≠3) (h2:t≠177) (hp:W.heap[p]? = some (.cells cs t (0,0))) (h:dI (dM n W) W v a c b d) (l:List (Nat × Value)):dI (dM n (setL p l W)) (setL p l W) v a c b d:=by
 obtain ⟨q1,q2,_⟩:=cN h1 h2 l W cs hp;exact⟨h.sort,h.el,h.num.move q1 (Nat.le_of_eq q2.symm),h.nc,h.den.move q1 (Nat.le_of_eq q2.symm),h.dc⟩
theorem rQ.set {v:bP} {w W:World} {p:Nat} {cs:Array Value} {t:TypeId} {a b:Option Addr} {c d:Nat} (h1:t≠3) (h2:t≠177) (hp:W.heap[p]? = some (.cells cs t (0,0))) (hwp:w.heap.size<=p) (h:dI (dM w.heap.size W) W v a c b d) (hb:Below w.heap.size w W) (l:List (Nat × Value)):rQ v w (.returned (jV v a c b d)) (setL p l W):=
 ⟨a,c,b,d,rfl,h.setL h1 h2 hp l,(cN h1 h2 l W cs hp).2.2 _ _ hwp hb⟩
theorem lU {p:Nat} {t:TypeId}:∀(l:List (Nat × Value)) (W:World) (cs:Array Value),W.heap[p]? = some (.cells cs t (0,0))->(setL p l W).heap[p]? = some (.cells (l.foldl (fun cs iv=>cs.setIfInBounds iv.1 iv.2) cs) t (0,0))
 | [],_,_,h=>h
 | _ :: l,_,_,h=>lU l _ _ (by unfold World.setCell;rw [Array.getElem?_modify,if_pos rfl,h];rfl)
theorem eI {p k:Nat} (hk:k≠p):∀(l:List (Nat × Value)) (W:World),(setL p l W).heap[k]? = W.heap[k]?
 | [],_=>rfl
 | _ :: l,_=>(eI hk l _).trans (Below.heap_setCell _ _ _ _ hk)
section
variable {S S' : Nat -> Prop}
theorem bJ.from1 {α:Type} {R:bV α} {w:World} {a:Option Addr} {n c:Nat} {xs:List α} (h:bJ R S w a n xs) (hn:1<=n) (hc:n<=c):bJ R S w (gM a c 1 R.k) (n - 1) (xs.drop 1):=by
 refine⟨by rw [List.length_drop,h.1],fun hp=>?_⟩;obtain ⟨b,o,ha,hlt,hS,hcc⟩:=h.2 (by omega);refine⟨b,o+1 * R.k,?_,hlt,hS,fun j x hx=>?_⟩
 ·unfold gM;rw [if_neg (by omega),ha];show some (Addr.add ⟨b,o,none⟩ (1 * R.k))=_;rw [Addr.add_lit]
 ·rw [List.getElem?_drop] at hx;obtain ⟨cs,k1,k2⟩:=hcc (1+j) x hx;refine⟨cs,k1,fun i u hu=>?_⟩;have:=k2 i u hu;rw [show o+1 * R.k+j * R.k+i=o+(1+j) * R.k+i from by rw [Nat.add_mul];omega];exact this
theorem uE (w:World):(sizeOf 64).run Tryz.prog w = .ok 6 w:=by kernel_rfl
theorem aEk {a:Option Addr} {n c:Nat} (hk:1<=n) (hc:n<=c) (W:World):(Instr.slice 78 (.slice a n c) (some (.int .i64 1)) none none).run Tryz.prog W = .ok (.slice (gM a c 1 6) (n - 1) (c - 1)) W:=
 rJ (k:=1) Tryz.underlying78 uE hk hc W
theorem bJ.valAt {w:World} {a:Option Addr} {n k:Nat} {xs:List bP} {x:bP} (h:bJ fP S w a n xs) (hx:xs[k]? = some x) :
  ∃b o a' c' b' d',a=some ⟨b,o,none⟩/\dI S w x a' c' b' d'/\∀i u,(qU x a' c' b' d')[i]? = some u->w.cell? ⟨b,o+k * 6+i,none⟩=some u:=by
 obtain ⟨b,o,cs,ha,_,hr,hc⟩:=h.at hx;obtain ⟨a',c',b',d',rfl,hv⟩:=kM.1 hr;exact⟨b,o,a',c',b',d',ha,hv,hc⟩
theorem lW (v:bP) (a b:Option Addr) (c d:Nat) (w:World) (h:dI S w v a c b d) (hrn:v.num.num.length<=1000000) (hrd:v.num.den.length<=1000000) :
  Calls Tryz.prog 91 #[jV v a c b d] w fun e w'=>rQ v w e w':=by
 have H:=hid h;obtain ⟨s,bo,⟨ng,nu,de⟩,el⟩:=v;dsimp only at *;clear h;have X0:=hid (cY w (.cells #[.int .i64 s,.bool bo,.bool ng,.slice a nu.length c,.slice b de.length d,.int .i64 el] 64) (.cells #[.int .i64 0,.bool false,.bool false,.slice none 0 0,.slice none 0 0,.int .i64 0] 64));have X1:=hid (dG w (.cells #[.int .i64 s,.bool bo,.bool ng,.slice a nu.length c,.slice b de.length d,.int .i64 el] 64) (.cells #[.int .i64 0,.bool false,.bool false,.slice none 0 0,.slice none 0 0,.int .i64 0] 64));have hB0:=hid (bX w (.cells #[.int .i64 s,.bool bo,.bool ng,.slice a nu.length c,.slice b de.length d,.int .i64 el] 64) (.cells #[.int .i64 0,.bool false,.bool false,.slice none 0 0,.slice none 0 0,.int .i64 0] 64));generalize hw0:(w.alloc (.cells #[.int .i64 s,.bool bo,.bool ng,.slice a nu.length c,.slice b de.length d,.int .i64 el] 64)).alloc (.cells #[.int .i64 0,.bool false,.bool false,.slice none 0 0,.slice none 0 0,.int .i64 0] 64)=w0 at *;have q2:w0.cell? ⟨w.heap.size,2,none⟩=some (.bool ng):=aC X1.out 2;have q3:w0.cell? ⟨w.heap.size,3,none⟩=some (.slice a nu.length c):=aC X1.out 3;have q4:w0.cell? ⟨w.heap.size,4,none⟩=some (.slice b de.length d):=aC X1.out 4;have ho:=hid (aG4 ⟨ng,nu,de⟩ a b c d w0 ⟨H.out.num.below hB0.out aB,H.out.nc,H.out.den.below hB0.out aB,H.out.dc⟩ hrn hrd);go_enter Tryz.func91,Tryz.ntmps91
 go_wp2_with fail
 refine ho.out.mono ?_;rintro e w1 ⟨a5,c5,b5,d5,rfl,s5,t5,l5,m5,hb1⟩;have B1:=hid (aI hB0 hb1);have x1:=aJ hb1 X1.out;have x2:=aJ hb1 X0.out;have Y1:=hid x1;have Y2:=hid x2;have V5:=hid (show dI (dM w.heap.size w1) w1 ⟨s,bo,⟨ng,nu,de⟩,el⟩ a5 c5 b5 d5 from⟨H.out.sort,H.out.el,s5.mono fun k _ h=>⟨h.1,aK hB0.out.size h.2⟩,l5,t5.mono fun k _ h=>⟨h.1,aK hB0.out.size h.2⟩,m5⟩);obtain ⟨y0,y1,y2,y3,y4,y5⟩:=dP x1;have g2:=aY x1 2;have g3:=aY x1 3;have g4:=aY x1 4;obtain ⟨z0,z1,z2,z3,z4,z5⟩:=dP x2;obtain ⟨f0,f1,f2,f3,f4,f5⟩:=fU x2;have hl2:=hid (show(setL w.heap.size [(2,.bool ng),(3,.slice a5 nu.length c5),(4,.slice b5 de.length d5)] w1).heap[w.heap.size+1]? = _ from(eI (by omega) _ _).trans x2);have hl1:=hid ((cN (by decide) (by decide) [(2,.bool ng),(3,.slice a5 nu.length c5),(4,.slice b5 de.length d5)] w1 _ x1).2.2 _ _ aB B1.out);have V6:=hid (V5.out.setL (by decide) (by decide) x1 [(2,.bool ng),(3,.slice a5 nu.length c5),(4,.slice b5 de.length d5)]);clear s5 t5 l5 m5 hb1 x1 x2 ho hw0;go_wp2;refine bodyPost_ret (v:=jV ⟨s,bo,⟨ng,nu,de⟩,el⟩ a5 c5 b5 d5) (by simp [results,Tryz.results91,go_sem, *]) rfl ?_;exact rQ.set (v:=⟨s,bo,⟨ng,nu,de⟩,el⟩) (by decide) (by decide) hl2.out (by omega) V6.out hl1.out [(0,.int .i64 s),(1,.bool bo),(2,.bool ng),(3,.slice a5 nu.length c5),(4,.slice b5 de.length d5),(5,.int .i64 el)]
def eJ (b:Bool):bP:=⟨0,b,dC,0⟩
theorem aCd (b:Bool) (w:World):Calls Tryz.prog 139 #[.bool b] w fun e w'=>rQ (eJ b) w e w':=by
 have X0:=hid (heap_alloc_new w (.cells #[.int .i64 0,.bool false,.bool false,.slice none 0 0,.slice none 0 0,.int .i64 0] 64));have hB0:=hid (show Below w.heap.size w (w.alloc (.cells #[.int .i64 0,.bool false,.bool false,.slice none 0 0,.slice none 0 0,.int .i64 0] 64)) from bD);go_enter Tryz.func139,Tryz.ntmps139
 go_wp2;refine bodyPost_ret (v:=jV (eJ b) none 0 none 0) (by simp [results,Tryz.results139,go_sem,eJ,dC, *]) rfl ?_;refine⟨none,0,none,0,rfl,⟨(show fG 0 from⟨by decide,by decide⟩),(show fG 0 from⟨by decide,by decide⟩),.nil _ _ _ _,⟨aB,aV⟩,.nil _ _ _ _,⟨aB,aV⟩⟩,?_⟩
 first | exact bD | exact hB0.out.setCell aB _
def yF (l:List bP) (b:Bool):Bool:=l.foldl (fun o v=>o || !v.bool) b
def aK4 (op:Int) (o b:Bool):Bool:=if op=4 then o && b else if op=5 then o || b else if op=7 then o != b else o
def rR (op:Int) (l:List bP) (b:Bool):Bool:=l.foldl (fun o v=>aK4 op o v.bool) b
def bF (l:List bP) (k:Nat):bP:=l.getD k bZ
def rS (op:Int) (l:List bP):Bool:=if op=3 then !(bF l 0).bool else if op=6 then yF (l.take (l.length - 1)) (bF l (l.length - 1)).bool else rR op (l.drop 1) (bF l 0).bool
theorem cO {l:List bP} {k:Nat} (h:k<l.length):l[k]? = some (bF l k):=by unfold bF;rw [List.getD_eq_getElem?_getD,List.getElem?_eq_getElem h];rfl
theorem uF {α β:Type} (f:β->α->β) {l:List α} {k:Nat} {x:α} (h:l[k]? = some x) (b:β):(l.take (k+1)).foldl f b=f ((l.take k).foldl f b) x:=by
 have hk:=(List.getElem?_eq_some_iff.1 h).1;rw [List.take_succ_eq_append_getElem hk,List.foldl_append];have:l[k]=x:=(List.getElem?_eq_some_iff.1 h).2;rw [this];rfl
theorem aEl {a:Option Addr} {n c k:Nat} (hk:k<=n) (hc:n<=c) (W:World):(Instr.slice 78 (.slice a n c) none (some (.int .i64 k)) none).run Tryz.prog W = .ok (.slice a k c) W:=
 rI Tryz.underlying78 uE hk hc W
theorem aCe (op:Int) (a:Option Addr) (n c:Nat) (l:List bP) (w:World) (h:bJ fP S w a n l) (h1:1<=n) (hc:n<=c) (hn:n<=1000000) :
  Calls Tryz.prog 140 #[.int .i64 op,.slice a n c] w fun e w'=>e = .returned (.bool (rS op l))/\Below w.heap.size w w':=by
 have H:=hid h;have hl:=hid h.1;have hd:=@hid (rS op l=(if op=3 then !(bF l 0).bool else if op=6 then yF (l.take (l.length - 1)) (bF l (l.length - 1)).bool else rR op (l.drop 1) (bF l 0).bool)) rfl;obtain ⟨b0,o0,a0,c0,e0,d0,ha,_,hv0⟩:=h.valAt (cO (l:=l) (k:=0) (by rw [h.1];omega));obtain ⟨z,hz⟩:∃z,rS op l=z:=⟨_,rfl⟩;rw [hz] at hd ⊢;clear hz;have q1:w.cell? ⟨b0,o0+1,none⟩=some (.bool (bF l 0).bool):=by have:=hv0 1 _ rfl;rwa [Nat.zero_mul,Nat.add_zero] at this
 have hni:(0:Int)<n:=by omega
 by_cases h3:op=3
 case pos=>
  subst h3;have hv:=hid (show(!(bF l 0).bool)=z from by rw [hd.out];rfl);clear hd h hv0;generalize (bF l 0).bool=b at *;subst ha;go_enter Tryz.func140,Tryz.ntmps140
  go_wp2;go_ret;exact⟨aQ hv.out,Below.refl _ _⟩
 case neg=>
  have h3b:(op == 3)=false:=by simpa using h3
  have h3d:decide (op=3)=false:=decide_eq_false h3;by_cases h6:op=6
  case pos=>
   subst h6;have hv:=hid (show yF (l.take (n - 1)) (bF l (n - 1)).bool=z from by rw [hd.out,<-hl.out];rfl);obtain ⟨b2,o2,a2,c2,e2,d2,ha2,_,hv2⟩:=h.valAt (cO (l:=l) (k:=n - 1) (by rw [h.1];omega));obtain ⟨m,rfl⟩:∃m,n=m+1:=⟨n - 1,by omega⟩;rw [Nat.add_sub_cancel] at hv hv2;have q2:w.cell? ⟨b2,o2+m * 6+1,none⟩=some (.bool (bF l m).bool):=hv2 1 _ rfl;have hsl:=fun W=>aEl (a:=a) (n:=m+1) (c:=c) (k:=m) (by omega) hc W
   have hmi:(((m+1:Nat):Int) - 1)=m:=by omega
   have hm0:(0:Int)<=m:=by omega
   have hmm:(m:Int)<((m+1:Nat):Int):=by omega
   clear hd h hv0 hv2;subst ha;cases ha2;generalize hb:(bF l m).bool=bz at *;generalize (bF l 0).bool=b at *;clear hb;go_enter Tryz.func140,Tryz.ntmps140
   go_wp2
   go_loopw [5,34] (fun v5 v34 wr=>∃k:Nat,k<=m/\v34 = .int .i64 k/\v5 = .bool (yF (l.take k) bz)/\Hid (Below w.heap.size w wr)) (fun _ v34 _=>m - (intOf v34).toNat)
   case atStart=>exact⟨0,aV,rfl,rfl,Below.refl _ _⟩
   case round=>
    obtain ⟨k,hk,rfl,rfl,hB⟩:=hrel;by_cases hkm:k<m
    case neg=>
     obtain rfl:k=m:=by omega
     have hki:¬(k:Int)<k:=by omega
     have hv':=hid (show yF (l.take k) bz=z from by rw [<-hv.out]);generalize yF (l.take k) bz=o at *;go_wp2;go_ret;exact⟨aQ hv'.out,hB.out⟩
    case pos=>
     have hki:(k:Int)<m:=by omega
     have hek:=cO (l:=l) (k:=k) (by rw [hl.out];omega);obtain ⟨b3,o3,a3,c3,e3,d3,ha3,_,hv3⟩:=(H.out.below hB.out aB).valAt hek;cases ha3;have hst:=hid (show yF (l.take (k+1)) bz=(yF (l.take k) bz || !(bF l k).bool) from uF _ hek bz);have y0:=hv3 0 _ rfl;have y1:=hv3 1 _ rfl;have y2:=hv3 2 _ rfl;have y3:=hv3 3 _ rfl;have y4:=hv3 4 _ rfl;have y5:=hv3 5 _ rfl;rw [Nat.add_zero] at y0;clear hek hv3;generalize bF l k=v at *;obtain ⟨s,bo,⟨ng,nu,de⟩,el⟩:=v;dsimp only at *;generalize yF (l.take k) bz=o at *;have hBA:=hid (hB.out.trans (((Below.refl wr.heap.size wr).alloc aB (.cells #[.int .i64 s,.bool bo,.bool ng,.slice a3 nu.length c3,.slice e3 de.length d3,.int .i64 el] 64)).mono hB.out.size));have XA:=hid (heap_alloc_new wr (.cells #[.int .i64 s,.bool bo,.bool ng,.slice a3 nu.length c3,.slice e3 de.length d3,.int .i64 el] 64));have z1:=aC XA.out 1;simp only [dA,dB,cW] at z1;cases o
     case true=>
      go_wp2
      go_roundw
      case rel=>exact⟨k+1,by omega,by go_num,by rw [hst.out];rfl,hBA.out⟩
      case measure=>first | (simp [intOf];done) | (simp [intOf];omega)
     case false=>
      go_wp2
      go_roundw
      case rel=>exact⟨k+1,by omega,by go_num,by rw [hst.out];rfl,hBA.out⟩
      case measure=>first | (simp [intOf];done) | (simp [intOf];omega)
  case neg=>
   have h6b:(op == 6)=false:=by simpa using h6
   have h6d:decide (op=6)=false:=decide_eq_false h6;have hv:=hid (show rR op (l.drop 1) (bF l 0).bool=z from by rw [hd.out,if_neg h3,if_neg h6]);have hsl:=fun W=>aEk (a:=some ⟨b0,o0,none⟩) (n:=n) (c:=c) h1 hc W
   have HD:=hid (H.out.from1 h1 hc);rw [ha] at HD;rw [show fP.k=6 from rfl] at HD;have hdl:=hid HD.out.1;obtain ⟨m,hm⟩:∃m,n - 1=m:=⟨_,rfl⟩;rw [hm] at HD hdl;simp only [hm] at hsl;have hmn:m<=1000000:=by omega
   clear hd h hv0 hm;subst ha;generalize (bF l 0).bool=bz at *;generalize l.drop 1=l' at *;clear H hl;generalize gM (some ⟨b0,o0,none⟩) c 1 6=a' at *;go_enter Tryz.func140,Tryz.ntmps140
   go_wp2
   go_loopw [5,49] (fun v5 v49 wr=>∃k:Nat,k<=m/\v49 = .int .i64 k/\v5 = .bool (rR op (l'.take k) bz)/\Hid (Below w.heap.size w wr)) (fun _ v49 _=>m - (intOf v49).toNat)
   case atStart=>exact⟨0,aV,rfl,rfl,Below.refl _ _⟩
   case round=>
    obtain ⟨k,hk,rfl,rfl,hB⟩:=hrel;by_cases hkm:k<m
    case neg=>
     obtain rfl:k=m:=by omega
     have hki:¬(k:Int)<k:=by omega
     have hv':=hid (show rR op (l'.take k) bz=z from by rw [<-hv.out,List.take_of_length_le (by rw [hdl.out];exact aB)]);generalize rR op (l'.take k) bz=o at *;go_wp2;go_ret;exact⟨aQ hv'.out,hB.out⟩
    case pos=>
     have hki:(k:Int)<m:=by omega
     have hek:=cO (l:=l') (k:=k) (by rw [hdl.out];omega);obtain ⟨b3,o3,a3,c3,e3,d3,rfl,_,hv3⟩:=(HD.out.below hB.out aB).valAt hek;have hst:=hid (show rR op (l'.take (k+1)) bz=aK4 op (rR op (l'.take k) bz) (bF l' k).bool from uF _ hek bz);have y0:=hv3 0 _ rfl;have y1:=hv3 1 _ rfl;have y2:=hv3 2 _ rfl;have y3:=hv3 3 _ rfl;have y4:=hv3 4 _ rfl;have y5:=hv3 5 _ rfl;rw [Nat.add_zero] at y0;clear hek hv3;generalize bF l' k=v at *;obtain ⟨s,bo,⟨ng,nu,de⟩,el⟩:=v;dsimp only at *;generalize rR op (l'.take k) bz=o at *;have hBA:=hid (hB.out.trans (((Below.refl wr.heap.size wr).alloc aB (.cells #[.int .i64 s,.bool bo,.bool ng,.slice a3 nu.length c3,.slice e3 de.length d3,.int .i64 el] 64)).mono hB.out.size));have XA:=hid (heap_alloc_new wr (.cells #[.int .i64 s,.bool bo,.bool ng,.slice a3 nu.length c3,.slice e3 de.length d3,.int .i64 el] 64));have z1:=aC XA.out 1;simp only [dA,dB,cW] at z1;by_cases h4:op=4
     case pos=>
      subst h4;have hs2:=hid (show rR 4 (l'.take (k+1)) bz=(o && bo) from hst.out);cases o <;> (
       go_wp2
       go_roundw
       case rel=>exact⟨k+1,by omega,by go_num,by rw [hs2.out];rfl,hBA.out⟩
       case measure=>first | (simp [intOf];done) | (simp [intOf];omega))
     case neg=>
      have h4b:(op == 4)=false:=by simpa using h4
      have h4d:decide (op=4)=false:=decide_eq_false h4;by_cases h5:op=5
      case pos=>
       subst h5;have hs2:=hid (show rR 5 (l'.take (k+1)) bz=(o || bo) from hst.out);cases o <;> (
        go_wp2
        go_roundw
        case rel=>exact⟨k+1,by omega,by go_num,by rw [hs2.out];rfl,hBA.out⟩
        case measure=>first | (simp [intOf];done) | (simp [intOf];omega))
      case neg=>
       have h5b:(op == 5)=false:=by simpa using h5
       have h5d:decide (op=5)=false:=decide_eq_false h5;by_cases h7:op=7
       case pos=>
        subst h7;have hs2:=hid (show rR 7 (l'.take (k+1)) bz=(o != bo) from hst.out);go_wp2
        go_roundw
        case rel=>exact⟨k+1,by omega,by go_num,by rw [hs2.out];rfl,hBA.out⟩
        case measure=>first | (simp [intOf];done) | (simp [intOf];omega)
       case neg=>
        have h7b:(op == 7)=false:=by simpa using h7
        have h7d:decide (op=7)=false:=decide_eq_false h7;have hs2:=hid (show rR op (l'.take (k+1)) bz=o from by rw [hst.out];unfold aK4;rw [if_neg h4,if_neg h5,if_neg h7]);go_wp2
        go_roundw
        case rel=>exact⟨k+1,by omega,by go_num,by rw [hs2.out],hBA.out⟩
        case measure=>first | (simp [intOf];done) | (simp [intOf];omega)
end
end Go.Proofs.YtgoojkiccdjplaaGreatDoor
