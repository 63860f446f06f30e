/-
  Parts of this claim's texts, one behind the other: BO CV. No condition.
-/
import Derived.Test.YtgoojkiccdjplaaGreatDoorN10
import Derived.Deep.LoopGhost
set_option linter.unusedVariables false
set_option linter.unusedSimpArgs false
set_option maxRecDepth 100000
set_option maxHeartbeats 16000000
namespace Go.Proofs.YtgoojkiccdjplaaGreatDoor
open Go.RowKit Go.Sort Go.Lib
def qQ (y:Nat) (w:World) (v:Value):Prop:=∃a c,v = .slice a (aF y).length c/\bJ bV.u64 (fun _=>True) w a (aF y).length (aF y)/\(aF y).length<=c/\c<=maxLen/\(aF y).length<=549755813888
theorem qQ.all {y:Nat} {w w':World} {v:Value} (h:qQ y w v) (hb:Below w.heap.size w w'):qQ y w' v:=by
 obtain ⟨a,c,h1,h2,h3⟩:=h;exact⟨a,c,h1,h2.below hb aB,h3⟩
theorem kK.toR {B y:Nat} {w:World} {v:Value} (h:kK B y w v) (hl:(aF y).length<=549755813888):qQ y w v:=by
 obtain ⟨a,c,h1,h2,h3,h4⟩:=h;exact⟨a,c,h1,h2.mono fun _ _ _=>trivial,h3,h4,hl⟩
def aI4 (x y:Nat) (w:World) (e:Ending) (w':World):Prop:=∃v,e = .returned v/\kK w.heap.size (Nat.gcd x y) w' v/\Below w.heap.size w w'
theorem lG (v1 v2:Value) (x y:Nat) (w:World) (hx:qQ x w v1) (hy:qQ y w v2) :
  Calls Tryz.prog 131 #[v1,v2] w fun e w'=>aI4 x y w e w':=by
 have hx':=hid hx;have hy':=hid hy;clear hx hy;go_enter Tryz.func131,Tryz.ntmps131
 go_wp2
 go_loopg [0,1] y (fun g u0 u1 wr=>∃z,Hid (qQ z wr u0)/\Hid (qQ g wr u1)/\Hid (Nat.gcd z g=Nat.gcd x y)/\Hid (Below w.heap.size w wr))
 case atStart=>exact⟨x,hx'.out,hy'.out,rfl,Below.refl _ _⟩
 case round=>
  obtain ⟨g,hgk⟩:∃g,g=gk:=⟨_,rfl⟩;subst hgk;obtain ⟨z,hz,hg,he,hb⟩:=hrel;obtain ⟨a,c,rfl,r1,r2,r3,r4⟩:=hz.out;obtain ⟨b,d,rfl,s1,s2,s3,s4⟩:=hg.out;by_cases hg0:g=0
  case pos=>
   subst hg0;have hcl:=hid (cV a _ c _ wr r1 (by omega));have hgz:=hid (show Nat.gcd x y=z from by rw [<-he.out,Nat.gcd_zero_right]);have hl0:(aF 0).length=0:=by rw [cB];rfl
   rw [hl0] at *;clear r1 r2 r3 r4 s1 s2 s3 s4 hz hg he;generalize hlz:(aF z).length=lz at *;have hlz':=hid hlz;clear hlz
   go_wp2_with fail
   refine hcl.out.mono ?_;rintro e w4 ⟨a2,c2,rfl,ho,hb4⟩;have HO:=hid ho;have HB:=hid (aI hb hb4);have HS:=hid hb.out.size;clear ho hb4 hcl;go_wp2;go_ret;refine⟨_,rfl,?_,HB.out⟩;rw [hgz.out];exact kK.own HO.out HS.out
  case neg=>
   have hgp:0<g:=by omega
   have hq:=hid (nC a b _ _ c d z g wr r1 s1 r4 s4 r2 r3 hgp);have hlp:0<(aF g).length:=aZ.2 hgp;have hlr:=hid (show(aF (z % g)).length<=549755813888 from aK (eT (Nat.le_of_lt (Nat.mod_lt _ hgp))) s4);have hlt:=hid (Nat.mod_lt z hgp);have he2:=hid (show Nat.gcd g (z % g)=Nat.gcd x y from by rw [<-he.out,Nat.gcd_comm z g,Nat.gcd_rec g z,Nat.gcd_comm]);clear r1 r2 r3 r4 s1 s2 s3 s4 hz he;generalize (aF z).length=lz at *;generalize hlg:(aF g).length=lg at *;clear hlg
   go_wp2_with fail
   refine hq.out.mono ?_;rintro e w4 ⟨q1,q2,rfl,hn1,hn2,hb4⟩;have N1:=hid (hg.out.all hb4);have N2:=hid (hn2.toR hlr.out);have HB:=hid (aI hb hb4);clear hn1 hn2 hb4 hq;go_wp2
   go_roundg (z % g)
   case measure=>exact hlt.out
   case rel=>exact⟨g,N1.out,N2.out,he2.out,HB.out⟩
theorem gZ:aF 1 = [1]:=by rw [eS (by decide),show 1 / aO=0 by decide,cB];rfl
theorem uA {g:Nat}:(dU g 1 == 0)=(g == 1):=by
 unfold dU;by_cases h:g<1
 ·rw [if_pos h];obtain rfl:g=0:=by omega
  rfl
 ·rw [if_neg h];by_cases h1:g=1
  ·rw [if_pos h1,h1];rfl
  ·rw [if_neg h1];have:(g == 1)=false:=by simpa using h1
   rw [this];rfl
theorem sQ {S:Nat->Prop} (nu de:List Int) (x y:Nat) (a b:Option Addr) (c d:Nat) (w:World) (_hnu:nu=aF x) (hde:de=aF y) (h1:bJ bV.u64 S w a nu.length nu) (h2:bJ bV.u64 S w b de.length de) (hn:nu.length<=1000000) (hm:de.length<=1000000) (_hc:nu.length<=c/\c<=maxLen) (_hd:de.length<=d/\d<=maxLen) (k1:fR nu=true) (k2:fR de=true) (hy0:0<y) (hy:y=1) :
  Calls Tryz.prog 85 #[dK ⟨false,nu,de⟩ a c b d] w fun e w'=>e = .returned (.bool true)/\Below w.heap.size w w':=by
  have hB0:Below w.heap.size w (w.alloc (.cells #[.bool false,.slice a nu.length c,.slice b de.length d] 36)):=bD;have hB0':=hid hB0;have hv1:=hid (eK a nu.length c nu _ (h1.below hB0 aB) (by omega));have hv2:=hid (eK b de.length d de _ (h2.below hB0 aB) (by omega));rw [k1] at hv1;rw [k2] at hv2;have hd0:0<de.length:=by rw [hde];exact aZ.2 hy0
  have hdi:¬((de.length:Int)=0):=by omega
  have hdd:decide ((de.length:Int)=0)=false:=by simpa using hdi
  have hDl:=hid hm;have hy1:=hid (show dU y 1=0 by rw [hy];exact oB 1);have hY:=hid (show bJ bV.u64 S w b de.length (aF y) by rw [<-hde];exact h2);clear h1 h2 hB0 hn hm _hc _hd k1 k2 hy0 hy _hnu hde hd0;have hb0:=heap_alloc_new w (.cells #[.bool false,.slice a nu.length c,.slice b de.length d] 36);generalize hw0:w.alloc (.cells #[.bool false,.slice a nu.length c,.slice b de.length d] 36)=w0 at *;have q0:w0.cell? ⟨w.heap.size,0,none⟩=some (.bool false):=aC hb0 0;have q1:w0.cell? ⟨w.heap.size,1,none⟩=some (.slice a nu.length c):=aC hb0 1;have q2:w0.cell? ⟨w.heap.size,2,none⟩=some (.slice b de.length d):=aC hb0 2;clear hb0;go_enter Tryz.func85,Tryz.ntmps85
  go_wp2_with fail
  refine hv1.out.mono ?_;rintro e w' ⟨rfl,rfl⟩
  go_wp2_with fail
  refine hv2.out.mono ?_;rintro e w' ⟨rfl,rfl⟩;clear hw0;go_wp2;refine aW (S:=fun W=>Below w0.heap.size w0 W) 14 (by kernel_rfl) (by kernel_rfl) (aG w0) (fun _=>?_);refine aE 0 ?_;refine cJ 1 (fun W h=>aD h q2) ?_;refine aN 2 fun K hK=>?_;go_simp
  go_at_call 130
  refine(lA _).mono ?_;rintro ee w3 ⟨rfl,hw3⟩;have B3:Below w0.heap.size w0 w3:=by rw [hw3];exact(aG w0).alloc (aG w0).size _
  have hor:=hid (dH b (some ⟨w0.drew.heap.size,0,none⟩) de.length 1 d 1 y 1 w3 ((hY.out).below (hB0'.out.trans (B3.mono hB0'.out.size)) aB) (by rw [hw3,gZ];exact tR w0.drew) (by have:=hDl.out;omega) (by decide));clear hw3;dsimp only;refine hK.out _ _ (by(exact B3)) (fun hHeld2=>?_);clear hK K;refine aN 3 fun K hK=>?_;go_simp
  go_at_call 129
  refine hor.out.mono ?_;rintro ee w4 ⟨rfl,qq,hw4⟩;have B4:Below w0.heap.size w0 w4:=by rw [hw4];exact B3.drewN qq
  rw [hy1.out];clear hw4 hor;dsimp only;refine hK.out _ _ (by(exact B4)) (fun hHeld3=>?_);clear hK K;(try simp only [Act.put,sA,sB,sC]);refine aE 4 ?_;refine aE 5 ?_;refine aE 6 (hy:=(by first | exact Or.inl ⟨by rfl,by(intro W hSw;have hq:=aD hSw q1;go_simp <;> with_reducible rfl)⟩ | exact Or.inr ⟨by rfl,rfl⟩)) ?_;refine aE 7 ?_;refine aE 8 (hy:=(by first | exact Or.inl ⟨by rfl,by(intro W hSw;have hq:=aD hSw q2;go_simp <;> with_reducible rfl)⟩ | exact Or.inr ⟨by rfl,rfl⟩)) ?_;refine aE 9 ?_;refine aN 10 fun K hK=>?_;go_simp;refine hK.out _ _ (by(assumption)) (fun hHeld4=>?_);clear hK K;refine aN 11 fun K hK=>?_;go_simp;refine hK.out _ _ (by(assumption)) (fun hHeld5=>?_);clear hK K;refine aN 12 fun K hK=>?_;go_simp;refine hK.out _ _ (by(assumption)) (fun hHeld6=>?_);clear hK K;(try simp only [Act.put,sA,sB,sC]);refine aE 13 ?_;refine bH (by decide +kernel) ?_;simp only [cG,bT];go_wp2;go_ret;exact⟨rfl,hB0'.out.trans (B4.mono hB0'.out.size)⟩
theorem sR {S:Nat->Prop} (nu de:List Int) (x y:Nat) (a b:Option Addr) (c d:Nat) (w:World) (hnu:nu=aF x) (hde:de=aF y) (h1:bJ bV.u64 S w a nu.length nu) (h2:bJ bV.u64 S w b de.length de) (hn:nu.length<=1000000) (hm:de.length<=1000000) (hc:nu.length<=c/\c<=maxLen) (hd:de.length<=d/\d<=maxLen) (k1:fR nu=true) (k2:fR de=true) (hy0:0<y) (hy:y≠1) :
  Calls Tryz.prog 85 #[dK ⟨false,nu,de⟩ a c b d] w fun e w'=>e = .returned (.bool (Nat.gcd x y == 1))/\Below w.heap.size w w':=by
  have hB0:Below w.heap.size w (w.alloc (.cells #[.bool false,.slice a nu.length c,.slice b de.length d] 36)):=bD;have hB0':=hid hB0;have hv1:=hid (eK a nu.length c nu _ (h1.below hB0 aB) (by omega));have hv2:=hid (eK b de.length d de _ (h2.below hB0 aB) (by omega));rw [k1] at hv1;rw [k2] at hv2;have hd0:0<de.length:=by rw [hde];exact aZ.2 hy0
  have hdi:¬((de.length:Int)=0):=by omega
  have hdd:decide ((de.length:Int)=0)=false:=by simpa using hdi
  have hDl:=hid hm;have hyn:=hid (show dU y 1=1 from nW (by omega));have hv:=hid (uA (g:=Nat.gcd x y));have hY:=hid (show bJ bV.u64 S w b de.length (aF y) by rw [<-hde];exact h2);have hNX:=hid (show qQ x w (.slice a nu.length c) from⟨a,c,by rw [<-hnu],by rw [<-hnu];exact h1.mono fun _ _ _=>trivial,by rw [<-hnu];exact hc.1,hc.2,by rw [<-hnu];omega⟩);have hNY:=hid (show qQ y w (.slice b de.length d) from⟨b,d,by rw [<-hde],by rw [<-hde];exact h2.mono fun _ _ _=>trivial,by rw [<-hde];exact hd.1,hd.2,by rw [<-hde];omega⟩);have hGl:=hid (show(aF (Nat.gcd x y)).length<=1000000 from aK (eT (Nat.le_of_dvd hy0 (Nat.gcd_dvd_right x y))) (by rw [<-hde];exact hm));clear h1 h2 hB0 hn hm hc hd k1 k2 hy0 hy hnu hde hd0;have hb0:=heap_alloc_new w (.cells #[.bool false,.slice a nu.length c,.slice b de.length d] 36);generalize hw0:w.alloc (.cells #[.bool false,.slice a nu.length c,.slice b de.length d] 36)=w0 at *;have q0:w0.cell? ⟨w.heap.size,0,none⟩=some (.bool false):=aC hb0 0;have q1:w0.cell? ⟨w.heap.size,1,none⟩=some (.slice a nu.length c):=aC hb0 1;have q2:w0.cell? ⟨w.heap.size,2,none⟩=some (.slice b de.length d):=aC hb0 2;clear hb0;go_enter Tryz.func85,Tryz.ntmps85
  go_wp2_with fail
  refine hv1.out.mono ?_;rintro e w' ⟨rfl,rfl⟩
  go_wp2_with fail
  refine hv2.out.mono ?_;rintro e w' ⟨rfl,rfl⟩;clear hw0;go_wp2;refine aW (S:=fun W=>Below w0.heap.size w0 W) 14 (by kernel_rfl) (by kernel_rfl) (aG w0) (fun _=>?_);refine aE 0 ?_;refine cJ 1 (fun W h=>aD h q2) ?_;refine aN 2 fun K hK=>?_;go_simp
  go_at_call 130
  refine(lA _).mono ?_;rintro ee w3 ⟨rfl,hw3⟩;have B3:Below w0.heap.size w0 w3:=by rw [hw3];exact(aG w0).alloc (aG w0).size _
  have hor:=hid (dH b (some ⟨w0.drew.heap.size,0,none⟩) de.length 1 d 1 y 1 w3 ((hY.out).below (hB0'.out.trans (B3.mono hB0'.out.size)) aB) (by rw [hw3,gZ];exact tR w0.drew) (by have:=hDl.out;omega) (by decide));clear hw3;dsimp only;refine hK.out _ _ (by(exact B3)) (fun hHeld2=>?_);clear hK K;refine aN 3 fun K hK=>?_;go_simp
  go_at_call 129
  refine hor.out.mono ?_;rintro ee w4 ⟨rfl,qq,hw4⟩;have B4:Below w0.heap.size w0 w4:=by rw [hw4];exact B3.drewN qq
  rw [hyn.out];clear hw4 hor;dsimp only;refine hK.out _ _ (by(exact B4)) (fun hHeld3=>?_);clear hK K;(try simp only [Act.put,sA,sB,sC]);have hcm:=hid (lG (.slice a nu.length c) (.slice b de.length d) x y w4 (hNX.out.all (hB0'.out.trans (B4.mono hB0'.out.size))) (hNY.out.all (hB0'.out.trans (B4.mono hB0'.out.size))));refine aE 4 ?_;refine aE 5 ?_;refine aE 6 ?_;refine cJ 7 (fun W h=>aD h q1) ?_;refine aE 8 ?_;refine cJ 9 (fun W h=>aD h q2) ?_;refine aN 10 fun K hK=>?_;go_simp
  go_at_call 131
  refine hcm.out.mono ?_;rintro ee w5 ⟨v5,rfl,hN5,hb5⟩;have B5:Below w0.heap.size w0 w5:=B4.trans (hb5.mono B4.size);obtain ⟨a5,c5,rfl,s5,_,_⟩:=hN5;clear hb5;dsimp only;refine hK.out _ _ (by(exact B5)) (fun hHeld4=>?_);clear hK K;refine aN 11 fun K hK=>?_;go_simp
  go_at_call 130
  refine(lA _).mono ?_;rintro ee w6 ⟨rfl,hw6⟩;have b6:Below w5.heap.size w5 w6:=by rw [hw6];exact bD
  have B6:Below w0.heap.size w0 w6:=B5.trans (b6.mono B5.size);have hor2:=hid (dH a5 (some ⟨w5.heap.size,0,none⟩) (aF (Nat.gcd x y)).length 1 c5 1 (Nat.gcd x y) 1 w6 (s5.below b6 aB) (by rw [hw6,gZ];exact tR w5) (by have:=hGl.out;omega) (by decide));clear hw6 b6;dsimp only;refine hK.out _ _ (by(exact B6)) (fun hHeld5=>?_);clear hK K;refine aN 12 fun K hK=>?_;go_simp
  go_at_call 129
  refine hor2.out.mono ?_;rintro ee w7 ⟨rfl,qq7,hw7⟩;have B7:Below w0.heap.size w0 w7:=by rw [hw7];exact B6.drewN qq7
  clear hw7;dsimp only;refine hK.out _ _ (by(exact B7)) (fun hHeld6=>?_);clear hK K;(try simp only [Act.put,sA,sB,sC]);refine aE 13 ?_;refine bH (by decide +kernel) ?_;simp only [cG,bT];go_wp2;go_ret;exact⟨aQ hv.out,hB0'.out.trans (B7.mono hB0'.out.size)⟩
theorem sS {S:Nat->Prop} (nu de:List Int) (x y:Nat) (a b:Option Addr) (c d:Nat) (w:World) (_hnu:nu=aF x) (hde:de=aF y) (h1:bJ bV.u64 S w a nu.length nu) (h2:bJ bV.u64 S w b de.length de) (hn:nu.length<=1000000) (hm:de.length<=1000000) (_hc:nu.length<=c/\c<=maxLen) (_hd:de.length<=d/\d<=maxLen) (k1:fR nu=true) (k2:fR de=true) (hy0:0<y) (hy:y=1) (hx0:nu.length≠0) :
  Calls Tryz.prog 85 #[dK ⟨true,nu,de⟩ a c b d] w fun e w'=>e = .returned (.bool true)/\Below w.heap.size w w':=by
  have hB0:Below w.heap.size w (w.alloc (.cells #[.bool true,.slice a nu.length c,.slice b de.length d] 36)):=bD;have hB0':=hid hB0;have hv1:=hid (eK a nu.length c nu _ (h1.below hB0 aB) (by omega));have hv2:=hid (eK b de.length d de _ (h2.below hB0 aB) (by omega));rw [k1] at hv1;rw [k2] at hv2;have hd0:0<de.length:=by rw [hde];exact aZ.2 hy0
  have hdi:¬((de.length:Int)=0):=by omega
  have hdd:decide ((de.length:Int)=0)=false:=by simpa using hdi
  have hni:¬((nu.length:Int)=0):=by omega
  have hnd:decide ((nu.length:Int)=0)=false:=by simpa using hni
  have hDl:=hid hm;have hy1:=hid (show dU y 1=0 by rw [hy];exact oB 1);have hY:=hid (show bJ bV.u64 S w b de.length (aF y) by rw [<-hde];exact h2);clear h1 h2 hB0 hn hm _hc _hd k1 k2 hy0 hy _hnu hde hd0 hx0;have hb0:=heap_alloc_new w (.cells #[.bool true,.slice a nu.length c,.slice b de.length d] 36);generalize hw0:w.alloc (.cells #[.bool true,.slice a nu.length c,.slice b de.length d] 36)=w0 at *;have q0:w0.cell? ⟨w.heap.size,0,none⟩=some (.bool true):=aC hb0 0;have q1:w0.cell? ⟨w.heap.size,1,none⟩=some (.slice a nu.length c):=aC hb0 1;have q2:w0.cell? ⟨w.heap.size,2,none⟩=some (.slice b de.length d):=aC hb0 2;clear hb0;go_enter Tryz.func85,Tryz.ntmps85
  go_wp2_with fail
  refine hv1.out.mono ?_;rintro e w' ⟨rfl,rfl⟩
  go_wp2_with fail
  refine hv2.out.mono ?_;rintro e w' ⟨rfl,rfl⟩;clear hw0;go_wp2;refine aW (S:=fun W=>Below w0.heap.size w0 W) 14 (by kernel_rfl) (by kernel_rfl) (aG w0) (fun _=>?_);refine aE 0 ?_;refine cJ 1 (fun W h=>aD h q2) ?_;refine aN 2 fun K hK=>?_;go_simp
  go_at_call 130
  refine(lA _).mono ?_;rintro ee w3 ⟨rfl,hw3⟩;have B3:Below w0.heap.size w0 w3:=by rw [hw3];exact(aG w0).alloc (aG w0).size _
  have hor:=hid (dH b (some ⟨w0.drew.heap.size,0,none⟩) de.length 1 d 1 y 1 w3 ((hY.out).below (hB0'.out.trans (B3.mono hB0'.out.size)) aB) (by rw [hw3,gZ];exact tR w0.drew) (by have:=hDl.out;omega) (by decide));clear hw3;dsimp only;refine hK.out _ _ (by(exact B3)) (fun hHeld2=>?_);clear hK K;refine aN 3 fun K hK=>?_;go_simp
  go_at_call 129
  refine hor.out.mono ?_;rintro ee w4 ⟨rfl,qq,hw4⟩;have B4:Below w0.heap.size w0 w4:=by rw [hw4];exact B3.drewN qq
  rw [hy1.out];clear hw4 hor;dsimp only;refine hK.out _ _ (by(exact B4)) (fun hHeld3=>?_);clear hK K;(try simp only [Act.put,sA,sB,sC]);refine aE 4 ?_;refine aE 5 ?_;refine aE 6 (hy:=(by first | exact Or.inl ⟨by rfl,by(intro W hSw;have hq:=aD hSw q1;go_simp <;> with_reducible rfl)⟩ | exact Or.inr ⟨by rfl,rfl⟩)) ?_;refine aE 7 ?_;refine aE 8 (hy:=(by first | exact Or.inl ⟨by rfl,by(intro W hSw;have hq:=aD hSw q2;go_simp <;> with_reducible rfl)⟩ | exact Or.inr ⟨by rfl,rfl⟩)) ?_;refine aE 9 ?_;refine aN 10 fun K hK=>?_;go_simp;refine hK.out _ _ (by(assumption)) (fun hHeld4=>?_);clear hK K;refine aN 11 fun K hK=>?_;go_simp;refine hK.out _ _ (by(assumption)) (fun hHeld5=>?_);clear hK K;refine aN 12 fun K hK=>?_;go_simp;refine hK.out _ _ (by(assumption)) (fun hHeld6=>?_);clear hK K;(try simp only [Act.put,sA,sB,sC]);refine aE 13 ?_;refine bH (by decide +kernel) ?_;simp only [cG,bT];go_wp2;go_ret;exact⟨rfl,hB0'.out.trans (B4.mono hB0'.out.size)⟩
theorem sW {S:Nat->Prop} (nu de:List Int) (x y:Nat) (a b:Option Addr) (c d:Nat) (w:World) (hnu:nu=aF x) (hde:de=aF y) (h1:bJ bV.u64 S w a nu.length nu) (h2:bJ bV.u64 S w b de.length de) (hn:nu.length<=1000000) (hm:de.length<=1000000) (hc:nu.length<=c/\c<=maxLen) (hd:de.length<=d/\d<=maxLen) (k1:fR nu=true) (k2:fR de=true) (hy0:0<y) (hy:y≠1) (hx0:nu.length≠0) :
  Calls Tryz.prog 85 #[dK ⟨true,nu,de⟩ a c b d] w fun e w'=>e = .returned (.bool (Nat.gcd x y == 1))/\Below w.heap.size w w':=by
  have hB0:Below w.heap.size w (w.alloc (.cells #[.bool true,.slice a nu.length c,.slice b de.length d] 36)):=bD;have hB0':=hid hB0;have hv1:=hid (eK a nu.length c nu _ (h1.below hB0 aB) (by omega));have hv2:=hid (eK b de.length d de _ (h2.below hB0 aB) (by omega));rw [k1] at hv1;rw [k2] at hv2;have hd0:0<de.length:=by rw [hde];exact aZ.2 hy0
  have hdi:¬((de.length:Int)=0):=by omega
  have hdd:decide ((de.length:Int)=0)=false:=by simpa using hdi
  have hni:¬((nu.length:Int)=0):=by omega
  have hnd:decide ((nu.length:Int)=0)=false:=by simpa using hni
  have hDl:=hid hm;have hyn:=hid (show dU y 1=1 from nW (by omega));have hv:=hid (uA (g:=Nat.gcd x y));have hY:=hid (show bJ bV.u64 S w b de.length (aF y) by rw [<-hde];exact h2);have hNX:=hid (show qQ x w (.slice a nu.length c) from⟨a,c,by rw [<-hnu],by rw [<-hnu];exact h1.mono fun _ _ _=>trivial,by rw [<-hnu];exact hc.1,hc.2,by rw [<-hnu];omega⟩);have hNY:=hid (show qQ y w (.slice b de.length d) from⟨b,d,by rw [<-hde],by rw [<-hde];exact h2.mono fun _ _ _=>trivial,by rw [<-hde];exact hd.1,hd.2,by rw [<-hde];omega⟩);have hGl:=hid (show(aF (Nat.gcd x y)).length<=1000000 from aK (eT (Nat.le_of_dvd hy0 (Nat.gcd_dvd_right x y))) (by rw [<-hde];exact hm));clear h1 h2 hB0 hn hm hc hd k1 k2 hy0 hy hnu hde hd0 hx0;have hb0:=heap_alloc_new w (.cells #[.bool true,.slice a nu.length c,.slice b de.length d] 36);generalize hw0:w.alloc (.cells #[.bool true,.slice a nu.length c,.slice b de.length d] 36)=w0 at *;have q0:w0.cell? ⟨w.heap.size,0,none⟩=some (.bool true):=aC hb0 0;have q1:w0.cell? ⟨w.heap.size,1,none⟩=some (.slice a nu.length c):=aC hb0 1;have q2:w0.cell? ⟨w.heap.size,2,none⟩=some (.slice b de.length d):=aC hb0 2;clear hb0;go_enter Tryz.func85,Tryz.ntmps85
  go_wp2_with fail
  refine hv1.out.mono ?_;rintro e w' ⟨rfl,rfl⟩
  go_wp2_with fail
  refine hv2.out.mono ?_;rintro e w' ⟨rfl,rfl⟩;clear hw0;go_wp2;refine aW (S:=fun W=>Below w0.heap.size w0 W) 14 (by kernel_rfl) (by kernel_rfl) (aG w0) (fun _=>?_);refine aE 0 ?_;refine cJ 1 (fun W h=>aD h q2) ?_;refine aN 2 fun K hK=>?_;go_simp
  go_at_call 130
  refine(lA _).mono ?_;rintro ee w3 ⟨rfl,hw3⟩;have B3:Below w0.heap.size w0 w3:=by rw [hw3];exact(aG w0).alloc (aG w0).size _
  have hor:=hid (dH b (some ⟨w0.drew.heap.size,0,none⟩) de.length 1 d 1 y 1 w3 ((hY.out).below (hB0'.out.trans (B3.mono hB0'.out.size)) aB) (by rw [hw3,gZ];exact tR w0.drew) (by have:=hDl.out;omega) (by decide));clear hw3;dsimp only;refine hK.out _ _ (by(exact B3)) (fun hHeld2=>?_);clear hK K;refine aN 3 fun K hK=>?_;go_simp
  go_at_call 129
  refine hor.out.mono ?_;rintro ee w4 ⟨rfl,qq,hw4⟩;have B4:Below w0.heap.size w0 w4:=by rw [hw4];exact B3.drewN qq
  rw [hyn.out];clear hw4 hor;dsimp only;refine hK.out _ _ (by(exact B4)) (fun hHeld3=>?_);clear hK K;(try simp only [Act.put,sA,sB,sC]);have hcm:=hid (lG (.slice a nu.length c) (.slice b de.length d) x y w4 (hNX.out.all (hB0'.out.trans (B4.mono hB0'.out.size))) (hNY.out.all (hB0'.out.trans (B4.mono hB0'.out.size))));refine aE 4 ?_;refine aE 5 ?_;refine aE 6 ?_;refine cJ 7 (fun W h=>aD h q1) ?_;refine aE 8 ?_;refine cJ 9 (fun W h=>aD h q2) ?_;refine aN 10 fun K hK=>?_;go_simp
  go_at_call 131
  refine hcm.out.mono ?_;rintro ee w5 ⟨v5,rfl,hN5,hb5⟩;have B5:Below w0.heap.size w0 w5:=B4.trans (hb5.mono B4.size);obtain ⟨a5,c5,rfl,s5,_,_⟩:=hN5;clear hb5;dsimp only;refine hK.out _ _ (by(exact B5)) (fun hHeld4=>?_);clear hK K;refine aN 11 fun K hK=>?_;go_simp
  go_at_call 130
  refine(lA _).mono ?_;rintro ee w6 ⟨rfl,hw6⟩;have b6:Below w5.heap.size w5 w6:=by rw [hw6];exact bD
  have B6:Below w0.heap.size w0 w6:=B5.trans (b6.mono B5.size);have hor2:=hid (dH a5 (some ⟨w5.heap.size,0,none⟩) (aF (Nat.gcd x y)).length 1 c5 1 (Nat.gcd x y) 1 w6 (s5.below b6 aB) (by rw [hw6,gZ];exact tR w5) (by have:=hGl.out;omega) (by decide));clear hw6 b6;dsimp only;refine hK.out _ _ (by(exact B6)) (fun hHeld5=>?_);clear hK K;refine aN 12 fun K hK=>?_;go_simp
  go_at_call 129
  refine hor2.out.mono ?_;rintro ee w7 ⟨rfl,qq7,hw7⟩;have B7:Below w0.heap.size w0 w7:=by rw [hw7];exact B6.drewN qq7
  clear hw7;dsimp only;refine hK.out _ _ (by(exact B7)) (fun hHeld6=>?_);clear hK K;(try simp only [Act.put,sA,sB,sC]);refine aE 13 ?_;refine bH (by decide +kernel) ?_;simp only [cG,bT];go_wp2;go_ret;exact⟨aQ hv.out,hB0'.out.trans (B7.mono hB0'.out.size)⟩
theorem dW {S:Nat->Prop} (r:cE) (a b:Option Addr) (c d:Nat) (w:World) (h1:bJ bV.u64 S w a r.num.length r.num) (h2:bJ bV.u64 S w b r.den.length r.den) (hn:r.num.length<=1000000) (hm:r.den.length<=1000000) (hc:r.num.length<=c/\c<=maxLen) (hd:r.den.length<=d/\d<=maxLen) :
  Calls Tryz.prog 85 #[dK r a c b d] w fun e w'=>e = .returned (.bool (iA r))/\Below w.heap.size w w':=by
 have hdf:=@hid (iA r=(fR r.num && (fR r.den && (!decide (r.den.length=0) && (!(r.neg && decide (r.num.length=0)) && (Nat.gcd (aM r.num) (aM r.den) == 1)))))) rfl;obtain ⟨ng,nu,de⟩:=r;dsimp only at *;have hB0:Below w.heap.size w (w.alloc (.cells #[.bool ng,.slice a nu.length c,.slice b de.length d] 36)):=bD;have hB0':=hid hB0;have hv1:=hid (eK a nu.length c nu _ (h1.below hB0 aB) (by omega));have hv2:=hid (eK b de.length d de _ (h2.below hB0 aB) (by omega));cases hnu:fR nu
 case false=>
  have hv:=@hid (false=iA ⟨ng,nu,de⟩) (by rw [hdf.out,hnu];rfl);rw [hnu] at hv1;clear hnu hdf hv2 h1 h2 hn hm hc hd hB0;go_enter Tryz.func85,Tryz.ntmps85
  go_wp2_with fail
  refine hv1.out.mono ?_;rintro e w' ⟨rfl,rfl⟩;go_wp2;go_ret;exact⟨aQ hv.out,hB0'.out⟩
 cases hde:fR de
 case false=>
  have hv:=@hid (false=iA ⟨ng,nu,de⟩) (by rw [hdf.out,hnu,hde];rfl);rw [hnu] at hv1;rw [hde] at hv2;clear hnu hde hdf h1 h2 hn hm hc hd hB0;go_enter Tryz.func85,Tryz.ntmps85
  go_wp2_with fail
  refine hv1.out.mono ?_;rintro e w' ⟨rfl,rfl⟩
  go_wp2_with fail
  refine hv2.out.mono ?_;rintro e w' ⟨rfl,rfl⟩;go_wp2;go_ret;exact⟨aQ hv.out,hB0'.out⟩
 by_cases hd0:de.length=0
 ·obtain rfl:de = []:=List.eq_nil_of_length_eq_zero hd0;have hv:=@hid (false=iA ⟨ng,nu,[]⟩) (by rw [hdf.out,hnu,hde];rfl);rw [hnu] at hv1;rw [hde] at hv2;clear hnu hde hdf h1 h2 hn hm hc hd hB0 hd0;go_enter Tryz.func85,Tryz.ntmps85
  go_wp2_with fail
  refine hv1.out.mono ?_;rintro e w' ⟨rfl,rfl⟩
  go_wp2_with fail
  refine hv2.out.mono ?_;rintro e w' ⟨rfl,rfl⟩;go_wp2;go_ret;exact⟨aQ hv.out,hB0'.out⟩
 by_cases hbad:ng=true/\nu.length=0
 ·obtain ⟨rfl,hz⟩:=hbad;obtain rfl:nu = []:=List.eq_nil_of_length_eq_zero hz;have hv:=@hid (false=iA ⟨true,[],de⟩) (by rw [hdf.out,hnu,hde];simp);rw [hnu] at hv1;rw [hde] at hv2;have hdi:¬((de.length:Int)=0):=by omega
  have hdd:decide ((de.length:Int)=0)=false:=by simpa using hdi
  clear hnu hde hdf h1 h2 hn hm hc hd hB0 hd0 hz;go_enter Tryz.func85,Tryz.ntmps85
  go_wp2_with fail
  refine hv1.out.mono ?_;rintro e w' ⟨rfl,rfl⟩
  go_wp2_with fail
  refine hv2.out.mono ?_;rintro e w' ⟨rfl,rfl⟩;go_wp2;go_ret;exact⟨aQ hv.out,hB0'.out⟩
 have e1:=(lB h1.us hnu).1;have e2:=(lB h2.us hde).1;have hy0:0<aM de:=by rw [<-aZ,<-e2];omega
 have hng:ng=true->nu.length≠0:=fun h e=>hbad ⟨h,e⟩
 have hsg:(ng && decide (nu.length=0))=false:=by
  cases ng with
  | false=>rfl
  | true=>simp [hng rfl]
 have hv:iA ⟨ng,nu,de⟩=(Nat.gcd (aM nu) (aM de) == 1):=by rw [hdf.out,hnu,hde,hsg,decide_eq_false hd0];rfl
 rw [hv];by_cases hy:aM de=1
 ·rw [show(Nat.gcd (aM nu) (aM de) == 1)=true by rw [hy,Nat.gcd_one_right];rfl];cases ng with
  | false=>exact sQ nu de (aM nu) (aM de) a b c d w e1 e2 h1 h2 hn hm hc hd hnu hde hy0 hy
  | true=>exact sS nu de (aM nu) (aM de) a b c d w e1 e2 h1 h2 hn hm hc hd hnu hde hy0 hy (hng rfl)
 ·cases ng with
  | false=>exact sR nu de (aM nu) (aM de) a b c d w e1 e2 h1 h2 hn hm hc hd hnu hde hy0 hy
  | true=>exact sW nu de (aM nu) (aM de) a b c d w e1 e2 h1 h2 hn hm hc hd hnu hde hy0 hy (hng rfl)
end Go.Proofs.YtgoojkiccdjplaaGreatDoor
