/-
  Parts of this claim's texts, one behind the other: EE FO EF FA. No condition.
-/
import Derived.Test.YtgoojkiccdjplaaGreatDoorN15
import Derived.Test.YtgoojkiccdjplaaGreatDoorN14
import Derived.Test.YtgoojkiccdjplaaGreatDoorN11
set_option linter.unusedVariables false
set_option linter.unusedSimpArgs false
set_option maxRecDepth 100000
set_option maxHeartbeats 16000000
namespace Go.Proofs.YtgoojkiccdjplaaGreatDoor
open Go.RowKit Go.Sort Go.Lib
section
variable {S S' : Nat -> Prop}
theorem aCa (s t:Bool) (a b:Option Addr) (n m c d x y:Nat) (w:World) (hx:bJ bV.u64 S w a n (aF x)) (hy:bJ bV.u64 S' w b m (aF y)) (hn:n<=274877906944) (hm:m<=274877906944) :
  Calls Tryz.prog 210 #[iS s a n c,iS t b m d] w fun e w'=>e = .returned (.int .i64 (kS ⟨s,x⟩ ⟨t,y⟩))/\Below w.heap.size w w':=by
 have hB0:=hid (bX w (.cells #[.bool s,.slice a n c] 160) (.cells #[.bool t,.slice b m d] 160));have hX:=hid (hx.below hB0.out aB);have hY:=hid (hy.below hB0.out aB);have h1:=hid (dH a b n m c d x y _ hX.out hY.out (by omega) (by omega));have h2:=hid (dH b a m n d c y x _ hY.out hX.out (by omega) (by omega));clear hx hy hX hY;cases s <;> cases t
 case false.false=>
  have hd:=@hid (kS ⟨false,x⟩ ⟨false,y⟩=dU x y) rfl;rw [hd.out];go_enter Tryz.func210,Tryz.ntmps210
  go_wp2_with fail
  refine h1.out.mono ?_;rintro e w1 ⟨rfl,qq,rfl⟩;go_wp2;go_ret;exact⟨rfl,hB0.out.drewN qq⟩
 case true.true=>
  have hd:=@hid (kS ⟨true,x⟩ ⟨true,y⟩=dU y x) rfl;rw [hd.out];go_enter Tryz.func210,Tryz.ntmps210
  go_wp2_with fail
  refine h2.out.mono ?_;rintro e w1 ⟨rfl,qq,rfl⟩;go_wp2;go_ret;exact⟨rfl,hB0.out.drewN qq⟩
 case false.true=>
  have hd:=@hid (kS ⟨false,x⟩ ⟨true,y⟩=1) rfl;rw [hd.out];clear h1 h2;go_enter Tryz.func210,Tryz.ntmps210
  go_wp2;go_ret;exact⟨rfl,hB0.out⟩
 case true.false=>
  have hd:=@hid (kS ⟨true,x⟩ ⟨false,y⟩ = -1) rfl;rw [hd.out];clear h1 h2;go_enter Tryz.func210,Tryz.ntmps210
  go_wp2;go_ret;exact⟨rfl,hB0.out⟩
def aGx (r:cE × Int) (w:World) (e:Ending) (w':World):Prop:=∃v,e = .returned (.tuple #[v,.int .i64 r.2])/\cI r.1 w (.returned v) w'
theorem aCb {neg:Bool} {x y:Nat}:dV neg x y=if 64<(aF (x / Nat.gcd x y)).length\/64<(aF (y / Nat.gcd x y)).length then(iI,4) else(⟨neg && decide (0<(aF (x / Nat.gcd x y)).length),aF (x / Nat.gcd x y),aF (y / Nat.gcd x y)⟩,0):=by
 unfold dV xW qM;rw [jT];dsimp only;by_cases h1:64<(aF (x / Nat.gcd x y)).length
 ·rw [decide_eq_true h1,Bool.true_or,if_pos rfl,if_pos (.inl h1)]
 ·rw [decide_eq_false h1,Bool.false_or];by_cases h2:64<(aF (y / Nat.gcd x y)).length
  ·rw [decide_eq_true h2,if_pos rfl,if_pos (.inr h2)]
  ·rw [decide_eq_false h2,if_neg (by simp),if_neg (by omega)]
theorem pV (neg:Bool) (a b:Option Addr) (n m c d x y:Nat) (w:World) (hx:bJ bV.u64 S w a n (aF x)) (hy:bJ bV.u64 S' w b m (aF y)) (hn:n<=274877906944) (hm:m<=274877906944) (hnc:n<=c/\c<=maxLen) (hmd:m<=d/\d<=maxLen) (hy0:0<y) :
  Calls Tryz.prog 215 #[.bool neg,.slice a n c,.slice b m d] w fun e w'=>aGx (dV neg x y) w e w':=by
 obtain rfl:=hx.1;obtain rfl:=hy.1;have hbA:Below w.heap.size w (w.alloc (.cells #[.bool false,.slice none 0 0,.slice none 0 0] 36)):=bD;have X0:=hid (heap_alloc_new w (.cells #[.bool false,.slice none 0 0,.slice none 0 0] 36));have hB0:=hid hbA;have NX:=hid (show qQ x w (.slice a (aF x).length c) from⟨a,c,rfl,hx.mono fun _ _ _=>trivial,hnc.1,hnc.2,by omega⟩);have NY:=hid (show qQ y w (.slice b (aF y).length d) from⟨b,d,rfl,hy.mono fun _ _ _=>trivial,hmd.1,hmd.2,by omega⟩);clear hbA hx hy;generalize hw0:w.alloc (.cells #[.bool false,.slice none 0 0,.slice none 0 0] 36)=w0 at *;have hcm:=hid (lG (.slice a (aF x).length c) (.slice b (aF y).length d) x y w0 (NX.out.all hB0.out) (NY.out.all hB0.out));have hg0:=hid (show 0<Nat.gcd x y from Nat.gcd_pos_of_pos_right _ hy0);have hgl:=hid (show(aF (Nat.gcd x y)).length<=274877906944 from aK (eT (Nat.le_of_dvd hy0 (Nat.gcd_dvd_right x y))) hm);have hlow:=@hid (dV neg x y=_) aCb;have hlx:=hid (show(aF (x / Nat.gcd x y)).length<=274877906944 from aK (eT (Nat.div_le_self _ _)) hn);have hly:=hid (show(aF (y / Nat.gcd x y)).length<=274877906944 from aK (eT (Nat.div_le_self _ _)) hm);go_enter Tryz.func215,Tryz.ntmps215
 go_wp2_with fail
 refine hcm.out.mono ?_;rintro e w1 ⟨v,rfl,hN,hb1⟩;obtain ⟨ag,cg,rfl,sg,lg,mg⟩:=hN;have B1:=hid hb1;have SG:=hid (sg.mono (S':=fun _=>True) fun _ _ _=>trivial);clear sg hb1 hcm hw0
 go_wp2_with fail
 refine(lA _).mono ?_;rintro ee w3 ⟨rfl,hw3⟩;have B3:=hid (show Below w0.heap.size w0 w3 from by rw [hw3];exact B1.out.alloc B1.out.size _);have b13:=hid (show Below w1.heap.size w1 w3 from by rw [hw3];exact bD);have hor:=hid (dH ag (some ⟨w1.heap.size,0,none⟩) (aF (Nat.gcd x y)).length 1 cg 1 (Nat.gcd x y) 1 w3 (SG.out.below b13.out aB) (by rw [hw3,gZ];exact tR w1) (by have:=hgl.out;omega) (by decide));clear hw3;generalize Nat.gcd x y=g at *
 go_wp2_with fail
 refine hor.out.mono ?_;rintro e w4 ⟨rfl,qq,hw4⟩;have B4:=hid (show Below w0.heap.size w0 w4 from by rw [hw4];exact B3.out.drewN qq);have b14:=hid (show Below w1.heap.size w1 w4 from by rw [hw4];exact b13.out.drewN qq);have hcz:=@hid ((dU g 1 == 0)=(g == 1)) uA;have hcn:=@hid (Value.bool (dU g 1 != 0)=Value.bool (dU g 1 != 0)) rfl;clear hw4 hor B3 b13
 go_upto_if 15 with fail
 go_cut [1,2] from 8 to 27 (fun v1 v2 wc=>(∃(a b:Option Addr) (c d:Nat),v1 = .slice a (aF (x / g)).length c/\v2 = .slice b (aF (y / g)).length d/\Hid (bJ bV.u64 (fun _=>True) wc a (aF (x / g)).length (aF (x / g)))/\Hid (bJ bV.u64 (fun _=>True) wc b (aF (y / g)).length (aF (y / g))))/\Hid (Below w0.heap.size w0 wc))
 case first=>
  by_cases h1:g=1
  case pos=>
   subst h1;have hc1:dU 1 1=0:=by decide
   have hc2:(dU 1 1 != 0)=false:=by decide
   have nx:=NX.out.all (aI hB0 B4.out);have ny:=NY.out.all (aI hB0 B4.out);obtain ⟨a',c',hv1,s1,_⟩:=nx;obtain ⟨b',d',hv2,s2,_⟩:=ny;cases hv1;cases hv2;have s1':=hid s1;have s2':=hid s2;clear s1 s2 hcz;go_wp2;go_meet
   case rel=>exact⟨⟨a,b,c,d,by rw [Nat.div_one],by rw [Nat.div_one],by have:=s1'.out;rw [Nat.div_one];exact this,by have:=s2'.out;rw [Nat.div_one];exact this⟩,B4.out⟩
  case neg=>
   have hc1:(dU g 1 == 0)=false:=by rw [hcz.out];simpa using h1
   have hc2:(dU g 1 != 0)=true:=by unfold bne;rw [hc1];rfl
   have nx:=NX.out.all (aI hB0 B4.out);have ny:=NY.out.all (aI hB0 B4.out);obtain ⟨a',c',hv1,s1,_⟩:=nx;obtain ⟨b',d',hv2,s2,_⟩:=ny;cases hv1;cases hv2;have s2':=hid s2;have hq1:=hid (nC a ag (aF x).length (aF g).length c cg x g w4 s1 (SG.out.below b14.out aB) (by omega) (by have:=hgl.out;omega) hnc.1 hnc.2 hg0.out);clear hcz h1 s1 s2;generalize dU g 1=cm at *
   go_wp2_with fail
   refine hq1.out.mono ?_;rintro e w5 ⟨v1,v2,rfl,⟨a5,c5,rfl,s5,l5,m5⟩,⟨a6,c6,rfl,s6,l6,m6⟩,hb5⟩;have B5:=hid (aI B4 hb5);have S5:=hid (s5.mono (S':=fun _=>True) fun _ _ _=>trivial);have hq2:=hid (nC b ag (aF y).length (aF g).length d cg y g w5 (s2'.out.below hb5 aB) (SG.out.below (aI b14 hb5) aB) (by omega) (by have:=hgl.out;omega) hmd.1 hmd.2 hg0.out);clear s5 s6 l6 m6 hb5 hq1
   go_wp2_with fail
   refine hq2.out.mono ?_;rintro e w7 ⟨v1,v2,rfl,⟨a7,c7,rfl,s7,l7,m7⟩,⟨a8,c8,rfl,s8,l8,m8⟩,hb7⟩;have B7:=hid (aI B5 hb7);have S7:=hid (s7.mono (S':=fun _=>True) fun _ _ _=>trivial);have S5':=hid (S5.out.below hb7 aB);clear s7 s8 l8 m8 hb7 hq2;go_wp2;go_meet
   case rel=>exact⟨⟨a5,a7,c5,c7,rfl,rfl,S5'.out,S7.out⟩,B7.out⟩
 case rest=>
  clear hcz hcn SG NX NY hg0 hgl B4 b14 B1;obtain ⟨⟨a1,b1,c1,d1,rfl,rfl,s1,s2⟩,hB⟩:=hcut;generalize x / g=x1 at *;generalize y / g=y1 at *;have k1:=hid (cV a1 (aF x1).length c1 (aF x1) wc s1.out (by have:=hlx.out;omega));have hlx':=hlx.out;have hly':=hly.out;generalize aF x1=xs at *;generalize aF y1=ys at *;clear hlx hly;have XB:=hid (aJ hB.out X0.out);have H0:=hid (aI hB0 hB.out);by_cases h1:64<xs.length
  case pos=>
   have hlo:=hid (show dV neg x y=(iI,4) from by rw [hlow.out,if_pos (.inl h1)]);have h1i:(64:Int)<xs.length:=by omega
   have x5:=XB.out;obtain ⟨z0,z1,z2⟩:=dF x5;obtain ⟨f0,f1,f2⟩:=dT x5;clear x5 k1 hlow;go_wp2;refine bodyPost_ret (v:=.tuple #[dK ⟨false,[],[]⟩ none 0 none 0,.int .i64 4]) (by simp [results,Tryz.results215,go_sem, *]) rfl ?_;rw [hlo.out];exact⟨_,rfl,cI.set (r:=iI) (by decide) (by decide) XB.out aB (.nil _ _ _ _) (.nil _ _ _ _) ⟨aV,aV⟩ ⟨aV,aV⟩ H0.out [(0,.bool false),(1,.slice none 0 0),(2,.slice none 0 0)]⟩
  case neg=>
   have h1i:¬(64:Int)<xs.length:=by omega
   by_cases h2:64<ys.length
   case pos=>
    have hlo:=hid (show dV neg x y=(iI,4) from by rw [hlow.out,if_pos (.inr h2)]);have h2i:(64:Int)<ys.length:=by omega
    have x5:=XB.out;obtain ⟨z0,z1,z2⟩:=dF x5;obtain ⟨f0,f1,f2⟩:=dT x5;clear x5 k1 hlow;go_wp2;refine bodyPost_ret (v:=.tuple #[dK ⟨false,[],[]⟩ none 0 none 0,.int .i64 4]) (by simp [results,Tryz.results215,go_sem, *]) rfl ?_;rw [hlo.out];exact⟨_,rfl,cI.set (r:=iI) (by decide) (by decide) XB.out aB (.nil _ _ _ _) (.nil _ _ _ _) ⟨aV,aV⟩ ⟨aV,aV⟩ H0.out [(0,.bool false),(1,.slice none 0 0),(2,.slice none 0 0)]⟩
   case neg=>
    have h2i:¬(64:Int)<ys.length:=by omega
    have hlo0:=hid (show dV neg x y=(⟨neg && decide (0<xs.length),xs,ys⟩,0) from by rw [hlow.out,if_neg (by omega)]);clear hlow;rcases (show neg=false\/(neg=true/\0<xs.length)\/(neg=true/\xs.length=0) from by cases neg with
     | false=>exact .inl rfl
     | true=>exact .inr (by rcases Nat.eq_zero_or_pos xs.length with h | h;exact .inr ⟨rfl,h⟩;exact .inl ⟨rfl,h⟩)) with rfl | ⟨rfl,hp⟩ | ⟨rfl,hp⟩
    case inl=>
     have hlo:=hid (show dV false x y=(⟨false,xs,ys⟩,0) from hlo0.out);clear hlo0
     go_wp2_with fail
     refine k1.out.mono ?_;rintro e w5 ⟨a5,c5,rfl,o5,b5⟩;have B5:=hid (aI hB b5);have D5:=hid (o5.datF (n:=w.heap.size) H0.out.size);have L5:=hid o5.slice;have k2:=hid (cV b1 ys.length d1 ys w5 (s2.out.below b5 aB) (by omega));have H5:=hid (aI H0 b5);clear o5 b5 k1
     go_wp2_with fail
     refine k2.out.mono ?_;rintro e w6 ⟨a6,c6,rfl,o6,b6⟩;have D6:=hid (o6.datF (n:=w.heap.size) H5.out.size);have L6:=hid o6.slice;have E5:=hid (D5.out.move (Below.dat b6) b6.size);have H6:=hid (aI H5 b6);have XB6:=hid ((b6.block _ (bQ (aJ B5.out X0.out)).1).trans (aJ B5.out X0.out));have x5:=XB6.out;obtain ⟨z0,z1,z2⟩:=dF x5;obtain ⟨f0,f1,f2⟩:=dT x5;clear x5 o6 b6 k2;go_wp2;refine bodyPost_ret (v:=.tuple #[dK ⟨false,xs,ys⟩ a5 c5 a6 c6,.int .i64 0]) (by simp [results,Tryz.results215,go_sem, *]) rfl ?_;rw [hlo.out];exact⟨_,rfl,cI.set (r:=⟨false,xs,ys⟩) (by decide) (by decide) XB6.out aB E5.out D6.out (by obtain ⟨_,_,e,h⟩:=L5.out;cases e;exact h) (by obtain ⟨_,_,e,h⟩:=L6.out;cases e;exact h) H6.out [(0,.bool false),(1,.slice a5 xs.length c5),(2,.slice a6 ys.length c6)]⟩
    case inr.inl=>
     have hlo:=hid (show dV true x y=(⟨true,xs,ys⟩,0) from by rw [hlo0.out,decide_eq_true hp];rfl);have hpi:(0:Int)<xs.length:=by omega
     clear hlo0
     go_wp2_with fail
     refine k1.out.mono ?_;rintro e w5 ⟨a5,c5,rfl,o5,b5⟩;have B5:=hid (aI hB b5);have D5:=hid (o5.datF (n:=w.heap.size) H0.out.size);have L5:=hid o5.slice;have k2:=hid (cV b1 ys.length d1 ys w5 (s2.out.below b5 aB) (by omega));have H5:=hid (aI H0 b5);clear o5 b5 k1
     go_wp2_with fail
     refine k2.out.mono ?_;rintro e w6 ⟨a6,c6,rfl,o6,b6⟩;have D6:=hid (o6.datF (n:=w.heap.size) H5.out.size);have L6:=hid o6.slice;have E5:=hid (D5.out.move (Below.dat b6) b6.size);have H6:=hid (aI H5 b6);have XB6:=hid ((b6.block _ (bQ (aJ B5.out X0.out)).1).trans (aJ B5.out X0.out));have x5:=XB6.out;obtain ⟨z0,z1,z2⟩:=dF x5;obtain ⟨f0,f1,f2⟩:=dT x5;clear x5 o6 b6 k2;go_wp2;refine bodyPost_ret (v:=.tuple #[dK ⟨true,xs,ys⟩ a5 c5 a6 c6,.int .i64 0]) (by simp [results,Tryz.results215,go_sem, *]) rfl ?_;rw [hlo.out];exact⟨_,rfl,cI.set (r:=⟨true,xs,ys⟩) (by decide) (by decide) XB6.out aB E5.out D6.out (by obtain ⟨_,_,e,h⟩:=L5.out;cases e;exact h) (by obtain ⟨_,_,e,h⟩:=L6.out;cases e;exact h) H6.out [(0,.bool true),(1,.slice a5 xs.length c5),(2,.slice a6 ys.length c6)]⟩
    case inr.inr=>
     have hlo:=hid (show dV true x y=(⟨false,xs,ys⟩,0) from by rw [hlo0.out,decide_eq_false (by omega)];rfl);have hpi:¬(0:Int)<xs.length:=by omega
     have hpd:decide ((0:Int)<xs.length)=false:=decide_eq_false hpi;have hnil:=hid (List.eq_nil_of_length_eq_zero hp);have hpb:(0<xs.length)=False:=by rw [hp];simp
     clear hp;clear hlo0
     go_wp2_with fail
     refine k1.out.mono ?_;rintro e w5 ⟨a5,c5,rfl,o5,b5⟩;have B5:=hid (aI hB b5);have D5:=hid (o5.datF (n:=w.heap.size) H0.out.size);have L5:=hid o5.slice;have k2:=hid (cV b1 ys.length d1 ys w5 (s2.out.below b5 aB) (by omega));have H5:=hid (aI H0 b5);clear o5 b5 k1
     go_wp2_with fail
     refine k2.out.mono ?_;rintro e w6 ⟨a6,c6,rfl,o6,b6⟩;have D6:=hid (o6.datF (n:=w.heap.size) H5.out.size);have L6:=hid o6.slice;have E5:=hid (D5.out.move (Below.dat b6) b6.size);have H6:=hid (aI H5 b6);have XB6:=hid ((b6.block _ (bQ (aJ B5.out X0.out)).1).trans (aJ B5.out X0.out));have x5:=XB6.out;obtain ⟨z0,z1,z2⟩:=dF x5;obtain ⟨f0,f1,f2⟩:=dT x5;clear x5 o6 b6 k2;go_wp2;refine bodyPost_ret (v:=.tuple #[dK ⟨false,xs,ys⟩ a5 c5 a6 c6,.int .i64 0]) (by simp [results,Tryz.results215,go_sem,hnil.out, *]) rfl ?_;rw [hlo.out];exact⟨_,rfl,cI.set (r:=⟨false,xs,ys⟩) (by decide) (by decide) XB6.out aB E5.out D6.out (by obtain ⟨_,_,e,h⟩:=L5.out;cases e;exact h) (by obtain ⟨_,_,e,h⟩:=L6.out;cases e;exact h) H6.out [(0,.bool false),(1,.slice a5 xs.length c5),(2,.slice a6 ys.length c6)]⟩
end
section
variable {S S' : Nat -> Prop}
theorem jO (s:Bool) (a:Option Addr) (n c x:Nat) (w:World) (hx:bJ bV.u64 S w a n (aF x)) (hn:n<=64) (hs:s=true->0<x):Calls Tryz.prog 146 #[iS s a n c] w fun e w'=>e = .returned (.bool true)/\Below w.heap.size w w':=by
 have hl:=hx.1;have hok:=kT (n:=x) (by omega);have h:=hid (vG a n c (aF x) _ (hx.below ((Below.refl w.heap.size w).alloc aB (.cells #[.bool s,.slice a n c] 160)) aB) (by omega));rw [hok] at h;have hp:=hid (show s=true->0<n from fun h=>by rw [<-hl];exact aZ.2 (hs h));clear hx hl hok hs;cases s
 case false=>
  go_enter Tryz.func146,Tryz.ntmps146
  go_wp2_with fail
  refine h.out.mono ?_;rintro e w' ⟨rfl,rfl⟩;go_wp2;go_ret;exact⟨rfl,bD⟩
 case true=>
  have hn0:(0:Int)<n:=by have:=hp.out rfl;omega
  go_enter Tryz.func146,Tryz.ntmps146
  go_wp2_with fail
  refine h.out.mono ?_;rintro e w' ⟨rfl,rfl⟩;go_wp2;go_ret;exact⟨aQ (by first | rfl | (simp;have:=hp.out trivial;omega)),bD⟩
theorem uC (s:Bool) (a:Option Addr) (n c:Nat) (w:World):Calls Tryz.prog 148 #[.bool s,.slice a n c] w fun e w'=>e = .returned (iS (s && decide (0<n)) a n c)/\Below w.heap.size w w':=by
 cases s
 case false=>
  go_enter Tryz.func148,Tryz.ntmps148
  go_wp2;refine bodyPost_ret (v:=iS false a n c) (by simp [results,Tryz.results148,go_sem, *]) rfl ?_;exact⟨rfl,bD⟩
 case true=>
  by_cases hn:0<n
  ·have hi:(0:Int)<n:=by omega
   rw [decide_eq_true hn];go_enter Tryz.func148,Tryz.ntmps148
   go_wp2;refine bodyPost_ret (v:=iS true a n c) (by simp [results,Tryz.results148,go_sem, *]) rfl ?_;exact⟨rfl,bD⟩
  ·obtain rfl:n=0:=by omega
   go_enter Tryz.func148,Tryz.ntmps148
   go_wp2;refine bodyPost_ret (v:=iS false a 0 c) (by simp [results,Tryz.results148,go_sem, *]) rfl ?_;exact⟨rfl,bD⟩
end
def zOf (n:Int):ZD:=⟨decide (n<0),n.natAbs⟩
theorem aGy {n:Int} (h:fG n):(0<=n->IntKind.u64.wrap n=(n.natAbs:Nat))/\(n<0->IntKind.u64.wrap (-IntKind.u64.wrap n)=(n.natAbs:Nat)):=by
 unfold fG at h;constructor
 ·intro h0;simp only [IntKind.wrap,IntKind.signed,IntKind.bits];simp;omega
 ·intro h0;simp only [IntKind.wrap,IntKind.signed,IntKind.bits];simp;omega
theorem aGz (u:Nat) (h:u<aO):aM [(u:Int)]=u:=by
 rcases Nat.eq_zero_or_pos u with rfl | h0
 ·rfl
 ·have e:aF u = [(u:Int)]:=by rw [eS h0,Nat.mod_eq_of_lt h,Nat.div_eq_of_lt h,cB]
  rw [<-e,aU]
theorem wL (s:Bool) (z:Nat) (n:Int) (hz:zOf n=⟨s && decide (0<z),z⟩) (w w1 w2:World) (a1:Option Addr) (c1:Nat) (v0 v1:Value) (hp:w.heap.size<w1.heap.size) (B1:Below w.heap.size w w1) (Y1:w1.heap[w.heap.size]? = some (.cells #[v0,v1] 160 (0,0)))
  (S1:bJ bV.u64 (dM w.heap.size w1) w1 a1 (aF z).length (aF z)) (L1:(aF z).length<=c1/\c1<=maxLen) (hb2:Below w1.heap.size w1 w2) :
  ZP (zOf n) w (.returned (iS (s && decide (0<(aF z).length)) a1 (aF z).length c1)) (setL w.heap.size [(0,.bool (s && decide (0<(aF z).length))),(1,.slice a1 (aF z).length c1)] w2):=by
 rw [hz];have y2:=(hb2.block w.heap.size hp).trans Y1;have hst:=cN (p:=w.heap.size) (t:=160) (by decide) (by decide) [(0,.bool (s && decide (0<(aF z).length))),(1,.slice a1 (aF z).length c1)] w2 _ y2;exact⟨a1,c1,by rw [jT],(S1.move (Below.dat hb2) hb2.size).move hst.1 (Nat.le_of_eq hst.2.1.symm),L1,hst.2.2 _ _ aB (B1.trans (hb2.mono B1.size))⟩
theorem uD (n:Int) (hn:fG n) (w:World):Calls Tryz.prog 95 #[.int .i64 n] w fun e w'=>ZP (zOf n) w e w':=by
 obtain ⟨z,hz⟩:∃z,n.natAbs=z:=⟨_,rfl⟩;have hzb:z<aO:=by unfold fG at hn;rw [show aO=18446744073709551616 from rfl];omega
 have hw:=aGy hn;rw [hz] at hw;have hW:Below w.heap.size w ((w.alloc (.cells #[.bool false,.slice none 0 0] 160)).alloc (.cells #[.int .u64 (z:Nat)] 177)):=bX w _ _;have X1:=hid (dG w (.cells #[.bool false,.slice none 0 0] 160) (.cells #[.int .u64 (z:Nat)] 177));have hlit:=aL9 (cY w (.cells #[.bool false,.slice none 0 0] 160) (.cells #[.int .u64 (z:Nat)] 177)) (by unfold uX;rw [show aO=18446744073709551616 from rfl] at hzb;omega);have ht:=hid (jI (some ⟨w.heap.size+1,0,none⟩) 1 1 [(z:Int)] _ hlit (by omega) aB);rw [aGz z hzb] at ht;have hW':=hid hW;have hzz:=hid (show ∀s:Bool,s=decide (n<0)->zOf n=⟨s && decide (0<z),z⟩ from fun s hs=>by
  subst hs;unfold zOf;rw [hz]
  congr 1
  by_cases h:n<0
  ·rw [decide_eq_true h,decide_eq_true (by omega)];rfl
  ·rw [decide_eq_false h];rfl)
 clear hlit hW;by_cases h0:0<=n
 case pos=>
  have e0:IntKind.u64.wrap n=(z:Nat):=hw.1 h0;have hneg:¬n<0:=by omega
  have hnd:decide (n<0)=false:=decide_eq_false hneg;have hE:=hid (hzz.out false hnd.symm);clear hzz hz hw hn;go_enter Tryz.func95,Tryz.ntmps95
  go_wp2_with fail
  refine ht.out.mono ?_;rintro e w1 ⟨a1,c1,rfl,s1,l1,l1',hb1⟩;have B1:=hid (hW'.out.trans (hb1.mono hW'.out.size));have Y1:=hid ((hb1.block w.heap.size (by simp;omega)).trans X1.out);have S1:=hid (show bJ bV.u64 (dM w.heap.size w1) w1 a1 _ _ from s1.mono fun _ _ hk=>⟨hk.1,aK hW'.out.size hk.2⟩);have L1:=hid (And.intro l1 l1');have hP:=hid (show w.heap.size<w1.heap.size from(bQ Y1.out).1);have hwh:=hid (uC false a1 (aF z).length c1 w1);clear s1 l1 l1' hb1 ht
  go_wp2_with fail
  refine hwh.out.mono ?_;rintro e w2 ⟨rfl,hb2⟩;have hend:=hid (wL false z n hE.out w w1 w2 a1 c1 _ _ hP.out B1.out Y1.out S1.out L1.out hb2);have y2:=(hb2.block w.heap.size hP.out).trans Y1.out;obtain ⟨r0,r1⟩:=gI y2;obtain ⟨f0,f1⟩:=gN y2;clear hb2 y2;go_wp2;refine bodyPost_ret (v:=iS false a1 (aF z).length c1) (by simp [results,Tryz.results95,go_sem, *]) rfl ?_;exact hend.out
 case neg=>
  have e0:IntKind.u64.wrap (-IntKind.u64.wrap n)=(z:Nat):=hw.2 (by omega);have hneg:n<0:=by omega
  have hnd:decide (n<0)=true:=decide_eq_true hneg;have hE:=hid (hzz.out true hnd.symm);clear hzz hz hw hn h0;go_enter Tryz.func95,Tryz.ntmps95
  go_wp2_with fail
  refine ht.out.mono ?_;rintro e w1 ⟨a1,c1,rfl,s1,l1,l1',hb1⟩;have B1:=hid (hW'.out.trans (hb1.mono hW'.out.size));have Y1:=hid ((hb1.block w.heap.size (by simp;omega)).trans X1.out);have S1:=hid (show bJ bV.u64 (dM w.heap.size w1) w1 a1 _ _ from s1.mono fun _ _ hk=>⟨hk.1,aK hW'.out.size hk.2⟩);have L1:=hid (And.intro l1 l1');have hP:=hid (show w.heap.size<w1.heap.size from(bQ Y1.out).1);have hwh:=hid (uC true a1 (aF z).length c1 w1);clear s1 l1 l1' hb1 ht
  go_wp2_with fail
  refine hwh.out.mono ?_;rintro e w2 ⟨rfl,hb2⟩;have hend:=hid (wL true z n hE.out w w1 w2 a1 c1 _ _ hP.out B1.out Y1.out S1.out L1.out hb2);have y2:=(hb2.block w.heap.size hP.out).trans Y1.out;obtain ⟨r0,r1⟩:=gI y2;obtain ⟨f0,f1⟩:=gN y2;clear hb2 y2;go_wp2;refine bodyPost_ret (v:=iS (true && decide (0<(aF z).length)) a1 (aF z).length c1) (by simp [results,Tryz.results95,go_sem, *]) rfl ?_;exact hend.out
theorem wN (s:Bool) (v1 v2:Value) (x y:Nat) (w:World) (hx:nH x w v1) (hy:nH y w v2) (hy0:0<y):Calls Tryz.prog 147 #[.bool s,v1,v2] w fun e w'=>cI (qM s x y) w e w':=by
 have hB0:Below w.heap.size w (w.alloc (.cells #[.bool false,.slice none 0 0,.slice none 0 0] 36)):=bD;have X0:=hid (heap_alloc_new w (.cells #[.bool false,.slice none 0 0,.slice none 0 0] 36));have hB0':=hid hB0;have hX:=hid hx;have hY:=hid hy;have hg0:=hid (show 0<Nat.gcd x y from Nat.gcd_pos_of_pos_right _ hy0);have hg:=hid (aGu v1 v2 x y _ (hx.all hB0) (hy.all hB0));obtain ⟨P,hP⟩:∃P,x / Nat.gcd x y=P:=⟨_,rfl⟩;obtain ⟨Q,hQ⟩:∃Q,y / Nat.gcd x y=Q:=⟨_,rfl⟩;have hlow:=hid (show qM s x y=⟨s && decide (0<P),aF P,aF Q⟩ from by unfold qM;rw [hP,hQ]);have hP':=hid hP;have hQ':=hid hQ;clear hy hx hy0 hP hQ;go_enter Tryz.func147,Tryz.ntmps147
 go_wp2_with fail
 refine hg.out.mono ?_;rintro e w1 ⟨g1,rfl,s1,hb1⟩;have B1:=hid (hB0'.out.trans (hb1.mono hB0'.out.size));have X1:=hid ((hb1.block w.heap.size (by simp)).trans X0.out);have S1:=hid s1;have hq:=nI v1 g1 x (Nat.gcd x y) w1 (hX.out.all B1.out) s1 hg0.out;unfold aGt at hq;rw [hP'.out] at hq;have hq':=hid hq;clear s1 hb1 hg hq
 go_wp2_with fail
 refine hq'.out.mono ?_;rintro e w2 ⟨p2,r2,rfl,s2,_,hb2⟩;have B2:=hid (aI B1 hb2);have X2:=hid ((hb2.block w.heap.size (bQ X1.out).1).trans X1.out);have S2:=hid s2;have hq2:=nI v2 g1 y (Nat.gcd x y) w2 (hY.out.all B2.out) (S1.out.all hb2) hg0.out;unfold aGt at hq2;rw [hQ'.out] at hq2;have hq2':=hid hq2;clear s2 hb2 hq' hq2
 go_wp2_with fail
 refine hq2'.out.mono ?_;rintro e w3 ⟨p3,r3,rfl,s3,_,hb3⟩;have B3:=hid (aI B2 hb3);have X3:=hid ((hb3.block w.heap.size (bQ X2.out).1).trans X2.out);obtain ⟨a2,c2,rfl,t2,u2,u2',u2''⟩:=S2.out.all hb3;obtain ⟨a3,c3,rfl,t3,u3,u3',u3''⟩:=s3;have ht:=jI a2 (aF P).length c2 (aF P) w3 t2 (by omega) u2;rw [aU] at ht;have ht':=hid ht;have T3:=hid t3;have U3:=hid (And.intro u3 u3'');have hpi:decide ((0:Int)<(aF P).length)=decide (0<P):=by
  rw [<-jT (z:=P)];exact decide_eq_decide.2 (by omega)
 have hQl:=hid hpi;clear t2 u2 u2' u2'' t3 u3 u3' u3'' hb3 S2 ht hq2' hpi;clear hQl;cases s
 case false=>
  have hnb:=hid (show(false && decide (0<P))=false from rfl)
  go_wp2_with fail
  refine ht'.out.mono ?_;rintro e w4 ⟨a4,c4,rfl,s4,l4,l4',hb4⟩;have B4:=hid (aI B3 hb4);have X4:=hid ((hb4.block w.heap.size (bQ X3.out).1).trans X3.out);have S4:=hid (show bJ bV.u64 (dM w.heap.size w4) w4 a4 (aF P).length (aF P) from s4.mono fun _ _ hk=>⟨hk.1,aK B3.out.size hk.2⟩);have L4:=hid (And.intro l4 l4');have ht2:=jI a3 (aF Q).length c3 (aF Q) w4 (T3.out.below hb4 aB) (by have:=U3.out.2;omega) U3.out.1;rw [aU] at ht2;have ht2':=hid ht2;clear s4 l4 l4' hb4 ht2 ht'
  go_wp2_with fail
  refine ht2'.out.mono ?_;rintro e w5 ⟨a5,c5,rfl,s5,l5,l5',hb5⟩;have B5:=hid (aI B4 hb5);have x5:=(hb5.block w.heap.size (bQ X4.out).1).trans X4.out;have X5:=hid x5;have S5:=hid (show bJ bV.u64 (dM w.heap.size w5) w5 a5 (aF Q).length (aF Q) from s5.mono fun _ _ hk=>⟨hk.1,aK B4.out.size hk.2⟩);have T4:=hid (S4.out.move (Below.dat hb5) hb5.size);have L5:=hid (And.intro l5 l5');obtain ⟨r0,r1,r2⟩:=dF x5;obtain ⟨f0,f1,f2⟩:=dT x5;clear s5 l5 l5' hb5 x5 ht2';go_wp2;refine bodyPost_ret (v:=dK ⟨false,aF P,aF Q⟩ a4 c4 a5 c5) (by simp [results,Tryz.results147,go_sem, *]) rfl ?_;rw [hlow.out,hnb.out];exact cI.set (r:=⟨false,aF P,aF Q⟩) (by decide) (by decide) X5.out aB T4.out S5.out L4.out L5.out B5.out [(0,.bool false),(1,.slice a4 (aF P).length c4),(2,.slice a5 (aF Q).length c5)]
 case true=>
  have hnb:=hid (show(true && decide (0<P))=(decide (0<(aF P).length)) from by rw [jT];rfl)
  go_wp2_with fail
  refine ht'.out.mono ?_;rintro e w4 ⟨a4,c4,rfl,s4,l4,l4',hb4⟩;have B4:=hid (aI B3 hb4);have X4:=hid ((hb4.block w.heap.size (bQ X3.out).1).trans X3.out);have S4:=hid (show bJ bV.u64 (dM w.heap.size w4) w4 a4 (aF P).length (aF P) from s4.mono fun _ _ hk=>⟨hk.1,aK B3.out.size hk.2⟩);have L4:=hid (And.intro l4 l4');have ht2:=jI a3 (aF Q).length c3 (aF Q) w4 (T3.out.below hb4 aB) (by have:=U3.out.2;omega) U3.out.1;rw [aU] at ht2;have ht2':=hid ht2;clear s4 l4 l4' hb4 ht2 ht'
  go_wp2_with fail
  refine ht2'.out.mono ?_;rintro e w5 ⟨a5,c5,rfl,s5,l5,l5',hb5⟩;have B5:=hid (aI B4 hb5);have x5:=(hb5.block w.heap.size (bQ X4.out).1).trans X4.out;have X5:=hid x5;have S5:=hid (show bJ bV.u64 (dM w.heap.size w5) w5 a5 (aF Q).length (aF Q) from s5.mono fun _ _ hk=>⟨hk.1,aK B4.out.size hk.2⟩);have T4:=hid (S4.out.move (Below.dat hb5) hb5.size);have L5:=hid (And.intro l5 l5');obtain ⟨r0,r1,r2⟩:=dF x5;obtain ⟨f0,f1,f2⟩:=dT x5;clear s5 l5 l5' hb5 x5 ht2';go_wp2;refine bodyPost_ret (v:=dK ⟨(decide (0<(aF P).length)),aF P,aF Q⟩ a4 c4 a5 c5) (by simp [results,Tryz.results147,go_sem, *]) rfl ?_;rw [hlow.out,hnb.out];exact cI.set (r:=⟨(decide (0<(aF P).length)),aF P,aF Q⟩) (by decide) (by decide) X5.out aB T4.out S5.out L4.out L5.out B5.out [(0,.bool (decide (0<(aF P).length))),(1,.slice a4 (aF P).length c4),(2,.slice a5 (aF Q).length c5)]
theorem aG0 {S S':Nat->Prop} (s:Bool) (a b:Option Addr) (n m c d x y:Nat) (w:World) (hx:bJ bV.u64 S w a n (aF x)) (hy:bJ bV.u64 S' w b m (aF y)) (hn64:n<=64) (hm64:m<=64) (hc:n<=c/\c<=maxLen) (hd:m<=d/\d<=maxLen) (hs:s=true->0<x) (hy0':0<y) :
  Calls Tryz.prog 94 #[iS s a n c,iS false b m d] w fun e w'=>∃v,e = .returned (.tuple #[v,.int .i64 0])/\cI (qM s x y) w (.returned v) w':=by
 have HX:=hid hx;have HY:=hid hy;have hlx:=hid hx.1;have hly:=hid hy.1;have hcc:=hid hc;have hdd:=hid hd;have hy0:=hid hy0';have hmp:0<m:=by rw [<-hly.out];exact aZ.2 hy0'
 have hmi:(m:Int)≠0:=by omega
 have hmi2:(0:Int)<m:=by omega
 obtain ⟨RR,hRR⟩:∃R,qM s x y=R:=⟨_,rfl⟩;rw [hRR];have hR':=hid hRR;clear hx hy hc hd hy0' hRR;cases s
 case false=>
  clear hs;have h0:=heap_alloc_new ((w.alloc (.cells #[.bool false,.slice a n c] 160)).alloc (.cells #[.bool false,.slice b m d] 160)) (.cells #[.bool false,.slice none 0 0,.slice none 0 0] 36);have h1:=(Below.heap_alloc ((w.alloc (.cells #[.bool false,.slice a n c] 160)).alloc (.cells #[.bool false,.slice b m d] 160)) (.cells #[.bool false,.slice none 0 0,.slice none 0 0] 36) w.heap.size (by simp;omega)).trans (dG w (.cells #[.bool false,.slice a n c] 160) (.cells #[.bool false,.slice b m d] 160));have h2:=(Below.heap_alloc ((w.alloc (.cells #[.bool false,.slice a n c] 160)).alloc (.cells #[.bool false,.slice b m d] 160)) (.cells #[.bool false,.slice none 0 0,.slice none 0 0] 36) (w.heap.size+1) (by simp)).trans (cY w (.cells #[.bool false,.slice a n c] 160) (.cells #[.bool false,.slice b m d] 160));have hW0:Below w.heap.size w (((w.alloc (.cells #[.bool false,.slice a n c] 160)).alloc (.cells #[.bool false,.slice b m d] 160)).alloc (.cells #[.bool false,.slice none 0 0,.slice none 0 0] 36)):=(bX w _ _).alloc (by simp;omega) _;rw [World.size_alloc,World.size_alloc] at h0;go_enter Tryz.func94,Tryz.ntmps94
  go_wp2_with fail
  generalize hW:((w.alloc (.cells #[.bool false,.slice a n c] 160)).alloc (.cells #[.bool false,.slice b m d] 160)).alloc (.cells #[.bool false,.slice none 0 0,.slice none 0 0] 36)=W0 at *;clear hW;have H0:=hid h0;have H1:=hid h1;have H2:=hid h2;have BW:=hid hW0;have v1:=hid (jO false a n c x W0 (HX.out.below hW0 aB) hn64 (fun h=>by cases h));clear h0 h1 h2 hW0;refine v1.out.mono ?_;rintro e w1 ⟨rfl,hb1⟩;have B1:=hid (aI BW hb1);have y1:=(hb1.block (w.heap.size+1) (bQ H2.out).1).trans H2.out;have P0:=hid ((hb1.block (w.heap.size+1+1) (bQ H0.out).1).trans H0.out);have P1:=hid ((hb1.block w.heap.size (bQ H1.out).1).trans H1.out);have P2:=hid y1;have k0:w1.cell? ⟨w.heap.size+1,0,none⟩=some (.bool false):=aC y1 0;have k1:w1.cell? ⟨w.heap.size+1,1,none⟩=some (.slice b m d):=aC y1 1;have v2:=hid (jO false b m d y w1 (HY.out.below B1.out aB) hm64 (fun h=>by cases h));clear hb1 y1 v1
  go_wp2_with fail
  refine v2.out.mono ?_;rintro e w2 ⟨rfl,hb2⟩;have B2:=hid (aI B1 hb2);have y0:=(hb2.block (w.heap.size+1+1) (bQ P0.out).1).trans P0.out;have y1:=(hb2.block w.heap.size (bQ P1.out).1).trans P1.out;have y2:=(hb2.block (w.heap.size+1) (bQ P2.out).1).trans P2.out;have m0:w2.cell? ⟨w.heap.size,0,none⟩=some (.bool false):=aC y1 0;have m1:w2.cell? ⟨w.heap.size,1,none⟩=some (.slice a n c):=aC y1 1;have n0:w2.cell? ⟨w.heap.size+1,0,none⟩=some (.bool false):=aC y2 0;have n1:w2.cell? ⟨w.heap.size+1,1,none⟩=some (.slice b m d):=aC y2 1;have Q0:=hid y0;have hmd0:=wN false (.slice a n c) (.slice b m d) x y w2 ⟨a,c,by rw [hlx.out],by rw [hlx.out];exact(HX.out.below B2.out aB).mono fun _ _ _=>trivial,by rw [hlx.out];exact hcc.out.1,hcc.out.2,by rw [hlx.out];omega⟩ ⟨b,d,by rw [hly.out],by rw [hly.out];exact(HY.out.below B2.out aB).mono fun _ _ _=>trivial,by rw [hly.out];exact hdd.out.1,hdd.out.2,by rw [hly.out];omega⟩ hy0.out;rw [hR'.out] at hmd0;have hmd:=hid hmd0;clear hb2 y0 y1 y2 k0 k1 v2 hmd0 hR'
  go_wp2_with fail
  refine hmd.out.mono ?_;rintro e w3 ⟨a3,c3,b3,d3,rfl,s3,t3,l3,l3',hb3⟩;have y0:=(hb3.block (w.heap.size+1+1) (bQ Q0.out).1).trans Q0.out;obtain ⟨r0,r1,r2⟩:=dF y0;obtain ⟨f0,f1,f2⟩:=dT y0;have F3:=hid (cI.set (r:=RR) (w:=w) (W:=w3) (by decide) (by decide) y0 (by omega) (s3.mono fun _ _ hk=>⟨hk.1,aK B2.out.size hk.2⟩) (t3.mono fun _ _ hk=>⟨hk.1,aK B2.out.size hk.2⟩) l3 l3' (aI B2 hb3) [(0,.bool RR.neg),(1,.slice a3 RR.num.length c3),(2,.slice b3 RR.den.length d3)]);clear s3 t3 l3 l3' hb3 y0 hmd;obtain ⟨rn,ru,rd⟩:=RR;dsimp only;go_wp2;refine bodyPost_ret (v:=.tuple #[dK ⟨rn,ru,rd⟩ a3 c3 b3 d3,.int .i64 0]) (by simp [results,Tryz.results94,go_sem, *]) rfl ?_;exact⟨_,rfl,F3.out⟩
 case true=>
  have hx0:=hid (hs rfl);clear hs;have h0:=heap_alloc_new ((w.alloc (.cells #[.bool true,.slice a n c] 160)).alloc (.cells #[.bool false,.slice b m d] 160)) (.cells #[.bool false,.slice none 0 0,.slice none 0 0] 36);have h1:=(Below.heap_alloc ((w.alloc (.cells #[.bool true,.slice a n c] 160)).alloc (.cells #[.bool false,.slice b m d] 160)) (.cells #[.bool false,.slice none 0 0,.slice none 0 0] 36) w.heap.size (by simp;omega)).trans (dG w (.cells #[.bool true,.slice a n c] 160) (.cells #[.bool false,.slice b m d] 160));have h2:=(Below.heap_alloc ((w.alloc (.cells #[.bool true,.slice a n c] 160)).alloc (.cells #[.bool false,.slice b m d] 160)) (.cells #[.bool false,.slice none 0 0,.slice none 0 0] 36) (w.heap.size+1) (by simp)).trans (cY w (.cells #[.bool true,.slice a n c] 160) (.cells #[.bool false,.slice b m d] 160));have hW0:Below w.heap.size w (((w.alloc (.cells #[.bool true,.slice a n c] 160)).alloc (.cells #[.bool false,.slice b m d] 160)).alloc (.cells #[.bool false,.slice none 0 0,.slice none 0 0] 36)):=(bX w _ _).alloc (by simp;omega) _;rw [World.size_alloc,World.size_alloc] at h0;go_enter Tryz.func94,Tryz.ntmps94
  go_wp2_with fail
  generalize hW:((w.alloc (.cells #[.bool true,.slice a n c] 160)).alloc (.cells #[.bool false,.slice b m d] 160)).alloc (.cells #[.bool false,.slice none 0 0,.slice none 0 0] 36)=W0 at *;clear hW;have H0:=hid h0;have H1:=hid h1;have H2:=hid h2;have BW:=hid hW0;have v1:=hid (jO true a n c x W0 (HX.out.below hW0 aB) hn64 (fun _=>hx0.out));clear h0 h1 h2 hW0;refine v1.out.mono ?_;rintro e w1 ⟨rfl,hb1⟩;have B1:=hid (aI BW hb1);have y1:=(hb1.block (w.heap.size+1) (bQ H2.out).1).trans H2.out;have P0:=hid ((hb1.block (w.heap.size+1+1) (bQ H0.out).1).trans H0.out);have P1:=hid ((hb1.block w.heap.size (bQ H1.out).1).trans H1.out);have P2:=hid y1;have k0:w1.cell? ⟨w.heap.size+1,0,none⟩=some (.bool false):=aC y1 0;have k1:w1.cell? ⟨w.heap.size+1,1,none⟩=some (.slice b m d):=aC y1 1;have v2:=hid (jO false b m d y w1 (HY.out.below B1.out aB) hm64 (fun h=>by cases h));clear hb1 y1 v1
  go_wp2_with fail
  refine v2.out.mono ?_;rintro e w2 ⟨rfl,hb2⟩;have B2:=hid (aI B1 hb2);have y0:=(hb2.block (w.heap.size+1+1) (bQ P0.out).1).trans P0.out;have y1:=(hb2.block w.heap.size (bQ P1.out).1).trans P1.out;have y2:=(hb2.block (w.heap.size+1) (bQ P2.out).1).trans P2.out;have m0:w2.cell? ⟨w.heap.size,0,none⟩=some (.bool true):=aC y1 0;have m1:w2.cell? ⟨w.heap.size,1,none⟩=some (.slice a n c):=aC y1 1;have n0:w2.cell? ⟨w.heap.size+1,0,none⟩=some (.bool false):=aC y2 0;have n1:w2.cell? ⟨w.heap.size+1,1,none⟩=some (.slice b m d):=aC y2 1;have Q0:=hid y0;have hmd0:=wN true (.slice a n c) (.slice b m d) x y w2 ⟨a,c,by rw [hlx.out],by rw [hlx.out];exact(HX.out.below B2.out aB).mono fun _ _ _=>trivial,by rw [hlx.out];exact hcc.out.1,hcc.out.2,by rw [hlx.out];omega⟩ ⟨b,d,by rw [hly.out],by rw [hly.out];exact(HY.out.below B2.out aB).mono fun _ _ _=>trivial,by rw [hly.out];exact hdd.out.1,hdd.out.2,by rw [hly.out];omega⟩ hy0.out;rw [hR'.out] at hmd0;have hmd:=hid hmd0;clear hb2 y0 y1 y2 k0 k1 v2 hmd0 hR'
  go_wp2_with fail
  refine hmd.out.mono ?_;rintro e w3 ⟨a3,c3,b3,d3,rfl,s3,t3,l3,l3',hb3⟩;have y0:=(hb3.block (w.heap.size+1+1) (bQ Q0.out).1).trans Q0.out;obtain ⟨r0,r1,r2⟩:=dF y0;obtain ⟨f0,f1,f2⟩:=dT y0;have F3:=hid (cI.set (r:=RR) (w:=w) (W:=w3) (by decide) (by decide) y0 (by omega) (s3.mono fun _ _ hk=>⟨hk.1,aK B2.out.size hk.2⟩) (t3.mono fun _ _ hk=>⟨hk.1,aK B2.out.size hk.2⟩) l3 l3' (aI B2 hb3) [(0,.bool RR.neg),(1,.slice a3 RR.num.length c3),(2,.slice b3 RR.den.length d3)]);clear s3 t3 l3 l3' hb3 y0 hmd;obtain ⟨rn,ru,rd⟩:=RR;dsimp only;go_wp2;refine bodyPost_ret (v:=.tuple #[dK ⟨rn,ru,rd⟩ a3 c3 b3 d3,.int .i64 0]) (by simp [results,Tryz.results94,go_sem, *]) rfl ?_;exact⟨_,rfl,F3.out⟩
def gC (n d:Int):cE:=qM (decide (n<0)) n.natAbs d.natAbs
theorem yD (n d:Int) (hn:fG n) (hd0:0<d) (hd:fG d) (w:World):Calls Tryz.prog 39 #[.int .i64 n,.int .i64 d] w fun e w'=>cI (gC n d) w e w':=by
 have hB0:Below w.heap.size w (w.alloc (.cells #[.bool false,.slice none 0 0,.slice none 0 0] 36)):=bD;have X0:=hid (heap_alloc_new w (.cells #[.bool false,.slice none 0 0,.slice none 0 0] 36));have hB0':=hid hB0;have hq1:=hid (fun W=>uD n hn W);have hq2:=hid (fun W=>uD d hd W);have hde:(d == 0)=false:=by simp;omega
 have hdn:d≠0:=by omega
 have hz1:=hid (show n.natAbs<aO from by unfold fG at hn;rw [show aO=18446744073709551616 from rfl];omega);have hz2:=hid (show d.natAbs<aO from by unfold fG at hd;rw [show aO=18446744073709551616 from rfl];omega);have hl1:=hid (show(aF (zOf n).n).length<=1 from cT (by rw [Nat.pow_one];exact hz1.out));have hl2:=hid (show(aF (zOf d).n).length<=1 from cT (by rw [Nat.pow_one];exact hz2.out));have hs1:=hid (show(zOf n).neg=true->0<(zOf n).n from fun h=>by have:n<0:=of_decide_eq_true h;show 0<n.natAbs;omega);have hs2:=hid (show(zOf d).neg=false from decide_eq_false (by omega));have hp2:=hid (show 0<(zOf d).n from by show 0<d.natAbs;omega);obtain ⟨RR,hRR⟩:∃R,gC n d=R:=⟨_,rfl⟩;rw [hRR];have hof:=hid (show RR=qM (zOf n).neg (zOf n).n (zOf d).n from hRR.symm);clear hRR;clear hB0 hn hd hd0;go_enter Tryz.func39,Tryz.ntmps39
 go_wp2_with fail
 refine(hq1.out _).mono ?_;rintro e w1 ⟨a1,c1,rfl,s1,l1,hb1⟩;have B1:=hid (hB0'.out.trans (hb1.mono hB0'.out.size));have X1:=hid ((hb1.block w.heap.size (by simp)).trans X0.out);have S1:=hid s1;have L1:=hid l1;clear s1 l1 hb1
 go_wp2_with fail
 refine(hq2.out _).mono ?_;rintro e w2 ⟨a2,c2,rfl,s2,l2,hb2⟩;have B2:=hid (aI B1 hb2);have X2:=hid ((hb2.block w.heap.size (bQ X1.out).1).trans X1.out);have hn:=aG0 (zOf n).neg a1 a2 _ _ c1 c2 (zOf n).n (zOf d).n w2 (S1.out.below hb2 aB) s2 (aK hl1.out (by decide)) (aK hl2.out (by decide)) L1.out l2 hs1.out hp2.out;rw [<-hs2.out,<-hof.out] at hn;have hn':=hid hn;clear s2 l2 hb2 hn
 go_wp2_with fail
 refine hn'.out.mono ?_;rintro e w3 ⟨v,rfl,a3,c3,b3,d3,hv,s3,t3,l3,l3',hb3⟩;injection hv with hv
 subst hv;have y3:=(hb3.block w.heap.size (bQ X2.out).1).trans X2.out;have B3:=aI B2 hb3;clear hof;obtain ⟨rn,ru,rd⟩:=RR;dsimp only at s3 t3 l3 l3';have hb4:Below w3.heap.size w3 (w3.alloc (.cells #[.bool rn,.slice a3 ru.length c3,.slice b3 rd.length d3] 36)):=bD;have y4:=(hb4.block w.heap.size (bQ y3).1).trans y3;obtain ⟨r0,r1,r2⟩:=dF y4;obtain ⟨f0,f1,f2⟩:=dT y4;have z3:=heap_alloc_new w3 (.cells #[.bool rn,.slice a3 ru.length c3,.slice b3 rd.length d3] 36);obtain ⟨m0,m1,m2⟩:=dF z3;have F3:=hid (cI.set (r:=⟨rn,ru,rd⟩) (w:=w) (by decide) (by decide) y4 aB ((s3.mono fun _ _ hk=>⟨hk.1,aK B2.out.size hk.2⟩).move (Below.dat hb4) hb4.size) ((t3.mono fun _ _ hk=>⟨hk.1,aK B2.out.size hk.2⟩).move (Below.dat hb4) hb4.size) l3 l3' (B3.trans (hb4.mono B3.size)) [(0,.bool rn),(1,.slice a3 ru.length c3),(2,.slice b3 rd.length d3)]);clear s3 t3 l3 l3' hb3 y3 hb4 z3 B3 y4
 go_wp2_with fail
 generalize w3.alloc (.cells #[.bool rn,.slice a3 ru.length c3,.slice b3 rd.length d3] 36)=w4 at *;go_wp2;refine bodyPost_ret (v:=dK ⟨rn,ru,rd⟩ a3 c3 b3 d3) (by simp [results,Tryz.results39,go_sem, *]) rfl ?_;exact F3.out
theorem bJ.us64 {S:Nat->Prop} {w:World} {a:Option Addr} {n:Nat} {xs:List Int} (h:bJ bV.u64 S w a n xs):bO xs:=fun x hx=>by
 obtain ⟨j,hj,rfl⟩:=List.getElem_of_mem hx;obtain ⟨b,o,cs,_,_,h1,_⟩:=h.at (List.getElem?_eq_getElem hj);exact h1.2
structure fJ (S:Nat->Prop) (w:World) (r:cE) (a:Option Addr) (c:Nat) (b:Option Addr) (d:Nat):Prop where
 num:bJ bV.u64 S w a r.num.length r.num
 nc:r.num.length<=c/\c<=maxLen
 den:bJ bV.u64 S w b r.den.length r.den
 dc:r.den.length<=d/\d<=maxLen
theorem dY {x y:Nat} (hx:(aF x).length<=64) (hy:(aF y).length<=64):(aF (x * y)).length<=128:=by
 refine cT ?_;have h1:=eR (dL x);have h2:=eR (dL y);rw [aU] at h1 h2;have h3:=tW h1 h2;exact bN h3 (Nat.pow_le_pow_right eL (by omega))
section
variable {S S' : Nat -> Prop}
theorem aG1 (r s:cE) (a b a' b':Option Addr) (c d c' d':Nat) (w:World) (h:fJ S w r a c b d) (k:fJ S' w s a' c' b' d') (hrn:r.num.length<=1000000) (hrd:r.den.length<=1000000) (hsn:s.num.length<=1000000) (hsd:s.den.length<=1000000) :
  Calls Tryz.prog 184 #[dK r a c b d,dK s a' c' b' d'] w fun e w'=>aGx (nA r s) w e w':=by
 have hr:=fun hv=>iM (r:=r) h.num.us64 h.den.us64 hv
 have hs:=fun hv=>iM (r:=s) k.num.us64 k.den.us64 hv
 have H:=hid h;have K:=hid k;obtain ⟨ng,nu,de⟩:=r;obtain ⟨mg,mu,me⟩:=s;dsimp only at *;have hr':=hid hr;have hs':=hid hs;clear h k hr hs;have X0:=hid (pU w (.cells #[.bool ng,.slice a nu.length c,.slice b de.length d] 36) (.cells #[.bool mg,.slice a' mu.length c',.slice b' me.length d'] 36) (.cells #[.bool false,.slice none 0 0,.slice none 0 0] 36));have x1:=nJ w (.cells #[.bool ng,.slice a nu.length c,.slice b de.length d] 36) (.cells #[.bool mg,.slice a' mu.length c',.slice b' me.length d'] 36) (.cells #[.bool false,.slice none 0 0,.slice none 0 0] 36);have x2:=nK w (.cells #[.bool ng,.slice a nu.length c,.slice b de.length d] 36) (.cells #[.bool mg,.slice a' mu.length c',.slice b' me.length d'] 36) (.cells #[.bool false,.slice none 0 0,.slice none 0 0] 36);have hB0:=hid (nL w (.cells #[.bool ng,.slice a nu.length c,.slice b de.length d] 36) (.cells #[.bool mg,.slice a' mu.length c',.slice b' me.length d'] 36) (.cells #[.bool false,.slice none 0 0,.slice none 0 0] 36));generalize hw0:((w.alloc (.cells #[.bool ng,.slice a nu.length c,.slice b de.length d] 36)).alloc (.cells #[.bool mg,.slice a' mu.length c',.slice b' me.length d'] 36)).alloc (.cells #[.bool false,.slice none 0 0,.slice none 0 0] 36)=w0 at *;have hcell:=hid (show ∀W,Below w0.heap.size w0 W->W.cell? ⟨w.heap.size,0,none⟩=some (.bool ng)/\W.cell? ⟨w.heap.size,1,none⟩=some (.slice a nu.length c)/\W.cell? ⟨w.heap.size,2,none⟩=some (.slice b de.length d)/\W.cell? ⟨w.heap.size+1,0,none⟩=some (.bool mg)/\W.cell? ⟨w.heap.size+1,1,none⟩=some (.slice a' mu.length c')/\W.cell? ⟨w.heap.size+1,2,none⟩=some (.slice b' me.length d') from fun W hW=>
  ⟨aD hW (aC x1 0),aD hW (aC x1 1),aD hW (aC x1 2),aD hW (aC x2 0),aD hW (aC x2 1),aD hW (aC x2 2)⟩)
 have hbox:=hid (show ∀W,Below w0.heap.size w0 W->W.heap[w.heap.size+1+1]? = some (.cells #[.bool false,.slice none 0 0,.slice none 0 0] 36 (0,0))/\Below w.heap.size w W from fun W hW=>⟨aJ hW X0.out,aI hB0 hW⟩);have hv1:=hid (dW ⟨ng,nu,de⟩ a b c d w0 (H.out.num.below hB0.out aB) (H.out.den.below hB0.out aB) hrn hrd H.out.nc H.out.dc);have hv2:=hid (fun W (hW:Below w0.heap.size w0 W)=>dW ⟨mg,mu,me⟩ a' b' c' d' W (K.out.num.below (hbox.out W hW).2 aB) (K.out.den.below (hbox.out W hW).2 aB) hsn hsd K.out.nc K.out.dc);obtain ⟨q0,q1,q2,r0,r1,r2⟩:=hcell.out w0 (Below.refl _ _);clear x1 x2;cases hvr:iA ⟨ng,nu,de⟩
 case false=>
  have hdf:=hid (show nA ⟨ng,nu,de⟩ ⟨mg,mu,me⟩=(iI,1) from by unfold nA dN;rw [hvr];rfl);rw [hvr] at hv1;clear hvr;go_enter Tryz.func184,Tryz.ntmps184
  go_wp2_with fail
  refine hv1.out.mono ?_;rintro e w1 ⟨rfl,hb1⟩;obtain ⟨xb,hb⟩:=hbox.out w1 hb1;have XB:=hid xb;have HB:=hid hb;clear hw0 xb hb hb1 hv1;have x5:=XB.out;obtain ⟨z0,z1,z2⟩:=dF x5;obtain ⟨f0,f1,f2⟩:=dT x5;clear x5;go_wp2;refine bodyPost_ret (v:=.tuple #[dK ⟨false,[],[]⟩ none 0 none 0,.int .i64 1]) (by simp [results,Tryz.results184,go_sem, *]) rfl ?_;rw [hdf.out];exact⟨_,rfl,cI.set (r:=iI) (by decide) (by decide) XB.out (by omega) (.nil _ _ _ _) (.nil _ _ _ _) ⟨aV,aV⟩ ⟨aV,aV⟩ HB.out [(0,.bool false),(1,.slice none 0 0),(2,.slice none 0 0)]⟩
 case true=>
  rw [hvr] at hv1;cases hvs:iA ⟨mg,mu,me⟩
  case false=>
   have hdf:=hid (show nA ⟨ng,nu,de⟩ ⟨mg,mu,me⟩=(iI,1) from by unfold nA dN;rw [hvr,hvs];rfl);rw [hvs] at hv2;clear hvr hvs;go_enter Tryz.func184,Tryz.ntmps184
   go_wp2_with fail
   refine hv1.out.mono ?_;rintro e w1 ⟨rfl,hb1⟩;have hb1':=hid hb1;clear q0 q1 q2 r0 r1 r2;obtain ⟨q0,q1,q2,r0,r1,r2⟩:=hcell.out w1 hb1;clear hw0 hv1
   go_wp2_with fail
   refine(hv2.out w1 hb1'.out).mono ?_;rintro e w2 ⟨rfl,hb2⟩;obtain ⟨xb,hb⟩:=hbox.out w2 (hb1'.out.trans (hb2.mono hb1'.out.size));have XB:=hid xb;have HB:=hid hb;clear xb hb hb1 hb2 hv2;have x5:=XB.out;obtain ⟨z0,z1,z2⟩:=dF x5;obtain ⟨f0,f1,f2⟩:=dT x5;clear x5;go_wp2;refine bodyPost_ret (v:=.tuple #[dK ⟨false,[],[]⟩ none 0 none 0,.int .i64 1]) (by simp [results,Tryz.results184,go_sem, *]) rfl ?_;rw [hdf.out];exact⟨_,rfl,cI.set (r:=iI) (by decide) (by decide) XB.out (by omega) (.nil _ _ _ _) (.nil _ _ _ _) ⟨aV,aV⟩ ⟨aV,aV⟩ HB.out [(0,.bool false),(1,.slice none 0 0),(2,.slice none 0 0)]⟩
  case true=>
   have R:=hid (hr'.out hvr);have S2:=hid (hs'.out hvs);rw [hvs] at hv2;have hdm:=hid (show nA ⟨ng,nu,de⟩ ⟨mg,mu,me⟩=dV (ng != mg) (aM nu * aM mu) (aM de * aM me) from by unfold nA dN;rw [hvr,hvs];rfl);clear hr' hs' hvr hvs;obtain ⟨x,y,e1,e2,lx,ly,hy0⟩:∃x y,nu=aF x/\de=aF y/\nu.length<=64/\de.length<=64/\0<y:=⟨_,_,R.out.num,R.out.den,R.out.nl,R.out.dl,R.out.pos⟩;obtain ⟨x',y',e3,e4,lx',ly',hy0'⟩:∃x y,mu=aF x/\me=aF y/\mu.length<=64/\me.length<=64/\0<y:=⟨_,_,S2.out.num,S2.out.den,S2.out.nl,S2.out.dl,S2.out.pos⟩;subst e1 e2 e3 e4;rw [aU,aU,aU,aU] at hdm;clear R S2;go_enter Tryz.func184,Tryz.ntmps184
   go_wp2_with fail
   refine hv1.out.mono ?_;rintro e w1 ⟨rfl,hb1⟩;have hb1':=hid hb1;clear q0 q1 q2 r0 r1 r2;obtain ⟨q0,q1,q2,r0,r1,r2⟩:=hcell.out w1 hb1;clear hw0 hv1 hb1
   go_wp2_with fail
   refine(hv2.out w1 hb1'.out).mono ?_;rintro e w2 ⟨rfl,hb2⟩;have hb02:=hid (hb1'.out.trans (hb2.mono hb1'.out.size));clear q0 q1 q2 r0 r1 r2 X0 hB0;obtain ⟨q0,q1,q2,r0,r1,r2⟩:=hcell.out w2 hb02.out;obtain ⟨xb,hb⟩:=hbox.out w2 hb02.out;have X0:=hid xb;have hB0:=hid hb;clear hcell hbox hb02 hb1' hb2 hv2 xb hb;clear w1 w0;obtain ⟨w0,rfl⟩:∃W,W=w2:=⟨_,rfl⟩;have hsz:=hid hB0.out.size;have ht1:=hid (fun W (hb:Below w0.heap.size w0 W)=>hD a a' (aF x).length (aF x').length c c' x x' W (H.out.num.below (aI hB0 hb) aB) (K.out.num.below (aI hB0 hb) aB) (by omega) (by omega));have ht2:=hid (fun W (hb:Below w0.heap.size w0 W)=>hD b b' (aF y).length (aF y').length d d' y y' W (H.out.den.below (aI hB0 hb) aB) (K.out.den.below (aI hB0 hb) aB) (by omega) (by omega));have hz1:=hid (show(aF (x * x')).length<=274877906944 from aK (dY lx lx') (by decide));have hz2:=hid (show(aF (y * y')).length<=274877906944 from aK (dY ly ly') (by decide));have hz0:=hid (show 0<y * y' from Nat.mul_pos hy0 hy0');generalize x * x'=z1 at *;generalize y * y'=z2 at *;go_wp2;refine aW (S:=fun W=>Below w0.heap.size w0 W) 18 (by kernel_rfl) (by kernel_rfl) (aG w0) (fun _=>?_);refine aE 0 ?_;refine cJ 1 (fun W h=>aD h q0) ?_;refine aE 2 ?_;refine cJ 3 (fun W h=>aD h r0) ?_;refine aE 4 ?_;refine aE 5 ?_;refine cJ 6 (fun W h=>aD h q1) ?_;refine aE 7 ?_;refine cJ 8 (fun W h=>aD h r1) ?_;refine aE 10 ?_;refine cJ 11 (fun W h=>aD h q2) ?_;refine aE 12 ?_;refine cJ 13 (fun W h=>aD h r2) ?_;refine aN 9 fun K hK=>?_;go_simp
   go_at_call 216
   refine(ht1.out _ (aG w0)).mono ?_;rintro ee w9 ⟨a9,c9,rfl,s9,l9,m9,b9⟩;have B9:Below w0.heap.size w0 w9:=(aG w0).trans (b9.mono (aG w0).size);have S9:=hid (s9.mono (S':=fun _=>True) fun _ _ _=>trivial);have L9:=hid (And.intro l9 m9);clear s9 b9 l9 m9;dsimp only;refine hK.out _ _ (by(exact B9)) (fun hHeld2=>?_);clear hK K;refine aN 14 fun K hK=>?_;go_simp
   go_at_call 216
   refine(ht2.out _ B9).mono ?_;rintro ee w14 ⟨a14,c14,rfl,s14,l14,m14,b14⟩;have B14:Below w0.heap.size w0 w14:=B9.trans (b14.mono B9.size);have hlo:=hid (pV (ng != mg) a9 a14 (aF z1).length (aF z2).length c9 c14 z1 z2 w14 (S9.out.below b14 aB) (s14.mono (S':=fun _=>True) fun _ _ _=>trivial) hz1.out hz2.out L9.out ⟨l14,m14⟩ hz0.out);clear s14 b14 l14 m14 S9 L9 ht1 ht2;generalize dV (ng != mg) z1 z2=res at *;obtain ⟨R,er⟩:=res;dsimp only;refine hK.out _ _ (by(exact B14)) (fun hHeld3=>?_);clear hK K;refine aN 15 fun K hK=>?_;go_simp
   go_at_call 215
   refine hlo.out.mono ?_;rintro ee w15 ⟨v15,rfl,a15,c15,d15,e15,hv15,p1,p2,p3,p4,b15⟩;cases hv15;have zB:=B14.size;have B15:Below w0.heap.size w0 w15:=B14.trans (b15.mono B14.size);have P1:=hid p1;have P2:=hid p2;have P3:=hid p3;have P4:=hid p4;clear p1 p2 p3 p4 b15 hlo;dsimp only;refine hK.out _ _ (by(exact B15)) (fun hHeld4=>?_);clear hK K;(try simp only [Act.put,sA,sB,sC]);refine aE 16 ?_;refine aE 17 ?_;refine bH (by decide +kernel) ?_;simp only [cG,bT];have x5:=aJ B15 X0.out;have X5:=hid x5;obtain ⟨z0,z1,z2⟩:=dF x5;obtain ⟨f0,f1,f2⟩:=dT x5;clear x5;go_wp2;refine bodyPost_ret (v:=.tuple #[dK R a15 c15 d15 e15,.int .i64 er]) (by simp [results,Tryz.results184,go_sem, *]) rfl ?_;rw [hdm.out];exact⟨_,rfl,cI.set (r:=R) (by decide) (by decide) X5.out (by omega) (P1.out.mono fun k _ h=>⟨h.1,aK (aK hsz.out zB) h.2⟩) (P2.out.mono fun k _ h=>⟨h.1,aK (aK hsz.out zB) h.2⟩) P3.out P4.out (aI hB0 B15) [(0,.bool R.neg),(1,.slice a15 R.num.length c15),(2,.slice d15 R.den.length e15)]⟩
end
structure bP where
 sort:Int
 bool:Bool
 num:cE
 el:Int
structure kY where
 args:List bP
 val:bP
structure mU where
 name:ByteArray
 rows:List kY
 els:bP
abbrev iF:=List mU
def yE:cE:=⟨false,[],[1]⟩
def bZ:bP:=⟨0,false,dC,0⟩
def zeroV (s:Int):bP:=⟨s,false,if s=1 then yE else dC,0⟩
def iE (a b:cE):Bool:=a.neg == b.neg && (decide (a.num=b.num) && decide (a.den=b.den))
def iQ (a b:bP):Bool:=decide (a.sort=b.sort) && (if a.sort=0 then a.bool == b.bool else if a.sort=1 then iE a.num b.num else decide (a.el=b.el))
def mJ:mU:=⟨ByteArray.empty,[],bZ⟩
def eC (m:iF) (nm:ByteArray):Option mU:=m.find? fun t=>nQ t.name nm
def jU:List bP->List bP->Bool
 | [],[]=>true
 | a :: l,b :: m=>iQ a b && jU l m
 | _,_=>false
def rowIs (args:List bP) (r:kY):Bool:=jU r.args args
def dZ (t:mU) (args:List bP):bP:=match t.rows.find? (rowIs args) with
 | some r=>r.val
 | none=>t.els
def fP:bV bP:=bV.map (fun v=>(v.sort,v.bool,v.num,v.el)) (.prod .int (.prod .bool (.prod aKp .int)))
def fQ:bV kY:=bV.map (fun r=>(r.args,r.val)) (.prod (.slice fP) fP)
def lT:bV mU:=bV.map (fun t=>(t.name,t.rows,t.els)) (.prod .str (.prod (.slice fQ) fP))
structure dI (S:Nat->Prop) (w:World) (v:bP) (a:Option Addr) (c:Nat) (b:Option Addr) (d:Nat):Prop where
 sort:fG v.sort
 el:fG v.el
 num:bJ bV.u64 S w a v.num.num.length v.num.num
 nc:v.num.num.length<=c/\c<=maxLen
 den:bJ bV.u64 S w b v.num.den.length v.num.den
 dc:v.num.den.length<=d/\d<=maxLen
def qU (v:bP) (a:Option Addr) (c:Nat) (b:Option Addr) (d:Nat):List Value:=[.int .i64 v.sort,.bool v.bool,.bool v.num.neg,.slice a v.num.num.length c,.slice b v.num.den.length d,.int .i64 v.el]
abbrev jV (v:bP) (a:Option Addr) (c:Nat) (b:Option Addr) (d:Nat):Value:=.agg #[.int .i64 v.sort,.bool v.bool,.bool v.num.neg,.slice a v.num.num.length c,.slice b v.num.den.length d,.int .i64 v.el]
section
variable {S S' : Nat -> Prop} {w w' : World} {v : bP} {cs : List Value} {a b : Option Addr} {c d : Nat}
theorem kM:fP.rd S w v cs↔∃a c b d,cs=qU v a c b d/\dI S w v a c b d:=by
 constructor
 ·rintro ⟨p,q,rfl,⟨h1,h1'⟩,p',q',rfl,h2,p2,q2,rfl,h3,h4,h4'⟩;obtain ⟨a,n,c,b,k,d,rfl,r1,r2,r3,r4,r5,r6⟩:=tA.1 h3;have h1:p = [.int .i64 v.sort]:=h1;have h2:p' = [.bool v.bool]:=h2;have h4:q2 = [.int .i64 v.el]:=h4;subst h1 h2 h4;obtain rfl:=r3.1;obtain rfl:=r6.1;exact⟨a,c,b,d,rfl,h1',h4',r3,⟨r1,r2⟩,r6,⟨r4,r5⟩⟩
 ·rintro ⟨a,c,b,d,rfl,h⟩;exact⟨[.int .i64 v.sort],_,rfl,⟨rfl,h.sort⟩,[.bool v.bool],_,rfl,rfl,[.bool v.num.neg,.slice a v.num.num.length c,.slice b v.num.den.length d],[.int .i64 v.el],rfl,tA.2 ⟨a,_,c,b,_,d,rfl,h.nc.1,h.nc.2,h.num,h.dc.1,h.dc.2,h.den⟩,rfl,h.el⟩
theorem dI.keep (h:dI S w v a c b d) (hk:∀k,k<w.heap.size->S k->w'.heap[k]? = w.heap[k]?) (hs:w.heap.size<=w'.heap.size):dI S w' v a c b d:=⟨h.sort,h.el,h.num.keep hk hs,h.nc,h.den.keep hk hs,h.dc⟩
theorem dI.mono (h:dI S w v a c b d) (hk:∀k,k<w.heap.size->S k->S' k):dI S' w v a c b d:=⟨h.sort,h.el,h.num.mono hk,h.nc,h.den.mono hk,h.dc⟩
theorem dI.below {B:Nat} (h:dI S w v a c b d) (hb:Below B w w') (hB:w.heap.size<=B):dI S w' v a c b d:=h.keep (fun k hk _=>hb.block k (bN hk hB)) hb.size
theorem kV {a b:cE}:iE a b=true↔a=b:=by
 obtain ⟨a1,a2,a3⟩:=a;obtain ⟨b1,b2,b3⟩:=b;unfold iE;simp only [Bool.and_eq_true,beq_iff_eq,decide_eq_true_eq,cE.mk.injEq]
end
end Go.Proofs.YtgoojkiccdjplaaGreatDoor
