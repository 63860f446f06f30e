/-
  Parts of this claim's texts, one behind the other: BD. No condition.
-/
import Derived.Test.YtgoojkiccdjplaaGreatDoorN7
set_option linter.unusedVariables false
set_option linter.unusedSimpArgs false
set_option maxRecDepth 100000
set_option maxHeartbeats 16000000
namespace Go.Proofs.YtgoojkiccdjplaaGreatDoor
open Go.RowKit Go.Sort Go.Lib
theorem bE {n:Nat} (h:n<18446744073709551616):IntKind.u64.wrap (n:Int)=n:=wraps_u64 _ (by omega) (by omega)
theorem lQ (x s:Nat):((x:Int) * 2 ^ s)=((x * 2 ^ s:Nat):Int):=by simp
theorem lR (x s:Nat):((x:Int) / 2 ^ s)=((x / 2 ^ s:Nat):Int):=by simp
theorem aC3 (x:Nat) (hx:x<18446744073709551616):bits .and .u64 (x:Int) 4294967295=((x % 4294967296:Nat):Int):=by
 have h:=(bits_nat .u64 64 (by decide) wraps_u64 x 4294967295 (by simpa using hx) (by decide)).1;rw [show((4294967295:Nat):Int)=4294967295 from rfl] at h;rw [h,show(4294967295:Nat)=2 ^ 32 - 1 from rfl,Nat.and_two_pow_sub_one_eq_mod]
theorem aI1 (a b s:Nat) (hb:b<2 ^ s) (ha:a * 2 ^ s<18446744073709551616) (hb2:b<18446744073709551616):bits .or .u64 ((a * 2 ^ s:Nat):Int) (b:Int)=((a * 2 ^ s+b:Nat):Int):=by
 rw [(bits_nat .u64 64 (by decide) wraps_u64 (a * 2 ^ s) b (by simpa using ha) (by simpa using hb2)).2];rw [<-Nat.shiftLeft_eq,<-Nat.shiftLeft_add_eq_or_of_lt hb]
theorem half_start {u v y1 y0 y:Nat} (hy:y=y1 * 4294967296+y0) (hv:v<4294967296) (hp:0<y1) (hl:y1<4294967296) (hu:u<18446744073709551616) :
  ∃q r:Nat,IntKind.u64.wrap ((u:Int) / y1)=q/\IntKind.u64.wrap ((u:Int) - IntKind.u64.wrap ((q:Int) * y1))=r/\q * y1+r=u/\r<4294967296/\(u * 4294967296+v) / y<=q/\q<=u:=by
 have h:=Nat.mod_add_div u y1;have h2:=Nat.mod_lt u hp;have hd:u / y1<=u:=Nat.div_le_self _ _;refine⟨u / y1,u % y1,?_,?_,by rw [Nat.mul_comm];omega,by omega,aBw hv (by rw [<-hy];exact Nat.div_mul_le_self _ _) hp,hd⟩
 ·rw [show((u:Int) / y1)=((u / y1:Nat):Int) by simp,bE (by omega)]
 ·rw [show(((u / y1:Nat):Int) * y1)=((y1 * (u / y1):Nat):Int) by rw [Nat.mul_comm];simp];generalize y1 * (u / y1)=X at *;rw [bE (by omega),show((u:Int) - X)=((u % y1:Nat):Int) by omega,bE (by omega)]
theorem aD1 {u v y:Nat} (hp:0<y) (hl:y<18446744073709551616):IntKind.u64.wrap (IntKind.u64.wrap (IntKind.u64.wrap ((u:Int) * 4294967296)+v) - IntKind.u64.wrap ((((u * 4294967296+v) / y:Nat):Int) * y))=(((u * 4294967296+v) % y:Nat):Int):=by
 have h:=Nat.mod_add_div (u * 4294967296+v) y;have h2:=Nat.mod_lt (u * 4294967296+v) hp;rw [show((((u * 4294967296+v) / y:Nat):Int) * y)=((y * ((u * 4294967296+v) / y):Nat):Int) from(Int.natCast_mul _ _).symm.trans (congrArg Nat.cast (Nat.mul_comm _ _))];generalize y * ((u * 4294967296+v) / y)=X at *;generalize (u * 4294967296+v) % y=R at *;simp only [IntKind.wrap_u64];omega
theorem vZ {u v y1 y0 y:Nat} (hy:y=y1 * 4294967296+y0) (hv:v<4294967296) (hp:0<y1) (hl:y1<4294967296) (hyl:y<18446744073709551616) (hu:u<y) :
  ∃Q R q r:Nat,Q=(u * 4294967296+v) / y/\R=(u * 4294967296+v) % y/\R<y/\(IntKind.u64.wrap ((u:Int) / y1)=q/\IntKind.u64.wrap ((u:Int) - IntKind.u64.wrap ((q:Int) * y1))=r/\q * y1+r=u/\r<4294967296/\Q<=q/\q<=u)/\Q * y<=u * 4294967296+v /\
   IntKind.u64.wrap (IntKind.u64.wrap (IntKind.u64.wrap ((u:Int) * 4294967296)+v) - IntKind.u64.wrap ((Q:Int) * y))=R/\∀q,Q<=q->q * y<=u * 4294967296+v->q=Q:=by
 have hyp:0<y:=by omega
 obtain ⟨q,r,h⟩:=half_start hy hv hp hl (Nat.lt_trans hu hyl);exact⟨_,_,q,r,rfl,rfl,Nat.mod_lt _ hyp,h,Nat.div_mul_le_self _ _,aD1 hyp hyl,fun q h1 h2=>aFz h1 h2 hyp⟩
theorem qN {q y0:Nat} (h1:q<4294967296) (h2:y0<4294967296):IntKind.u64.wrap ((q:Int) * y0)=((q * y0:Nat):Int):=by
 have:q * y0<4294967296 * 4294967296:=Nat.mul_lt_mul'' h1 h2;rw [show((q:Int) * y0)=((q * y0:Nat):Int) by simp,bE (by omega)]
theorem qO {rh v:Nat} (h1:rh<4294967296) (h2:v<4294967296):∃z m:Nat,IntKind.u64.wrap (4294967296 * (rh:Int))=z/\IntKind.u64.wrap ((z:Int)+v)=m/\m=4294967296 * rh+v:=
 ⟨4294967296 * rh,4294967296 * rh+v,by simp only [IntKind.wrap_u64];omega,by simp only [IntKind.wrap_u64];omega,rfl⟩
def nB (h l y:Nat):Nat:=(h * 18446744073709551616+l) / y
def rO (h l y:Nat):Nat:=(h * 18446744073709551616+l) % y
theorem wD (h l y:Nat) (w:World) (hh:h<y) (hy:y<18446744073709551616) (hl:l<18446744073709551616) :
  Calls Tryz.prog 236 #[.int .u64 h,.int .u64 l,.int .u64 y] w fun e w'=>e = .returned (.tuple #[.int .u64 (nB h l y:Nat),.int .u64 (rO h l y:Nat)])/\∃q,w'=w.drewN q:=by
 have h0:¬((y:Int)=0):=by omega
 have h0b:((y:Int) == 0)=false:=by simpa using h0
 have h1:¬((y:Int)<=h):=by omega
 by_cases hz:h=0
 ·subst hz;have e1:IntKind.u64.wrap ((l:Int) / y)=((l / y:Nat):Int):=by
   rw [show((l:Int) / y)=((l / y:Nat):Int) by simp];exact bE (Nat.lt_of_le_of_lt (Nat.div_le_self _ _) hl)
  go_enter Tryz.func236,Tryz.ntmps236
  go_wp2
  go_quiet (fail)
  go_wp2;go_ret2;refine⟨?_,nq,rfl⟩;unfold nB rO;rw [Nat.zero_mul,Nat.zero_add];simp
 ·have hzi:¬((h:Int)=0):=by omega
  have hzb:((h:Int) == 0)=false:=by simpa using hzi
  obtain ⟨s,hs,hL,n1,n2⟩:=aBx (by omega) hy;have hlz:=Tryz.bits_LeadingZeros64 y w (by omega) (by omega);rw [show(64 - (Go.Lib.bitLen ((y:Int).toNat):Int))=s from by rw [Int.toNat_natCast,hL];omega] at hlz;have hlz':=hid hlz;have P:=aNa hh hl hs n1 n2;have hmin:min s 64=s:=by omega
  have hb3:(h+1) * 2 ^ s<=y * 2 ^ s:=Nat.mul_le_mul_right _ hh;rw [Nat.add_mul,Nat.one_mul] at hb3;have hps:=Nat.two_pow_pos s;have e1:IntKind.u64.wrap (s:Int)=s:=bE (by omega);have e2:IntKind.u64.wrap ((y:Int) * 2 ^ s)=((y * 2 ^ s:Nat):Int):=by rw [lQ,bE n2]
  have e3:((y * 2 ^ s:Nat):Int) / 4294967296=((y * 2 ^ s / 4294967296:Nat):Int):=by omega
  have e4:=aC3 (y * 2 ^ s) n2;have e5:IntKind.u64.wrap ((h:Int) * 2 ^ s)=((h * 2 ^ s:Nat):Int):=by rw [lQ,bE (by omega)]
  have e6:IntKind.u64.wrap (64 - (s:Int))=((64 - s:Nat):Int):=by rw [show(64 - (s:Int))=((64 - s:Nat):Int) by omega,bE (by omega)]
  have e7:=lR l (64 - s);have hup:=(qL (x:=l) (k:=s) hl hs).2;have e8:=aI1 h (l / 2 ^ (64 - s)) s hup (by omega) (Nat.lt_of_le_of_lt (Nat.div_le_self _ _) hl);have e9:IntKind.u64.wrap ((l:Int) * 2 ^ s)=((l * 2 ^ s % 18446744073709551616:Nat):Int):=by rw [lQ,IntKind.wrap_u64];omega
  have e10:((l * 2 ^ s % 18446744073709551616:Nat):Int) / 4294967296=((l * 2 ^ s % 18446744073709551616 / 4294967296:Nat):Int):=by omega
  have e11:=aC3 (l * 2 ^ s % 18446744073709551616) (Nat.mod_lt _ (by decide));generalize l * 2 ^ s % 18446744073709551616 / 4294967296=un1 at *;generalize l * 2 ^ s % 18446744073709551616 % 4294967296=un0 at *;generalize l * 2 ^ s % 18446744073709551616=un10 at *;generalize h * 2 ^ s+l / 2 ^ (64 - s)=un32 at *;generalize l / 2 ^ (64 - s)=lt at *;generalize h * 2 ^ s=hss at *;generalize y * 2 ^ s / 4294967296=yn1 at *;generalize y * 2 ^ s % 4294967296=yn0 at *;generalize y * 2 ^ s=y2 at *;have ht:min (64 - s) 64=64 - s:=by omega
  generalize 64 - s=t at *;have PP:=hid P;have y1n:¬((yn1:Int)=0):=by have:=P.y1p;omega
  have y1b:((yn1:Int) == 0)=false:=by simpa using y1n
  have hyp:0<y2:=by have:=P.y1p;have:=P.yn;omega
  have hyl:=P.y2l;have hul:=P.unl;have hyn:=hid P.yn;have hy0:=P.y0l;have hv1:=P.u1;have hv0:=P.u0;have hy1l:=P.y1l;have hall:=P.all;obtain ⟨Q1,R1,q0,r0,E1,E2,hrl,⟨a1,a2,a3,a4,a5,a6⟩,hQq,a7,qe⟩:=vZ P.yn hv1 (by have:=P.y1p;omega) hy1l hyl hul;obtain ⟨Q0,R0,q00,r00,E3,E4,_,⟨b1,b2,b3,b4,b5,b6⟩,hQq0,b7,qe0⟩:=vZ P.yn hv0 (by have:=P.y1p;omega) hy1l hyl hrl;rw [<-E1,<-E2,<-E3,<-E4] at hall;have hQ:=hid hQq;have hQ0:=hid hQq0;have QE:=hid qe;have QE0:=hid qe0;clear E1 E2 E3 E4;have hdl:(h * 18446744073709551616+l) / y<18446744073709551616:=by
   refine Nat.div_lt_of_lt_mul ?_;have:(h+1) * 18446744073709551616<=y * 18446744073709551616:=Nat.mul_le_mul_right _ hh;omega
  have c1:IntKind.u64.wrap (IntKind.u64.wrap ((Q1:Int) * 4294967296)+Q0)=(nB h l y:Nat):=by
   unfold nB;rw [<-hall.1] at hdl ⊢;simp only [IntKind.wrap_u64];omega
  have c2:(R0:Int) / 2 ^ s=(rO h l y:Nat):=by
   unfold rO;rw [lR,hall.2,Nat.mul_div_cancel _ hps]
  have C2:=hid c2;have c4:IntKind.u64.wrap ((nB h l y:Nat):Int)=(nB h l y:Nat):=bE hdl;have c3':((Q1:Int) * 4294967296+Q0)=(nB h l y:Nat):=by
   unfold nB;rw [<-hall.1];simp
  have A3:=hid a3;have B3:=hid b3;have A5:=hid a5;have B5:=hid b5;clear hlz P hup n1 n2 hb3 hps hL hz hall qe qe0 c2 a3 b3 a5 b5 hdl hQq hQq0;go_enter Tryz.func236,Tryz.ntmps236
  go_wp2_with fail
  refine hlz'.out.mono ?_;rintro e w' ⟨rfl,rfl⟩;go_wp2
  go_loopw [15,16] (fun vq vr wz=>∃q rh:Nat,vq = .int .u64 q/\vr = .int .u64 rh/\Hid (q * yn1+rh=un32)/\Hid (Q1<=q)/\rh<4294967296/\q<=un32/\wz=w') (fun vq vr _=>(intOf vq).toNat)
  case atStart=>exact⟨q0,r0,rfl,rfl,A3.out,A5.out,a4,a6,rfl⟩
  case round=>
   obtain ⟨q,rh,rfl,rfl,hi,hle,hrh,hqu,rfl⟩:=hrel;have hun:un32<18446744073709551616:=by omega
   by_cases c0:4294967296<=q
   case neg=>
    have f1:=qN (q:=q) (y0:=yn0) (by omega) hy0;obtain ⟨z2,m2,f2a,f2,hm2⟩:∃z m:Nat,IntKind.u64.wrap (4294967296 * (rh:Int))=z/\IntKind.u64.wrap ((z:Int)+un1)=m/\m=4294967296 * rh+un1:=qO hrh hv1;have hst:=hid (show q * yn0<=m2->q * y2<=un32 * 4294967296+un1 from fun h=>by have:=lP (v:=un1) hi.out (by rw [<-hm2];exact h);rw [<-hyn.out] at this;exact this);have hnx:=hid (show m2<q * yn0->0<q/\Q1<=q - 1 from fun h=>iN hyn.out hv1 hQ.out (by omega) hi.out hle.out (.inr (by rw [<-hm2];exact h)));clear hm2;have c0i:¬((4294967296:Int)<=q):=by omega
    generalize q * yn0=m1 at *;by_cases c2:m2<m1
    case neg=>
     have c2i:¬((m2:Int)<m1):=by omega
     obtain rfl:q=Q1:=QE.out q hle.out (hst.out (by omega));go_wp2
     go_loopw [16,18] (fun vr vq wz=>∃q rh:Nat,vq = .int .u64 q/\vr = .int .u64 rh/\Hid (q * yn1+rh=R1)/\Hid (Q0<=q)/\rh<4294967296/\q<=R1/\wz=wr) (fun vr vq _=>(intOf vq).toNat)
     case atStart=>exact⟨q00,r00,rfl,rfl,B3.out,B5.out,b4,b6,rfl⟩
     case round=>
      obtain ⟨q,rh,rfl,rfl,hi,hle,hrh,hqu,rfl⟩:=hrel;have hun:R1<18446744073709551616:=by omega
      by_cases c0:4294967296<=q
      case neg=>
       have f1:=qN (q:=q) (y0:=yn0) (by omega) hy0;obtain ⟨z2,m2,f2a,f2,hm2⟩:∃z m:Nat,IntKind.u64.wrap (4294967296 * (rh:Int))=z/\IntKind.u64.wrap ((z:Int)+un0)=m/\m=4294967296 * rh+un0:=qO hrh hv0;have hst:=hid (show q * yn0<=m2->q * y2<=R1 * 4294967296+un0 from fun h=>by have:=lP (v:=un0) hi.out (by rw [<-hm2];exact h);rw [<-hyn.out] at this;exact this);have hnx:=hid (show m2<q * yn0->0<q/\Q0<=q - 1 from fun h=>iN hyn.out hv0 hQ0.out (by omega) hi.out hle.out (.inr (by rw [<-hm2];exact h)));clear hm2;have c0i:¬((4294967296:Int)<=q):=by omega
       generalize q * yn0=m1 at *;by_cases c2:m2<m1
       case neg=>
        have c2i:¬((m2:Int)<m1):=by omega
        obtain rfl:q=Q0:=QE0.out q hle.out (hst.out (by omega));go_wp2;go_ret2;exact⟨by rw [C2.out];rfl,0,rfl⟩
       case pos=>
        have c2i:(m2:Int)<m1:=by omega
        obtain ⟨hp,hnl⟩:=hnx.out c2;clear hst hnx;obtain ⟨p,hpq⟩:∃p,q=p+1:=⟨q - 1,by omega⟩;have g1:IntKind.u64.wrap ((q:Int) - 1)=(p:Int):=by rw [show((q:Int) - 1)=(p:Int) by omega,bE (by omega)]
        have g2:IntKind.u64.wrap ((rh:Int)+yn1)=((rh+yn1:Nat):Int):=by rw [show((rh:Int)+yn1)=((rh+yn1:Nat):Int) by simp,bE (by omega)]
        have hi2:=hid (show p * yn1+(rh+yn1)=R1 from by have:=hi.out;rw [hpq,Nat.add_mul,Nat.one_mul] at this;omega);have hnl':=hid (show Q0<=p by omega);have hpl:=hid (show p<q/\p<=R1 from by omega);clear hpq;clear hi hle hnl;by_cases c3:4294967296<=rh+yn1
        case neg=>
         have c3i:¬((4294967296:Int)<=(rh:Int)+yn1):=by omega
         go_wp2
         go_roundw
         case rel=>exact⟨p,rh+yn1,by go_num,by go_num,hi2.out,hnl'.out,by omega,hpl.out.2,trivial⟩
         case measure=>have:=hpl.out.1;first | (simp [intOf];omega) | (simp [intOf];done)
        case pos=>
         have c3i:(4294967296:Int)<=(rh:Int)+yn1:=by omega
         obtain rfl:p=Q0:=QE0.out p hnl'.out (by have:=iO (v:=un0) hi2.out c3 (by rw [<-hyn.out];omega) hy0;rw [<-hyn.out] at this;exact this);go_wp2;go_ret2;exact⟨by rw [C2.out];rfl,0,rfl⟩
      case pos=>
       have c0i:(4294967296:Int)<=q:=by omega
       obtain ⟨hp,hnl⟩:=iN hyn.out hv0 hQ0.out (by omega) hi.out hle.out (.inl c0);obtain ⟨p,hpq⟩:∃p,q=p+1:=⟨q - 1,by omega⟩;have g1:IntKind.u64.wrap ((q:Int) - 1)=(p:Int):=by rw [show((q:Int) - 1)=(p:Int) by omega,bE (by omega)]
       have g2:IntKind.u64.wrap ((rh:Int)+yn1)=((rh+yn1:Nat):Int):=by rw [show((rh:Int)+yn1)=((rh+yn1:Nat):Int) by simp,bE (by omega)]
       have hi2:=hid (show p * yn1+(rh+yn1)=R1 from by have:=hi.out;rw [hpq,Nat.add_mul,Nat.one_mul] at this;omega);have hnl':=hid (show Q0<=p by omega);have hpl:=hid (show p<q/\p<=R1 from by omega);clear hpq;clear hi hle hnl;by_cases c3:4294967296<=rh+yn1
       case neg=>
        have c3i:¬((4294967296:Int)<=(rh:Int)+yn1):=by omega
        go_wp2
        go_roundw
        case rel=>exact⟨p,rh+yn1,by go_num,by go_num,hi2.out,hnl'.out,by omega,hpl.out.2,trivial⟩
        case measure=>have:=hpl.out.1;first | (simp [intOf];omega) | (simp [intOf];done)
       case pos=>
        have c3i:(4294967296:Int)<=(rh:Int)+yn1:=by omega
        obtain rfl:p=Q0:=QE0.out p hnl'.out (by have:=iO (v:=un0) hi2.out c3 (by rw [<-hyn.out];omega) hy0;rw [<-hyn.out] at this;exact this);go_wp2;go_ret2;exact⟨by rw [C2.out];rfl,0,rfl⟩
    case pos=>
     have c2i:(m2:Int)<m1:=by omega
     obtain ⟨hp,hnl⟩:=hnx.out c2;clear hst hnx;obtain ⟨p,hpq⟩:∃p,q=p+1:=⟨q - 1,by omega⟩;have g1:IntKind.u64.wrap ((q:Int) - 1)=(p:Int):=by rw [show((q:Int) - 1)=(p:Int) by omega,bE (by omega)]
     have g2:IntKind.u64.wrap ((rh:Int)+yn1)=((rh+yn1:Nat):Int):=by rw [show((rh:Int)+yn1)=((rh+yn1:Nat):Int) by simp,bE (by omega)]
     have hi2:=hid (show p * yn1+(rh+yn1)=un32 from by have:=hi.out;rw [hpq,Nat.add_mul,Nat.one_mul] at this;omega);have hnl':=hid (show Q1<=p by omega);have hpl:=hid (show p<q/\p<=un32 from by omega);clear hpq;clear hi hle hnl;by_cases c3:4294967296<=rh+yn1
     case neg=>
      have c3i:¬((4294967296:Int)<=(rh:Int)+yn1):=by omega
      go_wp2
      go_roundw
      case rel=>exact⟨p,rh+yn1,by go_num,by go_num,hi2.out,hnl'.out,by omega,hpl.out.2,trivial⟩
      case measure=>have:=hpl.out.1;first | (simp [intOf];omega) | (simp [intOf];done)
     case pos=>
      have c3i:(4294967296:Int)<=(rh:Int)+yn1:=by omega
      obtain rfl:p=Q1:=QE.out p hnl'.out (by have:=iO (v:=un1) hi2.out c3 (by rw [<-hyn.out];omega) hy0;rw [<-hyn.out] at this;exact this);go_wp2
      go_loopw [16,18] (fun vr vq wz=>∃q rh:Nat,vq = .int .u64 q/\vr = .int .u64 rh/\Hid (q * yn1+rh=R1)/\Hid (Q0<=q)/\rh<4294967296/\q<=R1/\wz=wr) (fun vr vq _=>(intOf vq).toNat)
      case atStart=>exact⟨q00,r00,rfl,rfl,B3.out,B5.out,b4,b6,rfl⟩
      case round=>
       obtain ⟨q,rh,rfl,rfl,hi,hle,hrh,hqu,rfl⟩:=hrel;have hun:R1<18446744073709551616:=by omega
       by_cases c0:4294967296<=q
       case neg=>
        have f1:=qN (q:=q) (y0:=yn0) (by omega) hy0;obtain ⟨z2,m2,f2a,f2,hm2⟩:∃z m:Nat,IntKind.u64.wrap (4294967296 * (rh:Int))=z/\IntKind.u64.wrap ((z:Int)+un0)=m/\m=4294967296 * rh+un0:=qO hrh hv0;have hst:=hid (show q * yn0<=m2->q * y2<=R1 * 4294967296+un0 from fun h=>by have:=lP (v:=un0) hi.out (by rw [<-hm2];exact h);rw [<-hyn.out] at this;exact this);have hnx:=hid (show m2<q * yn0->0<q/\Q0<=q - 1 from fun h=>iN hyn.out hv0 hQ0.out (by omega) hi.out hle.out (.inr (by rw [<-hm2];exact h)));clear hm2;have c0i:¬((4294967296:Int)<=q):=by omega
        generalize q * yn0=m1 at *;by_cases c2:m2<m1
        case neg=>
         have c2i:¬((m2:Int)<m1):=by omega
         obtain rfl:q=Q0:=QE0.out q hle.out (hst.out (by omega));go_wp2;go_ret2;exact⟨by rw [C2.out];rfl,0,rfl⟩
        case pos=>
         have c2i:(m2:Int)<m1:=by omega
         obtain ⟨hp,hnl⟩:=hnx.out c2;clear hst hnx;obtain ⟨p,hpq⟩:∃p,q=p+1:=⟨q - 1,by omega⟩;have g1:IntKind.u64.wrap ((q:Int) - 1)=(p:Int):=by rw [show((q:Int) - 1)=(p:Int) by omega,bE (by omega)]
         have g2:IntKind.u64.wrap ((rh:Int)+yn1)=((rh+yn1:Nat):Int):=by rw [show((rh:Int)+yn1)=((rh+yn1:Nat):Int) by simp,bE (by omega)]
         have hi2:=hid (show p * yn1+(rh+yn1)=R1 from by have:=hi.out;rw [hpq,Nat.add_mul,Nat.one_mul] at this;omega);have hnl':=hid (show Q0<=p by omega);have hpl:=hid (show p<q/\p<=R1 from by omega);clear hpq;clear hi hle hnl;by_cases c3:4294967296<=rh+yn1
         case neg=>
          have c3i:¬((4294967296:Int)<=(rh:Int)+yn1):=by omega
          go_wp2
          go_roundw
          case rel=>exact⟨p,rh+yn1,by go_num,by go_num,hi2.out,hnl'.out,by omega,hpl.out.2,trivial⟩
          case measure=>have:=hpl.out.1;first | (simp [intOf];omega) | (simp [intOf];done)
         case pos=>
          have c3i:(4294967296:Int)<=(rh:Int)+yn1:=by omega
          obtain rfl:p=Q0:=QE0.out p hnl'.out (by have:=iO (v:=un0) hi2.out c3 (by rw [<-hyn.out];omega) hy0;rw [<-hyn.out] at this;exact this);go_wp2;go_ret2;exact⟨by rw [C2.out];rfl,0,rfl⟩
       case pos=>
        have c0i:(4294967296:Int)<=q:=by omega
        obtain ⟨hp,hnl⟩:=iN hyn.out hv0 hQ0.out (by omega) hi.out hle.out (.inl c0);obtain ⟨p,hpq⟩:∃p,q=p+1:=⟨q - 1,by omega⟩;have g1:IntKind.u64.wrap ((q:Int) - 1)=(p:Int):=by rw [show((q:Int) - 1)=(p:Int) by omega,bE (by omega)]
        have g2:IntKind.u64.wrap ((rh:Int)+yn1)=((rh+yn1:Nat):Int):=by rw [show((rh:Int)+yn1)=((rh+yn1:Nat):Int) by simp,bE (by omega)]
        have hi2:=hid (show p * yn1+(rh+yn1)=R1 from by have:=hi.out;rw [hpq,Nat.add_mul,Nat.one_mul] at this;omega);have hnl':=hid (show Q0<=p by omega);have hpl:=hid (show p<q/\p<=R1 from by omega);clear hpq;clear hi hle hnl;by_cases c3:4294967296<=rh+yn1
        case neg=>
         have c3i:¬((4294967296:Int)<=(rh:Int)+yn1):=by omega
         go_wp2
         go_roundw
         case rel=>exact⟨p,rh+yn1,by go_num,by go_num,hi2.out,hnl'.out,by omega,hpl.out.2,trivial⟩
         case measure=>have:=hpl.out.1;first | (simp [intOf];omega) | (simp [intOf];done)
        case pos=>
         have c3i:(4294967296:Int)<=(rh:Int)+yn1:=by omega
         obtain rfl:p=Q0:=QE0.out p hnl'.out (by have:=iO (v:=un0) hi2.out c3 (by rw [<-hyn.out];omega) hy0;rw [<-hyn.out] at this;exact this);go_wp2;go_ret2;exact⟨by rw [C2.out];rfl,0,rfl⟩
   case pos=>
    have c0i:(4294967296:Int)<=q:=by omega
    obtain ⟨hp,hnl⟩:=iN hyn.out hv1 hQ.out (by omega) hi.out hle.out (.inl c0);obtain ⟨p,hpq⟩:∃p,q=p+1:=⟨q - 1,by omega⟩;have g1:IntKind.u64.wrap ((q:Int) - 1)=(p:Int):=by rw [show((q:Int) - 1)=(p:Int) by omega,bE (by omega)]
    have g2:IntKind.u64.wrap ((rh:Int)+yn1)=((rh+yn1:Nat):Int):=by rw [show((rh:Int)+yn1)=((rh+yn1:Nat):Int) by simp,bE (by omega)]
    have hi2:=hid (show p * yn1+(rh+yn1)=un32 from by have:=hi.out;rw [hpq,Nat.add_mul,Nat.one_mul] at this;omega);have hnl':=hid (show Q1<=p by omega);have hpl:=hid (show p<q/\p<=un32 from by omega);clear hpq;clear hi hle hnl;by_cases c3:4294967296<=rh+yn1
    case neg=>
     have c3i:¬((4294967296:Int)<=(rh:Int)+yn1):=by omega
     go_wp2
     go_roundw
     case rel=>exact⟨p,rh+yn1,by go_num,by go_num,hi2.out,hnl'.out,by omega,hpl.out.2,trivial⟩
     case measure=>have:=hpl.out.1;first | (simp [intOf];omega) | (simp [intOf];done)
    case pos=>
     have c3i:(4294967296:Int)<=(rh:Int)+yn1:=by omega
     obtain rfl:p=Q1:=QE.out p hnl'.out (by have:=iO (v:=un1) hi2.out c3 (by rw [<-hyn.out];omega) hy0;rw [<-hyn.out] at this;exact this);go_wp2
     go_loopw [16,18] (fun vr vq wz=>∃q rh:Nat,vq = .int .u64 q/\vr = .int .u64 rh/\Hid (q * yn1+rh=R1)/\Hid (Q0<=q)/\rh<4294967296/\q<=R1/\wz=wr) (fun vr vq _=>(intOf vq).toNat)
     case atStart=>exact⟨q00,r00,rfl,rfl,B3.out,B5.out,b4,b6,rfl⟩
     case round=>
      obtain ⟨q,rh,rfl,rfl,hi,hle,hrh,hqu,rfl⟩:=hrel;have hun:R1<18446744073709551616:=by omega
      by_cases c0:4294967296<=q
      case neg=>
       have f1:=qN (q:=q) (y0:=yn0) (by omega) hy0;obtain ⟨z2,m2,f2a,f2,hm2⟩:∃z m:Nat,IntKind.u64.wrap (4294967296 * (rh:Int))=z/\IntKind.u64.wrap ((z:Int)+un0)=m/\m=4294967296 * rh+un0:=qO hrh hv0;have hst:=hid (show q * yn0<=m2->q * y2<=R1 * 4294967296+un0 from fun h=>by have:=lP (v:=un0) hi.out (by rw [<-hm2];exact h);rw [<-hyn.out] at this;exact this);have hnx:=hid (show m2<q * yn0->0<q/\Q0<=q - 1 from fun h=>iN hyn.out hv0 hQ0.out (by omega) hi.out hle.out (.inr (by rw [<-hm2];exact h)));clear hm2;have c0i:¬((4294967296:Int)<=q):=by omega
       generalize q * yn0=m1 at *;by_cases c2:m2<m1
       case neg=>
        have c2i:¬((m2:Int)<m1):=by omega
        obtain rfl:q=Q0:=QE0.out q hle.out (hst.out (by omega));go_wp2;go_ret2;exact⟨by rw [C2.out];rfl,0,rfl⟩
       case pos=>
        have c2i:(m2:Int)<m1:=by omega
        obtain ⟨hp,hnl⟩:=hnx.out c2;clear hst hnx;obtain ⟨p,hpq⟩:∃p,q=p+1:=⟨q - 1,by omega⟩;have g1:IntKind.u64.wrap ((q:Int) - 1)=(p:Int):=by rw [show((q:Int) - 1)=(p:Int) by omega,bE (by omega)]
        have g2:IntKind.u64.wrap ((rh:Int)+yn1)=((rh+yn1:Nat):Int):=by rw [show((rh:Int)+yn1)=((rh+yn1:Nat):Int) by simp,bE (by omega)]
        have hi2:=hid (show p * yn1+(rh+yn1)=R1 from by have:=hi.out;rw [hpq,Nat.add_mul,Nat.one_mul] at this;omega);have hnl':=hid (show Q0<=p by omega);have hpl:=hid (show p<q/\p<=R1 from by omega);clear hpq;clear hi hle hnl;by_cases c3:4294967296<=rh+yn1
        case neg=>
         have c3i:¬((4294967296:Int)<=(rh:Int)+yn1):=by omega
         go_wp2
         go_roundw
         case rel=>exact⟨p,rh+yn1,by go_num,by go_num,hi2.out,hnl'.out,by omega,hpl.out.2,trivial⟩
         case measure=>have:=hpl.out.1;first | (simp [intOf];omega) | (simp [intOf];done)
        case pos=>
         have c3i:(4294967296:Int)<=(rh:Int)+yn1:=by omega
         obtain rfl:p=Q0:=QE0.out p hnl'.out (by have:=iO (v:=un0) hi2.out c3 (by rw [<-hyn.out];omega) hy0;rw [<-hyn.out] at this;exact this);go_wp2;go_ret2;exact⟨by rw [C2.out];rfl,0,rfl⟩
      case pos=>
       have c0i:(4294967296:Int)<=q:=by omega
       obtain ⟨hp,hnl⟩:=iN hyn.out hv0 hQ0.out (by omega) hi.out hle.out (.inl c0);obtain ⟨p,hpq⟩:∃p,q=p+1:=⟨q - 1,by omega⟩;have g1:IntKind.u64.wrap ((q:Int) - 1)=(p:Int):=by rw [show((q:Int) - 1)=(p:Int) by omega,bE (by omega)]
       have g2:IntKind.u64.wrap ((rh:Int)+yn1)=((rh+yn1:Nat):Int):=by rw [show((rh:Int)+yn1)=((rh+yn1:Nat):Int) by simp,bE (by omega)]
       have hi2:=hid (show p * yn1+(rh+yn1)=R1 from by have:=hi.out;rw [hpq,Nat.add_mul,Nat.one_mul] at this;omega);have hnl':=hid (show Q0<=p by omega);have hpl:=hid (show p<q/\p<=R1 from by omega);clear hpq;clear hi hle hnl;by_cases c3:4294967296<=rh+yn1
       case neg=>
        have c3i:¬((4294967296:Int)<=(rh:Int)+yn1):=by omega
        go_wp2
        go_roundw
        case rel=>exact⟨p,rh+yn1,by go_num,by go_num,hi2.out,hnl'.out,by omega,hpl.out.2,trivial⟩
        case measure=>have:=hpl.out.1;first | (simp [intOf];omega) | (simp [intOf];done)
       case pos=>
        have c3i:(4294967296:Int)<=(rh:Int)+yn1:=by omega
        obtain rfl:p=Q0:=QE0.out p hnl'.out (by have:=iO (v:=un0) hi2.out c3 (by rw [<-hyn.out];omega) hy0;rw [<-hyn.out] at this;exact this);go_wp2;go_ret2;exact⟨by rw [C2.out];rfl,0,rfl⟩
end Go.Proofs.YtgoojkiccdjplaaGreatDoor
