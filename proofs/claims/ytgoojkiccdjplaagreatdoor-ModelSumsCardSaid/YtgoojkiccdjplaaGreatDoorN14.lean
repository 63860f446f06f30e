/-
  Parts of this claim's texts, one behind the other: CB CC CD CI EA EB. No condition.
-/
import Derived.Test.YtgoojkiccdjplaaGreatDoorN13
import Derived.Deep.LoopGhost
import Derived.Test.YtgoojkiccdjplaaGreatDoorN11
import Derived.Test.YtgoojkiccdjplaaGreatDoorN10
set_option linter.unusedVariables false
set_option linter.unusedSimpArgs false
set_option maxRecDepth 100000
set_option maxHeartbeats 16000000
namespace Go.Proofs.YtgoojkiccdjplaaGreatDoor
open Go.RowKit Go.Sort Go.Lib
theorem jI {S:Nat->Prop} (a:Option Addr) (n c:Nat) (xs:List Int) (w:World) (hx:bJ bV.u64 S w a n xs) (hn:n<17592186044416) (hnc:n<=c) :
  Calls Tryz.prog 149 #[.slice a n c] w fun e w'=>mR (aM xs) w e w':=by
 obtain ⟨k,hk,hz,h0⟩:=aFx xs;have h:=aGi a n c xs k w hx hn hnc (by rw [<-hx.1];exact hk) (fun j h1 h2=>hz j h1 (by rw [hx.1];exact h2)) h0;rw [pK hx.us hk hz h0] at h;exact h
theorem mR.from {y:Nat} {w wr w':World} {e:Ending} (h:mR y wr e w') (hb:Below w.heap.size w wr):mR y w e w':=by
 obtain ⟨a,c,h1,h2,h3,h4,h5⟩:=h;exact⟨a,c,h1,h2.mono fun _ _ hk=>⟨hk.1,aK hb.size hk.2⟩,h3,h4,hb.trans (h5.mono hb.size)⟩
theorem oD {ds:List Int} {i b x y A B d b':Nat} (h:aM ds+B=A+aO ^ i * b) (hl:ds.length=i) (h2:d+y+b=x+aO * b') :
  aM (ds ++ [(d:Int)])+(B+aO ^ i * y)=A+aO ^ i * x+aO ^ (i+1) * b':=by
 have h5:aO ^ i * (d+y+b)=aO ^ i * (x+aO * b'):=by rw [h2]
 rw [Nat.mul_add,Nat.mul_add,Nat.mul_add,<-Nat.mul_assoc] at h5;rw [eZ,hl,Nat.pow_succ];omega
theorem aDc {V x y P b:Nat} (h:V+y=x+P * b) (hV:V<P) (hle:y<=x):V=x - y:=by
 rcases Nat.eq_zero_or_pos b with rfl | hb
 ·rw [Nat.mul_zero] at h;omega
 ·have:P * 1<=P * b:=Nat.mul_le_mul_left _ hb;omega
theorem yB {l:List Int} {i:Nat} (h:l.length<=i):aM (l.take (i+1))=aM (l.take i)+aO ^ i * 0:=by
 rw [List.take_of_length_le (by omega),List.take_of_length_le h,Nat.mul_zero,Nat.add_zero]
section
variable {S S' : Nat -> Prop}
theorem aGo (a b:Option Addr) (n m c d x y:Nat) (w:World) (hx:bJ bV.u64 S w a n (aF x)) (hy:bJ bV.u64 S' w b m (aF y)) (hn:n<=1099511627776) (hle:y<=x) :
  Calls Tryz.prog 219 #[.slice a n c,.slice b m d] w fun e w'=>mR (x - y) w e w':=by
 have hX:=hid hx;have hY:=hid hy;have lx:=hid hx.1;have ly:=hid hy.1;have hmn:m<=n:=by rw [<-hx.1,<-hy.1];exact eT hle
 have hle':=hid hle;have hvx:=hid (aU x);have hvy:=hid (aU y);generalize aF x=xs at *;generalize aF y=ys at *;obtain ⟨i0,hi0,hz0,hz1,hz2⟩:=info_parts lL;clear hx hy hle;go_enter Tryz.func219,Tryz.ntmps219
 go_wp2
 go_loopw [5,6,7,8,9,10] (fun vo vc vi _ _ _ wr=>∃(i bw:Nat) (ds:List Int),i<=n/\vc = .int .u64 bw/\vi = .int .i64 i/\bw<=1/\Hid (ds.length=i)/\Hid (bO ds)/\Hid (aM ds+aM (ys.take i)=aM (xs.take i)+aO ^ i * bw)/\Hid (wr.ownsRow w.heap.size 177 1 vo i (ds.map (Value.int .u64)))/\Hid (Below w.heap.size w wr)) (fun _ _ vi _ _ _ _=>n - (intOf vi).toNat)
 case atStart=>exact⟨0,0,[],aV,rfl,rfl,by omega,(by show([]:List Int).length=0;rfl),(fun x hx=>(by simp at hx):bO []),(by show aM []+_=_;simp [eV]),World.ownsRow_nil _ _ _ _,Below.refl _ _⟩
 case round=>
  obtain ⟨i,bw,ds,hi,rfl,rfl,hbw,hdl,hdo,hdv,hO,hB⟩:=hrel;by_cases hin:i<n
  case pos=>
   obtain ⟨b1,o1,rfl,k1,u1⟩:=((hX.out).below hB.out aB).at64 (k:=i) (by rw [lx.out];exact hin);have e1:=u1.cast;have l1:=hid u1.lt;have tx:=hid (bI (l:=xs) (i:=i) (by rw [lx.out];exact hin));rw [<-e1] at k1;generalize (nth xs i).toNat=x1 at *;clear e1 u1;have hii:(i:Int)<n:=by omega
   have hsz:=hB.out.size;by_cases him:i<m
   case pos=>
    obtain ⟨b2,o2,rfl,k2,u2⟩:=((hY.out).below hB.out aB).at64 (k:=i) (by rw [ly.out];exact him);have e2:=u2.cast;have l2:=hid u2.lt;have ty:=hid (bI (l:=ys) (i:=i) (by rw [ly.out];exact him));rw [<-e2] at k2;generalize (nth ys i).toNat=y1 at *;clear e2 u2;have hmi:(i:Int)<m:=by omega
    obtain ⟨d1,b',hs2,hdl0,hbl,hsd⟩:=lS x1 y1 bw l1.out l2.out hbw;have hst:=hid (oD hdv.out hdl.out hsd);have hdok:=hid (hdo.out.snoc hdl0);clear hsd hdl0
    go_wp2_with (at_builtin;refine wpList_append_own _ rfl _ _ 34 rfl w.heap.size 177 i0 (.int .u64 0) 1 8 Tryz.underlying34 hi0 hz0 hz1 hz2 rfl (by decide) _ _ _ rfl (hO.out.alloc _) ⟨wr.heap.size,0,none⟩ 1 1 [.int .u64 (d1:Nat)] rfl rfl ?m1 ?m2 ?m3 ?m4 ?m5 ?_)
    (try case m1=>intro z u hu;match z,hu with | 0,hu=>simp at hu;subst hu;(simp [Addr.add]) <;> decide)
    case m2=>first | rfl | (intro u hu;simp at hu;subst hu;rfl)
    case m3=>unfold maxLen;omega
    case m4=>omega
    case m5=>first | omega | (simp;omega)
    intro v' w1 ho hg _;have B1:=hid (((hB.out.alloc hB.out.size _).grown hg (by simp;omega) (fun k hk=>(hO.out.lt k hk).1)));have O1:=hid (show w1.ownsRow w.heap.size 177 1 v' (i+1) ((ds ++ [(d1:Int)]).map (Value.int .u64)) from by rw [List.map_append];exact ho);clear ho hg;go_wp2
    go_roundw
    case rel=>exact⟨i+1,b',ds ++ [(d1:Int)],by omega,by first | rfl | go_num,by first | rfl | go_num,hbl,(by show(ds++_).length=_;have:=hdl.out;simp;omega),hdok.out,(by show aM _+_=_;rw [tx.out,ty.out];exact hst.out),O1.out,B1.out⟩
    case measure=>first | (simp [intOf];done) | (simp [intOf];omega)
   case neg=>
    have ty:=hid (yB (l:=ys) (i:=i) (by rw [ly.out];omega));have hmi:¬((i:Int)<m):=by omega
    have hmd:decide ((i:Int)<m)=false:=by simpa using hmi
    obtain ⟨d1,b',hs2,hdl0,hbl,hsd⟩:=lS x1 0 bw l1.out (by decide) hbw;have hst:=hid (oD hdv.out hdl.out hsd);have hdok:=hid (hdo.out.snoc hdl0);rw [show(((0:Nat):Int))=0 from rfl] at hs2;clear hsd hdl0
    go_wp2_with (at_builtin;refine wpList_append_own _ rfl _ _ 34 rfl w.heap.size 177 i0 (.int .u64 0) 1 8 Tryz.underlying34 hi0 hz0 hz1 hz2 rfl (by decide) _ _ _ rfl (hO.out.alloc _) ⟨wr.heap.size,0,none⟩ 1 1 [.int .u64 (d1:Nat)] rfl rfl ?m1 ?m2 ?m3 ?m4 ?m5 ?_)
    (try case m1=>intro z u hu;match z,hu with | 0,hu=>simp at hu;subst hu;(simp [Addr.add]) <;> decide)
    case m2=>first | rfl | (intro u hu;simp at hu;subst hu;rfl)
    case m3=>unfold maxLen;omega
    case m4=>omega
    case m5=>first | omega | (simp;omega)
    intro v' w1 ho hg _;have B1:=hid (((hB.out.alloc hB.out.size _).grown hg (by simp;omega) (fun k hk=>(hO.out.lt k hk).1)));have O1:=hid (show w1.ownsRow w.heap.size 177 1 v' (i+1) ((ds ++ [(d1:Int)]).map (Value.int .u64)) from by rw [List.map_append];exact ho);clear ho hg;go_wp2
    go_roundw
    case rel=>exact⟨i+1,b',ds ++ [(d1:Int)],by omega,by first | rfl | go_num,by first | rfl | go_num,hbl,(by show(ds++_).length=_;have:=hdl.out;simp;omega),hdok.out,(by show aM _+_=_;rw [tx.out,ty.out];exact hst.out),O1.out,B1.out⟩
    case measure=>first | (simp [intOf];done) | (simp [intOf];omega)
  case neg=>
   obtain rfl:i=n:=by omega
   obtain ⟨a',c',rfl,hcc⟩:=(bW.of hO.out).slice;have hval:=hid (show aM ds=x - y from by
    have h1:=hdv.out;rw [List.take_of_length_le (l:=xs) (by rw [lx.out];exact aB),List.take_of_length_le (l:=ys) (by rw [ly.out];exact hmn),hvx.out,hvy.out] at h1;have h2:=eR hdo.out;rw [hdl.out] at h2;exact aDc h1 h2 hle'.out)
   have htr:=hid (jI a' i c' ds wr ((aJ7 hO.out hdo.out hdl.out.symm).datF (n:=0) aV) (by omega) hcc.1);rw [hval.out] at htr
   go_wp2_with fail
   refine htr.out.mono ?_;rintro e w2 hP;have hP':=hid (hP.from hB.out);obtain ⟨a2,c2,rfl,_⟩:=hP;go_wp2;go_ret;exact hP'.out
theorem aJa (x c k:Nat) (hx:x<aO) (hc:c<2 ^ k) (hk:k<64):∃lo d v t:Nat,IntKind.u64.wrap ((x:Int) * 2 ^ k)=(lo:Nat)/\bits .or .u64 (lo:Int) (c:Int)=(d:Nat)/\d<aO /\
  IntKind.u64.wrap (64 - (k:Int))=(t:Nat)/\(0<k->min t 64=t)/\(x:Int) / 2 ^ t=(v:Nat)/\v<2 ^ k/\d+aO * v=c+x * 2 ^ k:=by
 have hup:=qL hx hk;have hcW:c<aO:=Nat.lt_trans hc (by rw [<-dS];exact Nat.pow_lt_pow_right (by decide) hk);have hlo:x * 2 ^ k % aO<aO:=Nat.mod_lt _ eL;have hol:=aBt (x:=x) (k:=k) (t:=c) (by omega) hc;refine⟨x * 2 ^ k % aO,c ||| (x * 2 ^ k % aO),x / 2 ^ (64 - k),64 - k,?_,?_,?_,?_,?_,lR _ _,hup.2,?_⟩
 ·rw [lQ,IntKind.wrap_u64];unfold aO;omega
 ·rw [Nat.or_comm];exact(bits_nat .u64 64 (by decide) wraps_u64 (x * 2 ^ k % aO) c (by rw [dS];exact hlo) (by rw [dS];exact hcW)).2
 ·rw [<-dS];exact Nat.or_lt_two_pow (by rw [dS];exact hcW) (by rw [dS];exact hlo)
 ·rw [show(64 - (k:Int))=((64 - k:Nat):Int) by omega];exact bE (by omega)
 ·intro _;omega
 ·rw [hol,Nat.add_assoc,hup.1]
theorem aGp (n:Nat) (w:World) (hn:n<=1099511627776) :
  ∃w',(Instr.makeSlice 34 (.int .i64 n) (.int .i64 n)).run Tryz.prog w = .ok (.slice (some ⟨w.heap.size,0,none⟩) n n) w'/\w'.ownsRow w.heap.size 177 1 (.slice (some ⟨w.heap.size,0,none⟩) n n) n ((List.replicate n (0:Int)).map (Value.int .u64))/\Below w.heap.size w w':=by
 obtain ⟨i0,hi,hz0,hz1,hz2⟩:=info_parts lL;obtain ⟨w',h1,h2,h3⟩:=run_make_full (P:=Tryz.prog) w w.heap.size 34 177 i0 (.int .u64 0) 1 Tryz.underlying34 hi hz0 hz1 .i64 .i64 n (by rw [hz2];omega) (by unfold maxLen;omega) aB;refine⟨w',h1,?_,⟨h3.os,h3.tape,h3.output,h3.size,fun k hk=>h3.block k hk (by simp)⟩⟩;rw [Nat.mul_one,show(Value.int IntKind.u64 0).cells = #[.int .u64 0] from rfl,toList_madeCells_one] at h2;rw [List.map_replicate];exact h2
theorem aK2 {x k m:Nat} {ds:List Int} {c:Nat} (h:aM ds+aO ^ m * c=x * 2 ^ (k % 64)) (hl:ds.length=m):aM (List.replicate (k / 64) 0++(ds ++ [(c:Int)]))=x * 2 ^ k:=by
 rw [dD,mE,List.length_replicate,Nat.zero_add,eZ,hl,h];have:2 ^ k=aO ^ (k / 64) * 2 ^ (k % 64):=by rw [<-pL,Nat.div_add_mod]
 rw [this,<-Nat.mul_assoc,<-Nat.mul_assoc,Nat.mul_comm x]
theorem aB8 (a:Option Addr) (n c x k:Nat) (w:World) (hx:bJ bV.u64 S w a n (aF x)) (hn:n<=1000000) (hk:k<=1000000) :
  Calls Tryz.prog 218 #[.slice a n c,.int .i64 k] w fun e w'=>mR (x * 2 ^ k) w e w':=by
 obtain ⟨w1,hmk,ho1,hb1⟩:=aGp (k / 64) w (by omega);have hX:=hid hx;have lx:=hid hx.1;have hvx:=hid (aU x);have O1:=hid ho1;have B1:=hid hb1;obtain ⟨s,hs⟩:∃s,s=k % 64:=⟨_,rfl⟩;obtain ⟨z,hz⟩:∃z,z=k / 64:=⟨_,rfl⟩;have hs64:s<64:=by omega
 have q1:Int.tdiv (k:Int) 64=(z:Nat):=by rw [Int.tdiv_eq_ediv_of_nonneg (by omega)];omega
 have q2:Int.tmod (k:Int) 64=(s:Nat):=by rw [Int.tmod_eq_emod_of_nonneg (by omega)];omega
 have q3:IntKind.u64.wrap (s:Int)=s:=bE (by omega);have q4:min s 64=s:=by omega
 have hzk:z<=15625:=by omega
 have hfin:=hid (fun(m cy:Nat) (ds:List Int) (h:aM ds+aO ^ m * cy=x * 2 ^ s) (hl:ds.length=m)=>show aM (List.replicate z 0++(ds ++ [(cy:Int)]))=x * 2 ^ k from by
  rw [hs] at h;rw [hz];exact aK2 h hl)
 have hki:¬((k:Int)<0):=by omega
 have hkd:decide ((k:Int)<0)=false:=decide_eq_false hki;rw [<-hz] at hmk O1;generalize aF x=xs at *;obtain ⟨i0,hi0,hz0,hz1,hz2⟩:=info_parts lL;clear hx ho1 hb1 hs hz hki;go_enter Tryz.func218,Tryz.ntmps218
 go_wp2
 go_loopw [9,11,12] (fun vo vc vi wr=>∃(i cy:Nat) (ds:List Int),i<=n/\vc = .int .u64 cy/\vi = .int .i64 i/\Hid (cy<2 ^ s)/\Hid (ds.length=i)/\Hid (bO ds)/\Hid (aM ds+aO ^ i * cy=aM (xs.take i) * 2 ^ s)/\Hid (wr.ownsRow w.heap.size 177 1 vo (z+i) ((List.replicate z 0++ds).map (Value.int .u64)))/\Hid (Below w.heap.size w wr)) (fun _ _ vi _=>n - (intOf vi).toNat)
 case atStart=>exact⟨0,0,[],aV,rfl,rfl,Nat.two_pow_pos s,(by show([]:List Int).length=0;rfl),(fun x hx=>(by simp at hx):bO []),(by show aM []+_=_;simp [eV]),(by rw [List.append_nil];exact O1.out),B1.out⟩
 case round=>
  obtain ⟨i,cy,ds,hi,rfl,rfl,hcy,hdl,hdo,hdv,hO,hB⟩:=hrel;have hsz:=hB.out.size;have hcyW:=hid (show cy<aO from bN hcy.out (by rw [<-dS];exact Nat.pow_le_pow_right (by decide) (Nat.le_of_lt hs64)));by_cases hin:i<n
  case pos=>
   obtain ⟨b1,o1,rfl,k1,u1⟩:=((hX.out).below hB.out aB).at64 (k:=i) (by rw [lx.out];exact hin);have e1:=u1.cast;have l1:=hid u1.lt;have hlt1:=hid (World.block_lt_of_cell? wr _ k1);have tx:=hid (bI (l:=xs) (i:=i) (by rw [lx.out];exact hin));rw [<-e1] at k1;generalize (nth xs i).toNat=x1 at *;clear e1 u1;have hii:(i:Int)<n:=by omega
   obtain ⟨lo,d1,v1,t1,p1,p2,pd,p3,p4,p5,pv,pe⟩:=aJa x1 cy s l1.out hcy.out hs64;have hst:=hid (left_step hdv.out hdl.out pe);have hdok:=hid (hdo.out.snoc pd);have PV:=hid pv;have hkb:b1<w.heap.size:=by
    have h2:=(hX.out.2 (by omega)).choose_spec;obtain ⟨o',he,hlt,_⟩:=h2;injection he with he
    injection he with h1 h2 _
    rw [h1];exact hlt
   have kk:=hid k1;by_cases hs0:0<s
   case pos=>
    have hs0i:(0:Int)<s:=by omega
    have p4':=p4 hs0;clear pe pd pv p4
    go_wp2_with (at_builtin;refine wpList_append_own _ rfl _ _ 34 rfl w.heap.size 177 i0 (.int .u64 0) 1 8 Tryz.underlying34 hi0 hz0 hz1 hz2 rfl (by decide) _ _ _ rfl (hO.out.alloc _) ⟨wr.heap.size,0,none⟩ 1 1 [.int .u64 (d1:Nat)] rfl rfl ?m1 ?m2 ?m3 ?m4 ?m5 ?_)
    (try case m1=>intro z u hu;match z,hu with | 0,hu=>simp at hu;subst hu;(simp [Addr.add]) <;> decide)
    case m2=>first | rfl | (intro u hu;simp at hu;subst hu;rfl)
    case m3=>unfold maxLen;omega
    case m4=>omega
    case m5=>first | omega | (simp;omega)
    intro v' w2 ho hg _;have B2:=hid (((hB.out.alloc hB.out.size _).grown hg (by simp;omega) (fun k hk=>(hO.out.lt k hk).1)));have O2:=hid (show w2.ownsRow w.heap.size 177 1 v' (z+(i+1)) ((List.replicate z 0++(ds ++ [(d1:Int)])).map (Value.int .u64)) from by rw [<-Nat.add_assoc];simpa using ho);have k2:w2.cell? ⟨b1,o1+i,none⟩=some (.int .u64 x1):=by
     rw [World.cell?_of_block (w:=w) (a:=⟨b1,o1+i,none⟩) (B2.out.block b1 hkb),<-World.cell?_of_block (w:=w) (w':=wr) (a:=⟨b1,o1+i,none⟩) (hB.out.block b1 hkb)];exact kk.out
    clear ho hg;go_wp2
    go_roundw
    case rel=>exact⟨i+1,v1,ds ++ [(d1:Int)],by omega,by first | rfl | go_num,by first | rfl | go_num,PV.out,(by show(ds++_).length=_;have:=hdl.out;simp;omega),hdok.out,(by show aM _+_=_;rw [tx.out];exact hst.out),O2.out,B2.out⟩
    case measure=>first | (simp [intOf];done) | (simp [intOf];omega)
   case neg=>
    have hs0i:¬((0:Int)<s):=by omega
    have hv0:v1=0:=by
      have:s=0:=by omega
      subst this;simp at pv;exact pv
    subst hv0;clear pe pd pv p4
    go_wp2_with (at_builtin;refine wpList_append_own _ rfl _ _ 34 rfl w.heap.size 177 i0 (.int .u64 0) 1 8 Tryz.underlying34 hi0 hz0 hz1 hz2 rfl (by decide) _ _ _ rfl (hO.out.alloc _) ⟨wr.heap.size,0,none⟩ 1 1 [.int .u64 (d1:Nat)] rfl rfl ?m1 ?m2 ?m3 ?m4 ?m5 ?_)
    (try case m1=>intro z u hu;match z,hu with | 0,hu=>simp at hu;subst hu;(simp [Addr.add]) <;> decide)
    case m2=>first | rfl | (intro u hu;simp at hu;subst hu;rfl)
    case m3=>unfold maxLen;omega
    case m4=>omega
    case m5=>first | omega | (simp;omega)
    intro v' w2 ho hg _;have B2:=hid (((hB.out.alloc hB.out.size _).grown hg (by simp;omega) (fun k hk=>(hO.out.lt k hk).1)));have O2:=hid (show w2.ownsRow w.heap.size 177 1 v' (z+(i+1)) ((List.replicate z 0++(ds ++ [(d1:Int)])).map (Value.int .u64)) from by rw [<-Nat.add_assoc];simpa using ho);clear ho hg;go_wp2
    go_roundw
    case rel=>exact⟨i+1,0,ds ++ [(d1:Int)],by omega,by first | rfl | go_num,by first | rfl | go_num,PV.out,(by show(ds++_).length=_;have:=hdl.out;simp;omega),hdok.out,(by show aM _+_=_;rw [tx.out];exact hst.out),O2.out,B2.out⟩
    case measure=>first | (simp [intOf];done) | (simp [intOf];omega)
  case neg=>
   obtain rfl:i=n:=by omega
   have hval:=hid (hfin.out i cy ds (by
    have h1:=hdv.out;rw [List.take_of_length_le (by rw [lx.out];exact aB),hvx.out] at h1;exact h1) hdl.out)
   have hok:=hid (show bO (List.replicate z 0++(ds ++ [(cy:Int)])) from(bO.zeros z).append (hdo.out.snoc hcyW.out));have hlen:=hid (show(List.replicate z 0++(ds ++ [(cy:Int)])).length=z+i+1 from by have:=hdl.out;simp;omega)
   go_wp2_with (at_builtin;refine wpList_append_own _ rfl _ _ 34 rfl w.heap.size 177 i0 (.int .u64 0) 1 8 Tryz.underlying34 hi0 hz0 hz1 hz2 rfl (by decide) _ _ _ rfl (hO.out.alloc _) ⟨wr.heap.size,0,none⟩ 1 1 [.int .u64 (cy:Nat)] rfl rfl ?z1 ?z2 ?z3 ?z4 ?z5 ?_)
   (try case z1=>intro z u hu;match z,hu with | 0,hu=>simp at hu;subst hu;(simp [Addr.add]) <;> decide)
   case z2=>first | rfl | (intro u hu;simp at hu;subst hu;rfl)
   case z3=>unfold maxLen;omega
   case z4=>omega
   case z5=>first | omega | (simp;omega)
   intro v' w2 ho hg _;have B2:=hid (((hB.out.alloc hB.out.size _).grown hg (by simp;omega) (fun k hk=>(hO.out.lt k hk).1)));have O2:=show w2.ownsRow w.heap.size 177 1 v' (z+i+1) ((List.replicate z 0++(ds ++ [(cy:Int)])).map (Value.int .u64)) from by simpa using ho
   obtain ⟨a',c',rfl,hcc⟩:=(bW.of O2).slice;have htr:=hid (jI a' (z+i+1) c' _ w2 ((aJ7 O2 hok.out hlen.out.symm).datF (n:=0) aV) (by omega) hcc.1);rw [hval.out] at htr;clear ho hg O2
   go_wp2_with fail
   refine htr.out.mono ?_;rintro e w3 hP;have hP':=hid (hP.from B2.out);obtain ⟨a2,c2,rfl,_⟩:=hP;go_wp2;go_ret;exact hP'.out
end
def oP (S:Nat->Prop) (y:Nat) (w:World) (v:Value):Prop:=∃a c,v = .slice a (aF y).length c/\bJ bV.u64 S w a (aF y).length (aF y)/\(aF y).length<=c/\c<=maxLen/\(aF y).length<=10000
abbrev nH (y:Nat) (w:World) (v:Value):Prop:=oP (fun _=>True) y w v
section
variable {S S' : Nat -> Prop} {y : Nat} {w w' : World} {v : Value}
theorem oP.all (h:oP S y w v) (hb:Below w.heap.size w w'):oP S y w' v:=by
 obtain ⟨a,c,h1,h2,h3⟩:=h;exact⟨a,c,h1,h2.below hb aB,h3⟩
theorem oP.mono (h:oP S y w v) (hk:∀b,b<w.heap.size->S b->S' b):oP S' y w v:=by
 obtain ⟨a,c,h1,h2,h3⟩:=h;exact⟨a,c,h1,h2.mono hk,h3⟩
theorem oP.top (h:oP S y w v):nH y w v:=h.mono fun _ _ _=>trivial
theorem oP.set {g:Nat} (h:oP (fun k=>k≠g) y w v) (i:Nat) (u:Value):oP (fun k=>k≠g) y (w.setCell ⟨g,i,none⟩ u) v:=by
 obtain ⟨a,c,h1,h2,h3⟩:=h;exact⟨a,c,h1,h2.keep (fun b _ hb=>Below.heap_setCell _ _ _ _ hb) (Nat.le_of_eq fD.symm),h3⟩
theorem mR.toX (h:mR y w (.returned v) w') (hl:(aF y).length<=10000):oP (fun k=>w.heap.size<=k) y w' v/\Below w.heap.size w w':=by
 obtain ⟨a,c,h1,h2,h3,h4,h5⟩:=h;injection h1 with h1
 exact⟨⟨a,c,h1,h2.mono fun _ _ hk=>hk.2,h3,h4,hl⟩,h5⟩
end
theorem mR.val {y:Nat} {w w':World} {e:Ending} (h:mR y w e w'):∃v,e = .returned v/\mR y w (.returned v) w':=by
 obtain ⟨a,c,h1,h2,h3,h4,h5⟩:=h;subst h1;exact⟨_,rfl,a,c,rfl,h2,h3,h4,h5⟩
theorem aGq {x y:Nat} {v1 v2:Value} {w:World} (h1:nH x w v1) (h2:nH y w v2):Calls Tryz.prog 161 #[v1,v2] w fun e w'=>e = .returned (.int .i64 (dU x y))/\∃q,w'=w.drewN q:=by
 obtain ⟨a,c,rfl,s1,_,_,l1⟩:=h1;obtain ⟨b,d,rfl,s2,_,_,l2⟩:=h2;exact aGn a b _ _ c d x y w s1 s2 (by omega) (by omega)
theorem aK3 {x y:Nat} {v1 v2:Value} {w:World} (h1:nH x w v1) (h2:nH y w v2) (hle:y<=x):Calls Tryz.prog 219 #[v1,v2] w fun e w'=>∃v,e = .returned v/\oP (fun k=>w.heap.size<=k) (x - y) w' v/\Below w.heap.size w w':=by
 obtain ⟨a,c,rfl,s1,_,_,l1⟩:=h1;obtain ⟨b,d,rfl,s2,_,_,l2⟩:=h2;refine(aGo a b _ _ c d x y w s1 s2 (by omega) hle).mono ?_;rintro e w' h;obtain ⟨v,rfl,h⟩:=h.val;exact⟨v,rfl,h.toX (aK (eT (Nat.sub_le _ _)) l1)⟩
theorem aGr {x:Nat} {v1:Value} {w:World} (h1:nH x w v1) (k:Nat) (hk:k<=1000000) (hl:(aF (x * 2 ^ k)).length<=10000):Calls Tryz.prog 218 #[v1,.int .i64 k] w fun e w'=>∃v,e = .returned v/\oP (fun k=>w.heap.size<=k) (x * 2 ^ k) w' v/\Below w.heap.size w w':=by
 obtain ⟨a,c,rfl,s1,_,_,l1⟩:=h1;refine(aB8 a _ c x k w s1 (by omega) hk).mono ?_;rintro e w' h;obtain ⟨v,rfl,h⟩:=h.val;exact⟨v,rfl,h.toX hl⟩
theorem aGs (x t:Nat) (hx:x<aO) (ht:t<64):∃p:Nat,IntKind.u64.wrap ((2:Int) ^ t)=(p:Nat)/\IntKind.u64.wrap (1 * (2:Int) ^ t)=(p:Nat)/\bits .or .u64 (x:Int) (p:Int)=((x ||| 2 ^ t:Nat):Int):=by
 have h:(2:Nat) ^ t<2 ^ 64:=Nat.pow_lt_pow_right (by decide) ht;have h2:IntKind.u64.wrap ((2:Int) ^ t)=((2 ^ t:Nat):Int):=by
  rw [show((2:Int) ^ t)=((2 ^ t:Nat):Int) by simp];exact bE (by rw [dS] at h;exact h)
 exact⟨2 ^ t,h2,by rw [Int.one_mul];exact h2,(bits_nat .u64 64 (by decide) wraps_u64 x (2 ^ t) (by rw [dS];exact hx) h).2⟩
theorem aJb {x y:Nat} (hy:0<y) (hle:y<=x):kG y<=kG x:=by
 have h1:=qR hy;have h2:=qR (bN hy hle);have h3:2 ^ (kG y - 1)<2 ^ kG x:=Nat.lt_of_le_of_lt (aK h1.1 hle) h2.2.1;have h4:=(Nat.pow_lt_pow_iff_right (a:=2) (by decide)).1 h3;omega
def aGt (x y:Nat) (w:World) (e:Ending) (w':World):Prop:=∃v1 v2,e = .returned (.tuple #[v1,v2])/\nH (x / y) w' v1/\nH (x % y) w' v2/\Below w.heap.size w w'
theorem aB9 (j:Nat):∃i t:Nat,i=j / 64/\t=j % 64/\t<64/\Int.tdiv (j:Int) 64=(i:Nat)/\Int.tmod (j:Int) 64=(t:Nat)/\IntKind.u64.wrap (t:Int)=t/\min t 64=t/\j=64 * i+t:=by
 refine⟨j / 64,j % 64,rfl,rfl,Nat.mod_lt _ (by decide),?_,?_,bE ?_,?_,(Nat.div_add_mod j 64).symm⟩
 ·rw [Int.tdiv_eq_ediv_of_nonneg (by omega)];omega
 ·rw [Int.tmod_eq_emod_of_nonneg (by omega)];omega
 ·omega
 ·omega
theorem nI (v1 v2:Value) (x y:Nat) (w:World) (hx:nH x w v1) (hy:nH y w v2) (hy0:0<y) :
  Calls Tryz.prog 186 #[v1,v2] w fun e w'=>aGt x y w e w':=by
 have hX:=hid hx;have hY:=hid hy;have hcm:=hid (aGq hx hy);by_cases hlt:x<y
 case pos=>
  rw [mD hlt] at hcm;have hq:=hid (show x / y=0/\x % y=x from⟨Nat.div_eq_of_lt hlt,Nat.mod_eq_of_lt hlt⟩);clear hx hy hlt hy0;obtain ⟨a,c,rfl,h2⟩:=hX.out;go_enter Tryz.func186,Tryz.ntmps186
  go_wp2_with fail
  refine hcm.out.mono ?_;rintro e w1 ⟨rfl,qn,rfl⟩;go_wp2;go_ret2;refine⟨_,_,rfl,?_,?_,(Below.refl _ _).drewN qn⟩
  ·rw [hq.out.1];exact⟨none,0,by rw [cB];rfl,by rw [cB];exact bJ.nil _ _ _ _,by rw [cB];exact aB,aV,by rw [cB];exact aV⟩
  ·rw [hq.out.2];exact hX.out.all ((Below.refl _ _).drewN qn)
 case neg=>
  have hle:y<=x:=by omega
  have hcv:¬(dU x y<0):=by unfold dU;split <;> (try split) <;> omega
  have hcd:decide (dU x y<0)=false:=by simpa using hcv
  have hbx:=qR (bN hy0 hle);have hby:=qR hy0;have hbl:=aJb hy0 hle;have hst0:=hid (aGk hbx.2.1 hby.1);obtain ⟨a,c,rfl,s1,c1,c2,l1⟩:=hx;obtain ⟨b,d,rfl,s2,d1,d2,l2⟩:=hy;generalize hcvv:dU x y=cv at *;have hb1:=fun W (hW:Below w.heap.size w W)=>wJ a _ c x W (s1.below hW aB) (by omega)
  have hb2:=fun W (hW:Below w.heap.size w W)=>wJ b _ d y W (s2.below hW aB) (by omega)
  generalize hbX:kG x=bx at *;generalize hbY:kG y=by' at *
  generalize hlx0:(aF x).length=n at *;have hlx:=hid hlx0;clear hlx0;obtain ⟨J,hJ⟩:∃J,bx=by'+J:=⟨bx - by',by omega⟩
  have hJi:(bx:Int) - by'=J:=by omega
  have hJl:J+1<=64 * n:=by omega
  have hst1:=hid (show x<y * 2 ^ (J+1) from by have:=hst0.out;rwa [show bx - (by' - 1)=J+1 by omega] at this);have hB1:=hid hb1;have hB2:=hid hb2;have hlen:=hid (fun j (h:j<=J)=>show(aF (y * 2 ^ j)).length<=10000 from by
   refine aK (cT (k:=n) ?_) l1;have h1:y * 2 ^ j<2 ^ by' * 2 ^ J:=bN (Nat.mul_lt_mul_of_pos_right hby.2.1 (Nat.two_pow_pos j)) (Nat.mul_le_mul_left _ (Nat.pow_le_pow_right (by decide) h))
   rw [<-Nat.pow_add,<-hJ] at h1;have h2:2 ^ bx<=2 ^ (64 * n):=Nat.pow_le_pow_right (by decide) hbx.2.2.2;have h3:(2:Nat) ^ (64 * n)=aO ^ n:=by rw [Nat.pow_mul,dS]
   rw [<-h3];exact bN h1 h2)
  have hn4:n<=10000:=l1;clear hcvv hbX hbY hst0 hb1 hb2 s1 s2 hJ hbx hby hle;go_enter Tryz.func186,Tryz.ntmps186
  go_wp2_with fail
  refine hcm.out.mono ?_;rintro e w1 ⟨rfl,qn,hw1⟩;have W1:=hid (show Below w.heap.size w w1 from by rw [hw1];exact(Below.refl _ _).drewN qn);obtain ⟨w2,hmk2,ho2,hb2,hs2⟩:=iV n w.heap.size w1 (by omega) W1.out.size;have O2:=hid ho2;have W2:=hid (aI W1 hb2);have hgw:=W1.out.size;clear hw1 ho2 hb2 hs2
  go_wp2_with fail
  refine(hB1.out w2 W2.out).mono ?_;rintro e w' ⟨rfl,rfl⟩
  go_wp2_with fail
  refine(hB2.out w2 W2.out).mono ?_;rintro e w' ⟨rfl,rfl⟩;go_wp2;generalize hg:w1.heap.size=g at *;clear hg hmk2
  go_loopw [7,8,9] (fun vr vk _ wr=>∃(j V r:Nat) (qs:List Int),j<=J+1/\vk = .int .i64 ((j:Int) - 1)/\Hid (x=V * y+r)/\Hid (r<y * 2 ^ j)/\Hid (V % 2 ^ j=0)/\Hid (aM qs=V)/\Hid (eW wr w.heap.size g n qs)/\Hid (oP (fun k=>k≠g) r wr vr)/\Hid (Below w.heap.size w wr)) (fun _ vk _ _=>(intOf vk+1).toNat)
  case atStart=>exact⟨J+1,0,x,List.replicate n 0,aB,by go_num,by show x=0 * y+x;omega,hst1.out,Nat.zero_mod _,mE n,O2.out,(hX.out.mono fun b hb _=>(by omega)).all W2.out,W2.out⟩
  case round=>
   obtain ⟨j,V,r,qs,hj,rfl,he,hr,hm,hv,hO,hR,hB⟩:=hrel;by_cases hj0:j=0
   case pos=>
    subst hj0;have hfin:=hid (aK1 he.out (by have:=hr.out;rwa [Nat.pow_zero,Nat.mul_one] at this));have htr:=jI (some ⟨g,0,none⟩) n n qs wr hO.out.datF (by omega) aB;rw [hv.out] at htr;have htr':=hid htr;have hVl:=hid (show(aF V).length<=10000 from by
     rw [hfin.out.1];exact aK (eT (Nat.div_le_self x y)) (by rw [hlx.out];exact hn4))
    clear htr
    go_wp2_with fail
    refine htr'.out.mono ?_;rintro e w3 hP;obtain ⟨v3,rfl,hP⟩:=hP.val;obtain ⟨hT3,hb3⟩:=hP.toX hVl.out;have T3:=hid hT3;have B3:=hid hb3;clear hP hT3 hb3 htr';go_wp2;go_ret2;exact⟨_,_,rfl,by rw [<-hfin.out.1];exact T3.out.top,by rw [<-hfin.out.2];exact(hR.out.all B3.out).top,aI hB B3.out⟩
   case neg=>
    obtain ⟨k,rfl⟩:∃k,j=k+1:=⟨j - 1,by omega⟩;have hji:(((k+1:Nat):Int) - 1)=k:=by omega
    rw [hji];obtain ⟨i,t,hi64,ht64,ht,q1,q2,q3,q4,hk⟩:=aB9 k;have q5:((k:Int) / 64)=(i:Nat):=by omega
    have q6:((k:Int) % 64)=(t:Nat):=by omega
    have hin:i<n:=by omega
    have hii:(i:Int)<n:=by omega
    have q7:k / 64=i:=hi64.symm;have q8:k % 64=t:=ht64.symm;clear hi64 ht64;have hstep:=hid (aI9 he.out hr.out hm.out);have hsh:=hid (aGr (hY.out.all hB.out) k (by omega) (hlen.out k (by omega)));have hk':=hid hk;clear hji hk
    go_wp2_with fail
    refine hsh.out.mono ?_;rintro e w3 ⟨v3,rfl,t3,b3⟩;have B3:=hid (aI hB b3);have O3:=hid (hO.out.same (b3.block g hO.out.lt));have hcm2:=hid (aGq (hR.out.all b3).top t3.top);have T3:=hid t3;have R3:=hid (hR.out.all b3);clear t3 b3 hsh;by_cases hge:y * 2 ^ k<=r
    case pos=>
     have hcv2:(0:Int)<=dU r (y * 2 ^ k):=by unfold dU;split <;> (try split) <;> omega
     have hcv2d:decide ((0:Int)<=dU r (y * 2 ^ k))=true:=by simpa using hcv2
     have hst:=hid (hstep.out.2.2 hge);have hge':=hid hge;generalize dU r (y * 2 ^ k)=cv2 at *;clear hge
     go_wp2_with fail
     refine hcm2.out.mono ?_;rintro e w4 ⟨rfl,qn4,hw4⟩;have b4:Below w3.heap.size w3 w4:=by rw [hw4];exact(Below.refl _ _).drewN qn4
     have hsb:=hid (aK3 (R3.out.all b4).top (T3.out.all b4).top hge'.out);have B4:=hid (aI B3 b4);have O4:=hid (O3.out.same (b4.block g O3.out.lt));clear hw4 b4 hcm2
     go_wp2_with fail
     refine hsb.out.mono ?_;rintro e w5 ⟨v5,rfl,t5,b5⟩;have B5:=hid (aI B4 b5);have O5:=hid (O4.out.same (b5.block g O4.out.lt));have T5:=hid (t5.mono (S':=fun k=>k≠g) fun b _ hb=>(by have:=O4.out.lt;omega));clear t5 b5 hsb;obtain ⟨xd,zd,hnd,hxl,hzl,hor,hset⟩:=aEh (l:=qs) (i:=i) (t:=t) O5.out.2.2.1 (by rw [O5.out.1];exact hin) ht (by rw [hv.out,<-hk'.out];exact hm.out);obtain ⟨pd,p1,p2,p3⟩:=aGs xd t hxl ht;rw [hor] at p3;have y0:=O5.out.cell (j:=i) hin;rw [hnd] at y0;have f0:=O5.out.frz i;have O6:=hid (O5.out.set (j:=i) (x:=(zd:Int)) (eF hzl));have hset':=hid hset;have hgs:=O5.out.lt;have B6:=hid (B5.out.setCell (p:=⟨g,i,none⟩) hgw (.int .u64 (zd:Int)));have T6:=hid (T5.out.set i (.int .u64 (zd:Int)));clear hnd hxl hzl hor hset;go_wp2
     go_roundw
     case rel=>exact⟨k,V+2 ^ k,r - y * 2 ^ k,qs.set i (zd:Int),by omega,by first | rfl | go_num,hst.out.1,hst.out.2,hstep.out.2.1,by show aM _=_;rw [hset'.out,hv.out,<-hk'.out],O6.out,T6.out,B6.out⟩
     case measure=>first | (simp [intOf];done) | (simp [intOf];omega)
    case neg=>
     have hcv2:¬(0:Int)<=dU r (y * 2 ^ k):=by unfold dU;rw [if_pos (by omega)];decide
     have hcv2d:decide ((0:Int)<=dU r (y * 2 ^ k))=false:=by simpa using hcv2
     have hlt2:=hid (show r<y * 2 ^ k by omega);generalize dU r (y * 2 ^ k)=cv2 at *;clear hge
     go_wp2_with fail
     refine hcm2.out.mono ?_;rintro e w4 ⟨rfl,qn4,hw4⟩;have b4:Below w3.heap.size w3 w4:=by rw [hw4];exact(Below.refl _ _).drewN qn4
     have B4:=hid (aI B3 b4);have O4:=hid (O3.out.same (b4.block g O3.out.lt));have R4:=hid (R3.out.all b4);clear hw4 b4 hcm2;go_wp2
     go_roundw
     case rel=>exact⟨k,V,r,qs,by omega,by first | rfl | go_num,he.out,hlt2.out,hstep.out.1,hv.out,O4.out,R4.out,B4.out⟩
     case measure=>first | (simp [intOf];done) | (simp [intOf];omega)
def aNe (x y:Nat) (w:World) (e:Ending) (w':World):Prop:=∃v,e = .returned v/\nH (Nat.gcd x y) w' v/\Below w.heap.size w w'
theorem aGu (v1 v2:Value) (x y:Nat) (w:World) (hx:nH x w v1) (hy:nH y w v2) :
  Calls Tryz.prog 162 #[v1,v2] w fun e w'=>aNe x y w e w':=by
 have hx':=hid hx;have hy':=hid hy;clear hx hy;go_enter Tryz.func162,Tryz.ntmps162
 go_wp2
 go_loopg [0,1] y (fun g u0 u1 wr=>∃z,Hid (nH z wr u0)/\Hid (nH g wr u1)/\Hid (Nat.gcd z g=Nat.gcd x y)/\Hid (Below w.heap.size w wr))
 case atStart=>exact⟨x,hx'.out,hy'.out,rfl,Below.refl _ _⟩
 case round=>
  obtain ⟨g,hgk⟩:∃g,g=gk:=⟨_,rfl⟩;subst hgk;obtain ⟨z,hz,hg,he,hb⟩:=hrel;by_cases hg0:g=0
  case pos=>
   subst hg0;obtain ⟨b,d,rfl,s1,s2,s3,s4⟩:=hg.out;have hl0:(aF 0).length=0:=by rw [cB];rfl
   rw [hl0] at *;have hgz:=hid (show Nat.gcd x y=z from by rw [<-he.out,Nat.gcd_zero_right]);clear s1 s2 s3 s4 hl0;go_wp2;go_ret;exact⟨_,rfl,by rw [hgz.out];exact hz.out,hb.out⟩
  case neg=>
   have hgp:0<g:=by omega
   have hq:=hid (nI u0 u1 z g wr hz.out hg.out hgp);obtain ⟨b,d,rfl,s1,s2,s3,s4⟩:=hg.out;have hlp:0<(aF g).length:=aZ.2 hgp;have hlt:=hid (Nat.mod_lt z hgp);have he2:=hid (show Nat.gcd g (z % g)=Nat.gcd x y from by rw [<-he.out,Nat.gcd_comm z g,Nat.gcd_rec g z,Nat.gcd_comm]);clear s1 s2 s3 s4 hz he;generalize hlg:(aF g).length=lg at *;clear hlg
   go_wp2_with fail
   refine hq.out.mono ?_;rintro e w4 ⟨q1,q2,rfl,hn1,hn2,hb4⟩;have N1:=hid (hg.out.all hb4);have N2:=hid hn2;have HB:=hid (aI hb hb4);clear hn1 hn2 hb4 hq;go_wp2
   go_roundg (z % g)
   case measure=>exact hlt.out
   case rel=>exact⟨g,N1.out,N2.out,he2.out,HB.out⟩
theorem vG {S:Nat->Prop} (a:Option Addr) (n c:Nat) (xs:List Int) (w:World) (hx:bJ bV.u64 S w a n xs) (hn:n<1099511627776):Calls Tryz.prog 160 #[.slice a n c] w fun e w'=>e = .returned (.bool (fR xs))/\w=w':=by
 have hd:=@Lib.hid (fR xs=(decide (xs.length<=64) && (decide (xs.length=0) || !(nth xs (xs.length - 1) == 0)))) rfl;have lx:=hx.1;by_cases h64:n<=64
 case neg=>
  have hv:=@Lib.hid (false=fR xs) (by rw [hd.out];simp [show ¬xs.length<=64 by omega]);have hi:¬(n:Int)<=64:=by omega
  have hid:decide ((n:Int)<=64)=false:=by simpa using hi
  clear hx lx hd;go_enter Tryz.func160,Tryz.ntmps160
  go_wp2;go_ret;exact⟨aQ hv.out,rfl⟩
 have hi:(n:Int)<=64:=by omega
 by_cases h0:n=0
 ·have hv:=@Lib.hid (true=fR xs) (by rw [hd.out];simp [show xs.length=0 by omega]);subst h0;clear hx lx hd hi;go_enter Tryz.func160,Tryz.ntmps160
  go_wp2;go_ret;exact⟨aQ hv.out,rfl⟩
 ·obtain ⟨k,rfl⟩:∃k,n=k+1:=⟨n - 1,by omega⟩;obtain ⟨b,o,rfl,k0,_⟩:=hx.at64 (k:=k) (by omega);have hv:=@Lib.hid (fR xs = !(nth xs k == 0)) (by rw [hd.out,lx,decide_eq_true (show k+1<=64 by omega),decide_eq_false (show ¬k+1=0 by omega)];rfl);have h0i:¬((k+1:Nat):Int)=0:=by omega
  have h0d:decide (((k+1:Nat):Int)=0)=false:=by simpa using h0i
  clear hx lx hd;generalize nth xs k=y at *;go_enter Tryz.func160,Tryz.ntmps160
  go_wp2;go_ret;exact⟨aQ hv.out.symm,rfl⟩
theorem yC {xs ys:List Int} {k:Nat} (hx:k<xs.length) (hy:k<ys.length):(xs.take (k+1)=ys.take (k+1))↔(xs.take k=ys.take k/\nth xs k=nth ys k):=by
 rw [List.take_succ_eq_append_getElem hx,List.take_succ_eq_append_getElem hy,cK hx,cK hy];constructor
 ·intro h;have hl:(xs.take k).length=(ys.take k).length:=by rw [List.length_take,List.length_take];omega
  have:=List.append_inj h hl;exact⟨this.1,by have:=this.2;injection this⟩
 ·rintro ⟨h1,h2⟩;rw [h1,h2]
theorem oU {S S':Nat->Prop} (a b:Option Addr) (n m c d:Nat) (xs ys:List Int) (w:World) (hx:bJ bV.u64 S w a n xs) (hy:bJ bV.u64 S' w b m ys) (hn:n<17592186044416) (hm:m<17592186044416) :
  Calls Tryz.prog 145 #[.slice a n c,.slice b m d] w fun e w'=>e = .returned (.bool (decide (xs=ys)))/\∃q,w'=w.drewN q:=by
 have lx:=hx.1;have ly:=hy.1;by_cases hnm:n=m
 case neg=>
  have hv:=hid (show false=decide (xs=ys) from(decide_eq_false fun e=>hnm (by rw [<-lx,<-ly,e])).symm);have hne:¬((n:Int)=m):=by omega
  have hneb:((n:Int) != m)=true:=by simpa using hne
  clear hx hy lx ly;go_enter Tryz.func145,Tryz.ntmps145
  go_wp2;go_ret;exact⟨aQ hv.out,0,rfl⟩
 subst hnm;have hx':=hid hx;have hy':=hid hy;have lx':=hid lx;have ly':=hid ly;clear hx hy lx ly;go_enter Tryz.func145,Tryz.ntmps145
 go_wp2
 go_loopw [4,5] (fun v4 v wr=>∃k:Nat,k<=n/\v4 = .bool false/\v = .int .i64 k/\Hid (xs.take k=ys.take k)/\∃q,wr=w.drewN q) (fun _ v _=>n - (intOf v).toNat)
 case atStart=>exact⟨0,aV,rfl,rfl,rfl,0,rfl⟩
 case round=>
  obtain ⟨k,hk,rfl,rfl,heq,q,rfl⟩:=hrel;by_cases hkn:k<n
  case pos=>
   obtain ⟨b1,o1,rfl,k1,_⟩:=hx'.out.at64 (k:=k) (by rw [lx'.out];omega);obtain ⟨b2,o2,rfl,k2,_⟩:=hy'.out.at64 (k:=k) (by rw [ly'.out];omega);have hsucc:=hid (yC (xs:=xs) (ys:=ys) (k:=k) (by rw [lx'.out];omega) (by rw [ly'.out];omega));have hki:(k:Int)<n:=by omega
   by_cases he:nth xs k=nth ys k
   ·have h2:=hid (hsucc.out.2 ⟨heq.out,he⟩);rw [<-he] at k2;clear he;generalize nth xs k=z at *;go_wp2
    go_quiet (fail)
    go_wp2
    go_roundw
    case rel=>exact⟨k+1,by omega,rfl,by go_num,h2.out,_,rfl⟩
    case measure=>first | (simp [intOf];done) | (simp [intOf];omega)
   ·have hv:=hid (show false=decide (xs=ys) from(decide_eq_false fun e=>he (by rw [e])).symm);have hb:(nth xs k != nth ys k)=true:=by simpa using he
    clear he hsucc;generalize nth xs k=z at *;generalize nth ys k=z' at *;go_wp2
    go_quiet (fail)
    go_wp2;go_ret;exact⟨aQ hv.out,_,by first | rfl | (rw [World.drewN_drewN])⟩
  case neg=>
   have hv:=hid (show true=decide (xs=ys) from(decide_eq_true (by
    have:=heq.out
    rwa [List.take_of_length_le (by rw [lx'.out];omega),List.take_of_length_le (by rw [ly'.out];omega)] at this)).symm)
   go_wp2;go_ret;exact⟨aQ hv.out,_,by first | rfl | (rw [World.drewN_drewN])⟩
def sG (a b:cE):Bool:=(a.neg == b.neg) && (decide (a.num=b.num) && decide (a.den=b.den))
theorem aEi {S S':Nat->Prop} (r s:cE) (a b a' b':Option Addr) (c d c' d':Nat) (w:World) (h1:bJ bV.u64 S w a r.num.length r.num) (h2:bJ bV.u64 S w b r.den.length r.den) (g1:bJ bV.u64 S' w a' s.num.length s.num) (g2:bJ bV.u64 S' w b' s.den.length s.den)
  (hn:r.num.length<17592186044416) (hm:r.den.length<17592186044416) (gn:s.num.length<17592186044416) (gm:s.den.length<17592186044416) :
  Calls Tryz.prog 92 #[dK r a c b d,dK s a' c' b' d'] w fun e w'=>e = .returned (.bool (sG r s))/\Below w.heap.size w w':=by
 have hd:=@hid (sG r s=((r.neg == s.neg) && (decide (r.num=s.num) && decide (r.den=s.den)))) rfl;obtain ⟨ng,nu,de⟩:=r;obtain ⟨ng',nu',de'⟩:=s;dsimp only at *;have hB:Below w.heap.size w ((w.alloc (.cells #[.bool ng,.slice a nu.length c,.slice b de.length d] 36)).alloc (.cells #[.bool ng',.slice a' nu'.length c',.slice b' de'.length d'] 36)):=bX w _ _;have hB':=hid hB;have hs1:=hid (oU a a' _ _ c c' nu nu' _ (h1.below hB aB) (g1.below hB aB) (by omega) (by omega));have hs2:=hid (fun q=>oU b b' _ _ d d' de de' _ ((h2.below hB aB).below ((Below.refl _ _).drewN q) aB) ((g2.below hB aB).below ((Below.refl _ _).drewN q) aB) (by omega) (by omega));have X0:=dG w (.cells #[.bool ng,.slice a nu.length c,.slice b de.length d] 36) (.cells #[.bool ng',.slice a' nu'.length c',.slice b' de'.length d'] 36);have X1:=cY w (.cells #[.bool ng,.slice a nu.length c,.slice b de.length d] 36) (.cells #[.bool ng',.slice a' nu'.length c',.slice b' de'.length d'] 36);obtain ⟨x0,x1,x2⟩:=dF X0;obtain ⟨y0,y1,y2⟩:=dF X1;clear h1 h2 g1 g2 hB X0 X1;generalize decide (nu=nu')=t1 at *;generalize decide (de=de')=t2 at *;cases hng:(ng == ng')
 case false=>
  have hv:=@hid (false=sG ⟨ng,nu,de⟩ ⟨ng',nu',de'⟩) (by rw [hd.out,hng];rfl);go_enter Tryz.func92,Tryz.ntmps92
  go_wp2_with fail
  all_goals (try go_quiet (fail))
  all_goals (try go_wp2)
  go_ret;exact⟨aQ hv.out,hB'.out⟩
 case true=>
  cases t1
  case false=>
   have hv:=@hid (false=sG ⟨ng,nu,de⟩ ⟨ng',nu',de'⟩) (by rw [hd.out,hng];rfl);go_enter Tryz.func92,Tryz.ntmps92
   go_wp2_with fail
   refine hs1.out.mono ?_;rintro e w1 ⟨rfl,q,rfl⟩;go_wp2;go_ret;exact⟨aQ hv.out,hB'.out.drewN q⟩
  case true=>
   have hv:=@hid (t2=sG ⟨ng,nu,de⟩ ⟨ng',nu',de'⟩) (by rw [hd.out,hng];rfl);go_enter Tryz.func92,Tryz.ntmps92
   go_wp2_with fail
   refine hs1.out.mono ?_;rintro e w1 ⟨rfl,q,rfl⟩
   go_wp2_with fail
   refine(hs2.out q).mono ?_;rintro e w2 ⟨rfl,q2,rfl⟩;go_wp2;go_ret;exact⟨aQ hv.out,hB'.out.drewN _⟩
theorem aAg (x y cy:Nat) (hx:x<aO) (hy:y<aO) (hcy:cy<=1):∃d c':Nat,(∀w,(callFunc 238 #[.int .u64 x,.int .u64 y,.int .u64 cy]).run Tryz.prog w = .ok (.value (.tuple #[.int .u64 d,.int .u64 c'])) w)/\d<aO/\c'<=1/\d+aO * c'=x+y+cy:=
 ⟨_,_,fun w=>rP x y cy hcy w,pN _,tU hx hy hcy,aI2 _⟩
theorem wK {ds:List Int} {i c x y A B d c':Nat} (h:aM ds+aO ^ i * c=A+B) (hl:ds.length=i) (h1:d+aO * c'=x+y+c):aM (ds ++ [(d:Int)])+aO ^ (i+1) * c'=A+aO ^ i * x+(B+aO ^ i * y):=by
 have h5:aO ^ i * (d+aO * c')=aO ^ i * (x+y+c):=by rw [h1]
 rw [Nat.mul_add,Nat.mul_add,Nat.mul_add,<-Nat.mul_assoc] at h5;rw [eZ,hl,Nat.pow_succ];omega
section
variable {S S' : Nat -> Prop}
theorem aAh (a b:Option Addr) (n m c d x y:Nat) (w:World) (hx:bJ bV.u64 S w a n (aF x)) (hy:bJ bV.u64 S' w b m (aF y)) (hn:n<=549755813888) (hm:m<=549755813888) :
  Calls Tryz.prog 243 #[.slice a n c,.slice b m d] w fun e w'=>mR (x+y) w e w':=by
 have hX:=hid (hx.mono (S':=fun _=>True) fun _ _ _=>trivial);have hY:=hid (hy.mono (S':=fun _=>True) fun _ _ _=>trivial);clear hx hy;obtain ⟨s,hs⟩:∃s,s=x+y:=⟨_,rfl⟩;have hs':=hid hs;rw [<-hs];clear hs;go_enter Tryz.func243,Tryz.ntmps243
 go_upto_if 14 with fail
 go_cut [0,1] from 10 to 16 (fun v0 v1 wc=>(∃(a b:Option Addr) (n m c d X Y:Nat),v0 = .slice a n c/\v1 = .slice b m d/\m<=n/\n<=549755813888/\Hid (X+Y=s)/\Hid (bJ bV.u64 (fun _=>True) w a n (aF X))/\Hid (bJ bV.u64 (fun _=>True) w b m (aF Y)))/\wc=w)
 case first=>
  by_cases h:n<m
  case pos=>
   have hi:(n:Int)<m:=by omega
   go_wp2;go_meet
   case rel=>exact⟨⟨b,a,m,n,d,c,y,x,rfl,rfl,by omega,hm,by show y+x=s;rw [hs'.out,Nat.add_comm],hY.out,hX.out⟩,rfl⟩
  case neg=>
   have hi:¬(n:Int)<m:=by omega
   go_wp2;go_meet
   case rel=>exact⟨⟨a,b,n,m,c,d,x,y,rfl,rfl,by omega,hn,by show x+y=s;rw [hs'.out],hX.out,hY.out⟩,rfl⟩
 clear hX hY hn hm hs';clear x y a b n m c d;obtain ⟨⟨a,b,n,m,c,d,x,y,rfl,rfl,hmn,hn,hs,hX,hY⟩,rfl⟩:=hcut;obtain ⟨w,rfl⟩:∃w,w=wc:=⟨_,rfl⟩;obtain ⟨w1,hmk,ho1,hb1,hs1⟩:=iV (n+1) w.heap.size w (by omega) aB;rw [show((n+1:Nat):Int)=(n:Int)+1 by simp] at hmk;have lx:=hid hX.out.1;have ly:=hid hY.out.1;have hvx:=hid (aU x);have hvy:=hid (aU y);have O1:=hid ho1;have B1:=hid hb1;have S1:=hid hs1;generalize aF x=xs at *;generalize aF y=ys at *;clear ho1 hb1 hs1;go_wp2
 go_loopw [6,23] (fun v6 v23 wr=>∃(i k cy:Nat) (ds:List Int),i+k=n/\v6 = .int .u64 cy/\v23 = .int .i64 i/\cy<=1/\Hid (ds.length=i)/\Hid (aM ds+aO ^ i * cy=aM (xs.take i)+aM (ys.take i))/\Hid (eW wr w.heap.size w.heap.size (n+1) (ds++List.replicate (k+1) 0))/\Hid (Below w.heap.size w wr)) (fun _ v23 _=>n - (intOf v23).toNat)
 case atStart=>exact⟨0,n,0,[],by omega,rfl,rfl,by omega,(by show([]:List Int).length=0;rfl),(by show aM []+_=_;simp [eV]),O1.out,B1.out⟩
 case round=>
  obtain ⟨i,k,cy,ds,hik,rfl,rfl,hcy,hdl,hdv,hO,hB⟩:=hrel;by_cases hk0:k=0
  case pos=>
   subst hk0;obtain rfl:i=n:=by omega
   have hii:¬(i:Int)<i:=by omega
   have y0:=hO.out.cell (j:=i) (by omega);have f0:=hO.out.frz i;have O2:=hO.out.set (j:=i) (x:=(cy:Nat)) (eF (by unfold aO;omega));rw [jH _ hdl.out,List.replicate_zero,List.append_nil] at O2;have hvv:=hid (show aM (ds ++ [(cy:Int)])=s from by
    have h1:=hdv.out;rw [List.take_of_length_le (by rw [lx.out];exact aB),List.take_of_length_le (by rw [ly.out];exact hmn),hvx.out,hvy.out,hs.out] at h1;rw [eZ,hdl.out,h1])
   have B2:=hid (hB.out.setCell (p:=⟨w.heap.size,i,none⟩) aB (.int .u64 (cy:Nat)));have htr:=hid (eO (some ⟨w.heap.size,0,none⟩) (i+1) (i+1) _ _ O2.datF (by omega) aB (by unfold maxLen;omega));rw [hvv.out] at htr;clear O2
   go_wp2_with fail
   refine htr.out.mono ?_;rintro e w2 ⟨a',c',rfl,hs2,hc1,hc2,_,rfl⟩;have HS:=hid hs2;clear hs2 htr;go_wp2;go_ret;exact⟨a',c',rfl,HS.out,hc1,hc2,B2.out⟩
  case neg=>
   obtain ⟨k',rfl⟩:∃k',k=k'+1:=⟨k - 1,by omega⟩;obtain ⟨b1,o1,rfl,k1,u1⟩:=((hX.out).below hB.out aB).at64 (k:=i) (by rw [lx.out];omega);have e1:=u1.cast;have l1:=hid u1.lt;have tx:=hid (bI (l:=xs) (i:=i) (by rw [lx.out];omega));rw [<-e1] at k1;generalize (nth xs i).toNat=x1 at *;clear e1 u1;have hii:(i:Int)<n:=by omega
   have y0:=hO.out.cell (j:=i) (by omega);have f0:=hO.out.frz i;by_cases him:i<m
   case pos=>
    obtain ⟨b2,o2,rfl,k2,u2⟩:=((hY.out).below hB.out aB).at64 (k:=i) (by rw [ly.out];exact him);have e2:=u2.cast;have l2:=hid u2.lt;have ty:=hid (bI (l:=ys) (i:=i) (by rw [ly.out];exact him));rw [<-e2] at k2;generalize (nth ys i).toNat=y1 at *;clear e2 u2;have hmi:(i:Int)<m:=by omega
    obtain ⟨d1,c1,hs2,hdl0,hcl,hsd⟩:=aAg x1 y1 cy l1.out l2.out hcy;have hst:=hid (wK hdv.out hdl.out hsd);have O2:=hO.out.set (j:=i) (x:=(d1:Nat)) (eF hdl0);rw [jH _ hdl.out] at O2;have O2':=hid O2;have B2:=hid (hB.out.setCell (p:=⟨w.heap.size,i,none⟩) aB (.int .u64 (d1:Nat)));clear hsd hdl0 O2;go_wp2
    go_roundw
    case rel=>exact⟨i+1,k',c1,ds ++ [(d1:Int)],by omega,rfl,by go_num,hcl,(by show(ds++_).length=_;have:=hdl.out;simp;omega),(by show aM _+_=_;rw [tx.out,ty.out];exact hst.out),O2'.out,B2.out⟩
    case measure=>first | (simp [intOf];done) | (simp [intOf];omega)
   case neg=>
    have ty:=hid (yB (l:=ys) (i:=i) (by rw [ly.out];omega));have hmi:¬((i:Int)<m):=by omega
    have hmd:decide ((i:Int)<m)=false:=by simpa using hmi
    obtain ⟨d1,c1,hs2,hdl0,hcl,hsd⟩:=aAg x1 0 cy l1.out (by decide) hcy;have hst:=hid (wK hdv.out hdl.out hsd);rw [show(((0:Nat):Int))=0 from rfl] at hs2;have O2:=hO.out.set (j:=i) (x:=(d1:Nat)) (eF hdl0);rw [jH _ hdl.out] at O2;have O2':=hid O2;have B2:=hid (hB.out.setCell (p:=⟨w.heap.size,i,none⟩) aB (.int .u64 (d1:Nat)));clear hsd hdl0 O2;go_wp2
    go_roundw
    case rel=>exact⟨i+1,k',c1,ds ++ [(d1:Int)],by omega,rfl,by go_num,hcl,(by show(ds++_).length=_;have:=hdl.out;simp;omega),(by show aM _+_=_;rw [tx.out,ty.out];exact hst.out),O2'.out,B2.out⟩
    case measure=>first | (simp [intOf];done) | (simp [intOf];omega)
theorem qS (a b:Option Addr) (n m c d x y:Nat) (w:World) (hx:bJ bV.u64 S w a n (aF x)) (hy:bJ bV.u64 S' w b m (aF y)) (hn:n<=549755813888) (hle:y<=x) :
  Calls Tryz.prog 244 #[.slice a n c,.slice b m d] w fun e w'=>mR (x - y) w e w':=by
 have hX:=hid hx;have hY:=hid hy;have hmn:m<=n:=by rw [<-hx.1,<-hy.1];exact eT hle
 have hle':=hid hle;obtain ⟨w1,hmk,ho1,hb1,hs1⟩:=iV n w.heap.size w (by omega) aB;have lx:=hid hX.out.1;have ly:=hid hY.out.1;have hvx:=hid (aU x);have hvy:=hid (aU y);have O1:=hid ho1;have B1:=hid hb1;have S1:=hid hs1;generalize aF x=xs at *;generalize aF y=ys at *;clear ho1 hb1 hs1 hx hy hle;go_enter Tryz.func244,Tryz.ntmps244
 go_wp2
 go_loopw [6,15] (fun v6 v15 wr=>∃(i k bw:Nat) (ds:List Int),i+k=n/\v6 = .int .u64 bw/\v15 = .int .i64 i/\bw<=1/\Hid (ds.length=i)/\Hid (bO ds)/\Hid (aM ds+aM (ys.take i)=aM (xs.take i)+aO ^ i * bw)/\Hid (eW wr w.heap.size w.heap.size n (ds++List.replicate k 0))/\Hid (Below w.heap.size w wr)) (fun _ v15 _=>n - (intOf v15).toNat)
 case atStart=>exact⟨0,n,0,[],by omega,rfl,rfl,by omega,(by show([]:List Int).length=0;rfl),(fun x hx=>(by simp at hx):bO []),(by show aM []+_=_;simp [eV]),O1.out,B1.out⟩
 case round=>
  obtain ⟨i,k,bw,ds,hik,rfl,rfl,hbw,hdl,hdo,hdv,hO,hB⟩:=hrel;by_cases hk0:k=0
  case pos=>
   subst hk0;obtain rfl:i=n:=by omega
   have hii:¬(i:Int)<i:=by omega
   have O2:=hO.out;rw [List.replicate_zero,List.append_nil] at O2;have hvv:=hid (show aM ds=x - y from by
    have h1:=hdv.out;rw [List.take_of_length_le (l:=xs) (by rw [lx.out];exact aB),List.take_of_length_le (l:=ys) (by rw [ly.out];exact hmn),hvx.out,hvy.out] at h1;have h2:=eR hdo.out;rw [hdl.out] at h2;exact aDc h1 h2 hle'.out)
   have htr:=hid (eO (some ⟨w.heap.size,0,none⟩) i i _ wr O2.datF (by omega) aB (by unfold maxLen;omega));rw [hvv.out] at htr;clear O2
   go_wp2_with fail
   refine htr.out.mono ?_;rintro e w2 ⟨a',c',rfl,hs2,hc1,hc2,_,rfl⟩;have HS:=hid hs2;clear hs2 htr;go_wp2;go_ret;exact⟨a',c',rfl,HS.out,hc1,hc2,hB.out⟩
  case neg=>
   obtain ⟨k',rfl⟩:∃k',k=k'+1:=⟨k - 1,by omega⟩;obtain ⟨b1,o1,rfl,k1,u1⟩:=((hX.out).below hB.out aB).at64 (k:=i) (by rw [lx.out];omega);have e1:=u1.cast;have l1:=hid u1.lt;have tx:=hid (bI (l:=xs) (i:=i) (by rw [lx.out];omega));rw [<-e1] at k1;generalize (nth xs i).toNat=x1 at *;clear e1 u1;have hii:(i:Int)<n:=by omega
   have y0:=hO.out.cell (j:=i) (by omega);have f0:=hO.out.frz i;by_cases him:i<m
   case pos=>
    obtain ⟨b2,o2,rfl,k2,u2⟩:=((hY.out).below hB.out aB).at64 (k:=i) (by rw [ly.out];exact him);have e2:=u2.cast;have l2:=hid u2.lt;have ty:=hid (bI (l:=ys) (i:=i) (by rw [ly.out];exact him));rw [<-e2] at k2;generalize (nth ys i).toNat=y1 at *;clear e2 u2;have hmi:(i:Int)<m:=by omega
    obtain ⟨d1,c1,hs2,hdl0,hcl,hsd⟩:=lS x1 y1 bw l1.out l2.out hbw;have hst:=hid (oD hdv.out hdl.out hsd);have hdok:=hid (hdo.out.snoc hdl0);have O2:=hO.out.set (j:=i) (x:=(d1:Nat)) (eF hdl0);rw [jH _ hdl.out] at O2;have O2':=hid O2;have B2:=hid (hB.out.setCell (p:=⟨w.heap.size,i,none⟩) aB (.int .u64 (d1:Nat)));clear hsd hdl0 O2;go_wp2
    go_roundw
    case rel=>exact⟨i+1,k',c1,ds ++ [(d1:Int)],by omega,rfl,by go_num,hcl,(by show(ds++_).length=_;have:=hdl.out;simp;omega),hdok.out,(by show aM _+_=_;rw [tx.out,ty.out];exact hst.out),O2'.out,B2.out⟩
    case measure=>first | (simp [intOf];done) | (simp [intOf];omega)
   case neg=>
    have ty:=hid (yB (l:=ys) (i:=i) (by rw [ly.out];omega));have hmi:¬((i:Int)<m):=by omega
    have hmd:decide ((i:Int)<m)=false:=by simpa using hmi
    obtain ⟨d1,c1,hs2,hdl0,hcl,hsd⟩:=lS x1 0 bw l1.out (by decide) hbw;have hst:=hid (oD hdv.out hdl.out hsd);have hdok:=hid (hdo.out.snoc hdl0);rw [show(((0:Nat):Int))=0 from rfl] at hs2;have O2:=hO.out.set (j:=i) (x:=(d1:Nat)) (eF hdl0);rw [jH _ hdl.out] at O2;have O2':=hid O2;have B2:=hid (hB.out.setCell (p:=⟨w.heap.size,i,none⟩) aB (.int .u64 (d1:Nat)));clear hsd hdl0 O2;go_wp2
    go_roundw
    case rel=>exact⟨i+1,k',c1,ds ++ [(d1:Int)],by omega,rfl,by go_num,hcl,(by show(ds++_).length=_;have:=hdl.out;simp;omega),hdok.out,(by show aM _+_=_;rw [tx.out,ty.out];exact hst.out),O2'.out,B2.out⟩
    case measure=>first | (simp [intOf];done) | (simp [intOf];omega)
end
theorem aGv (y k cy o:Nat) (hy:y<aO) (hk:k<aO) (hcy:cy<aO) (ho:o<aO):∃mh ml l c1 h1 d c2 h2:Nat,(∀w,Calls Tryz.prog 237 #[.int .u64 y,.int .u64 k] w fun e w'=>e = .returned (.tuple #[.int .u64 mh,.int .u64 ml])/\w'=w) /\
  (∀w,(callFunc 238 #[.int .u64 ml,.int .u64 cy,.int .u64 0]).run Tryz.prog w = .ok (.value (.tuple #[.int .u64 l,.int .u64 c1])) w)/\IntKind.u64.wrap ((mh:Int)+c1)=(h1:Nat) /\
  (∀w,(callFunc 238 #[.int .u64 o,.int .u64 l,.int .u64 0]).run Tryz.prog w = .ok (.value (.tuple #[.int .u64 d,.int .u64 c2])) w)/\IntKind.u64.wrap ((h1:Int)+c2)=(h2:Nat)/\d<aO/\h2<aO/\d+aO * h2=y * k+cy+o:=by
 obtain ⟨mh,ml,l,c1,hm,hs1,hl,hw,hlt,he⟩:=zY y k cy hy hk hcy;have hc2:vD (o+l)<=1:=by have:=tU (c:=0) ho hl (by omega);exact this
 have hd:=aI2 (o+l);have hb:=vW hy hk hcy ho;have hlt2:mh+c1+vD (o+l)<aO:=by
  apply Nat.lt_of_mul_lt_mul_left (a:=aO);rw [Nat.mul_add];have:=pN (o+l);omega
 refine⟨mh,ml,l,c1,mh+c1,sO (o+l),vD (o+l),mh+c1+vD (o+l),hm,hs1,hw,fun w=>pP o l w,?_,pN _,hlt2,?_⟩
 ·rw [show(((mh+c1:Nat):Int)+(vD (o+l):Nat))=((mh+c1+vD (o+l):Nat):Int) by simp];exact bE hlt2
 ·rw [Nat.mul_add];omega
theorem aJc (g o n N c m base k:Nat) (pre win post ys:List Int) (b:Option Addr) (w:World) (hO:eW w base g N (pre++(win++post))) (hp:pre.length=o) (hwl:win.length=n+1)
  (hy:bJ bV.u64 (fun k=>k≠g) w b n ys) (hyo:bO ys) (hn:n<=1099511627776) (hc:n+1<=c) (hk:k<aO) (hov:aM win+aM ys * k<aO ^ (n+1)) :
  Calls Tryz.prog 245 #[.slice (some ⟨g,o,none⟩) (n+1:Nat) c,.slice b n m,.int .u64 k] w fun e w'=>
   e = .returned (.tuple #[])/\∃ds:List Int,ds.length=n+1/\aM ds=aM win+aM ys * k/\eW w' base g N (pre++(ds++post))/\qP g w w':=by
 have hO':=hid hO;have hY:=hid hy;have ly:=hid hy.1;have hyo':=hid hyo;have hp':=hid hp;have hwl':=hid hwl;have hkl:=hid hk;have hov':=hid hov;have hwo:=hid (show bO win from fun x hx=>hO.2.2.1 x (by simp [hx]));have hNl:=hid (show o+n+1<=N from by have:=hO.1;simp at this;omega);clear hO hy hyo hp hwl hk hov;go_enter Tryz.func245,Tryz.ntmps245
 go_wp2
 go_loopw [6,14] (fun v6 v14 wr=>∃(i cy:Nat) (ds:List Int),i<=n/\v6 = .int .u64 cy/\v14 = .int .i64 i/\Hid (cy<aO)/\Hid (ds.length=i)/\Hid (aM ds+aO ^ i * cy=aM (win.take i)+aM (ys.take i) * k)/\Hid (eW wr base g N (pre++((ds++win.drop i)++post)))/\Hid (qP g w wr)) (fun _ v14 _=>n - (intOf v14).toNat)
 case atStart=>exact⟨0,0,[],aV,rfl,rfl,(by show 0<aO;decide),(by show([]:List Int).length=0;rfl),(by show aM []+_=_;simp [eV]),(by have:=hO'.out;rw [List.nil_append,bT];exact this),qP.refl _ _⟩
 case round=>
  obtain ⟨i,cy,ds,hi,rfl,rfl,hcy,hdl,hdv,hOi,hC⟩:=hrel;by_cases hin:i<n
  case pos=>
   obtain ⟨b1,o1,rfl,k1,u1⟩:=((hC.out).rd (hY.out)).at64 (k:=i) (by rw [ly.out];exact hin);have y0:=hOi.out.cell (j:=o+i) (by have:=hNl.out;omega);have f0:=hOi.out.frz (o+i);rw [mF hp'.out hdl.out (by rw [hwl'.out];omega)] at y0;have hxo:=hwo.out.nth (i:=i) (by rw [hwl'.out];omega);have e1:=hxo.cast;have e2:=u1.cast;have l1:=hid hxo.lt;have l2:=hid u1.lt;have tw:=hid (bI (l:=win) (i:=i) (by rw [hwl'.out];omega));have ty:=hid (bI (l:=ys) (i:=i) (by rw [ly.out];exact hin));rw [<-e1] at y0;rw [<-e2] at k1;generalize (nth win i).toNat=x at *;generalize (nth ys i).toNat=y at *;clear e1 e2 hxo u1;obtain ⟨mh,ml,l,c1,h1,d,c2,h2,hm,hs1,hw1,hs2,hw2,hdl0,hhl,hsd⟩:=aGv y k cy x l2.out hkl.out hcy.out l1.out;have hm':=hid hm;have hdlt:=hid hdl0;have hhl':=hid hhl;have hst:=hid (row_step hdv.out hdl.out hsd);have O2:=hid (hOi.out.set (j:=o+i) (x:=(d:Nat)) (eF hdlt.out));have C2:=hid (hC.out.setCell (o+i) (.int .u64 (d:Nat)));have hii:(i:Int)<n:=by omega
   clear hsd hm hdl0 hhl
   go_wp2_with fail
   refine(hm'.out _).mono ?_;rintro e w2 ⟨rfl,rfl⟩;go_wp2
   go_roundw
   case rel=>
    refine⟨i+1,h2,ds ++ [(d:Int)],by omega,by go_num,by go_num,hhl'.out,(by show(ds++_).length=_;have:=hdl.out;simp;omega),(by
     show aM _+_=_;rw [tw.out,ty.out];exact hst.out),?_,C2.out⟩
    have:=O2.out;rw [oC _ hp'.out hdl.out (by rw [hwl'.out];omega)] at this;exact this
   case measure=>first | (simp [intOf];done) | (simp [intOf];omega)
  case neg=>
   obtain rfl:i=n:=by omega
   have y0:=hOi.out.cell (j:=o+i) (by have:=hNl.out;omega);have f0:=hOi.out.frz (o+i);rw [mF hp'.out hdl.out (by rw [hwl'.out];omega)] at y0;have hxo:=hwo.out.nth (i:=i) (by rw [hwl'.out];omega);have e1:=hxo.cast;have l1:=hid hxo.lt;have tw:=hid (bI (l:=win) (i:=i) (by rw [hwl'.out];omega));rw [<-e1] at y0;generalize (nth win i).toNat=x at *;clear e1 hxo;have hdt:=hid (show aM ds+aO ^ i * cy=aM (win.take i)+aM ys * k from by
    have h2:=hdv.out
    rwa [List.take_of_length_le (l:=ys) (by rw [ly.out];exact aB)] at h2)
   have htw:=hid (show aM win=aM (win.take i)+aO ^ i * x from by
    have h3:=tw.out
    rwa [List.take_of_length_le (by rw [hwl'.out];exact aB)] at h3)
   have hxc:x+cy<aO:=by
    apply Nat.lt_of_mul_lt_mul_left (a:=aO ^ i);have h1:=hov'.out;have h2:=hdt.out;have h3:=htw.out;rw [Nat.pow_succ] at h1;rw [Nat.mul_add];omega
   have hw:IntKind.u64.wrap ((x:Int)+cy)=((x+cy:Nat):Int):=by
    rw [show((x:Int)+cy)=((x+cy:Nat):Int) by simp];exact bE hxc
   have O2:=hid (hOi.out.set (j:=o+i) (x:=((x+cy:Nat):Int)) (eF hxc));have C2:=hid (hC.out.setCell (o+i) (.int .u64 ((x+cy:Nat):Int)));have hfin:=hid (show aM (ds ++ [((x+cy:Nat):Int)])=aM win+aM ys * k from by
    have h2:=hdt.out;have h3:=htw.out;rw [eZ,hdl.out,h3,Nat.mul_add];omega)
   clear hxc;generalize x+cy=z at *;go_wp2;go_end0;refine⟨rfl,ds ++ [(z:Int)],(by have:=hdl.out;simp;omega),hfin.out,?_,C2.out⟩;have:=O2.out;rw [oC _ hp'.out hdl.out (by rw [hwl'.out];omega),List.drop_of_length_le (by rw [hwl'.out];exact aB),List.append_nil] at this;exact this
theorem aGw {P W v X k:Nat} (hv:v<P) (hX:X<P) (hk:k<W):v+X * k<P * W:=by
 obtain ⟨p,rfl⟩:∃p,P=p+1:=⟨P - 1,by omega⟩;obtain ⟨q,rfl⟩:∃q,W=q+1:=⟨W - 1,by omega⟩;have h1:X * k<=p * q:=Nat.mul_le_mul (by omega) (by omega);have h2:(p+1) * (q+1)=p * q+p+q+1:=by rw [Nat.add_mul,Nat.mul_add,Nat.mul_one,Nat.one_mul];omega
 omega
structure TmI (X n:Nat) (ys:List Int) (i:Nat) (cur:List Int):Prop where
 ok:bO cur
 v:aM cur=X * aM (ys.take i)
theorem TmI.room {X n i:Nat} {ys pre win post:List Int} (h:TmI X n ys i (pre++(win++post))) (hX:X<aO ^ n) (hy:bO ys) (hp:pre.length=i) (hi:i<ys.length) {k:Nat} (hk:k<aO):aM win+X * k<aO ^ (n+1):=by
 have h1:aM (pre++(win++post))<aO ^ (n+i):=by
  rw [h.v];refine tW hX ?_;have:=eR (l:=ys.take i) fun x hx=>hy x (List.mem_of_mem_take hx)
  rwa [List.length_take,Nat.min_eq_left (by omega)] at this
 rw [dD,dD,hp] at h1;have h2:aM win<aO ^ n:=by
  apply Nat.lt_of_mul_lt_mul_left (a:=aO ^ i);rw [Nat.mul_add] at h1;rw [<-Nat.pow_add,Nat.add_comm i n];omega
 rw [Nat.pow_succ];exact aGw h2 hX hk
theorem TmI.next {X n i k:Nat} {ys pre win post ds:List Int} (h:TmI X n ys i (pre++(win++post))) (hp:pre.length=i) (hi:i<ys.length) (hk:(nth ys i).toNat=k) (hl:ds.length=win.length) (hd:aM ds=aM win+X * k) (ho:bO (pre++(ds++post))):TmI X n ys (i+1) (pre++(ds++post)):=by
 refine⟨ho,?_⟩;have h1:=h.v;rw [dD,dD,hp] at h1;rw [dD,dD,hp,hl,hd,bI hi,hk,Nat.mul_add X,<-h1];rw [Nat.mul_add,Nat.mul_add,Nat.mul_add,<-Nat.mul_assoc X,Nat.mul_comm X (aO ^ i),Nat.mul_assoc];omega
section
variable {S S' : Nat -> Prop}
theorem hD (a b:Option Addr) (n m c d x y:Nat) (w:World) (hx:bJ bV.u64 S w a n (aF x)) (hy:bJ bV.u64 S' w b m (aF y)) (hn:n<=274877906944) (hm:m<=274877906944) :
  Calls Tryz.prog 216 #[.slice a n c,.slice b m d] w fun e w'=>mR (x * y) w e w':=by
 have hX:=hid hx;have hY:=hid hy;obtain ⟨w1,hmk,ho1,hb1,hs1⟩:=iV (n+m+1) w.heap.size w (by omega) aB;rw [show((n+m+1:Nat):Int)=(n:Int)+m+1 by simp] at hmk;have lx:=hid hX.out.1;have ly:=hid hY.out.1;have hvx:=hid (aU x);have hvy:=hid (aU y);have hxlt:=hid (show x<aO ^ n from by have:=eR (dL x);rwa [aU,lx.out] at this);have hxo:=hid (dL x);have hyo:=hid (dL y);have O1:=hid ho1;have B1:=hid hb1;have S1:=hid hs1;generalize aF x=xs at *;generalize aF y=ys at *;clear ho1 hb1 hs1 hx hy;go_enter Tryz.func216,Tryz.ntmps216
 go_wp2
 go_loopw [17] (fun v17 wr=>∃(i:Nat) (cur:List Int),i<=m/\v17 = .int .i64 i/\Hid (TmI x n ys i cur)/\Hid (eW wr w.heap.size w.heap.size (n+m+1) cur)/\Hid (Below w.heap.size w wr)) (fun v17 _=>m - (intOf v17).toNat)
 case atStart=>exact⟨0,_,aV,rfl,⟨bO.zeros _,by rw [mE];simp [eV]⟩,O1.out,B1.out⟩
 case round=>
  obtain ⟨i,cur,hi,rfl,hT,hO,hB⟩:=hrel;by_cases him:i<m
  case neg=>
   obtain rfl:i=m:=by omega
   have hii:¬(i:Int)<i:=by omega
   have hvv:=hid (show aM cur=x * y from by
    have h1:=hT.out.v
    rwa [List.take_of_length_le (by rw [ly.out];exact aB),hvy.out] at h1)
   have htr:=hid (eO (some ⟨w.heap.size,0,none⟩) (n+i+1) (n+i+1) _ wr hO.out.datF (by omega) aB (by unfold maxLen;omega));rw [hvv.out] at htr
   go_wp2_with fail
   refine htr.out.mono ?_;rintro e w2 ⟨a',c',rfl,hs2,hc1,hc2,_,rfl⟩;have HS:=hid hs2;clear hs2 htr;go_wp2;go_ret;exact⟨a',c',rfl,HS.out,hc1,hc2,hB.out⟩
  case pos=>
   have hii:(i:Int)<m:=by omega
   obtain ⟨b2,o2,rfl,k2,u2⟩:=((hY.out).below hB.out aB).at64 (k:=i) (by rw [ly.out];exact him);have e2:=u2.cast;have l2:=hid u2.lt;have hyi:=hid (show i<ys.length from by rw [ly.out];exact him);obtain ⟨kk,hkk⟩:∃kk,(nth ys i).toNat=kk:=⟨_,rfl⟩;have hkk':=hid hkk;rw [<-e2,hkk] at k2;rw [hkk] at l2;clear e2 u2 hkk;obtain ⟨pre,win,post,rfl,hp,hw⟩:=aDa (xs:=cur) (i:=i) (l:=n+1) (by have:=hO.out.1;omega);have hrm:=hid (hT.out.room hxlt.out hyo.out hp hyi.out l2.out);have hro:=aJc w.heap.size i n (n+m+1) (n+m+1 - i) c w.heap.size kk pre win post xs a wr hO.out hp hw ((hX.out.mono (S':=fun k=>k≠w.heap.size) fun _ h _=>Nat.ne_of_lt h).below hB.out aB) hxo.out (by omega) (by omega) l2.out (by rw [hvx.out];exact hrm.out);have hsl:=fun W=>aC9 (g:=w.heap.size) (N:=n+m+1) (i:=i) (n:=n) (by omega) (by omega) W
   rw [show((i+n+1:Nat):Int)=(i:Int)+n+1 by simp] at hsl;have hro':=hid hro;have hp':=hid hp;have hw':=hid hw;clear hro hp hw
   go_wp2_with fail
   refine hro'.out.mono ?_;rintro e w2 ⟨rfl,ds,hdl,hdv,hO2,hC2⟩;have O2:=hid hO2;have B2:=hid (hB.out.trans hC2.below);have T2:=hid (hT.out.next hp'.out hyi.out hkk'.out (by rw [hdl,hw'.out]) (by rw [hdv,hvx.out]) hO2.2.2.1);clear hO2 hC2 hdl hdv hro';go_wp2
   go_roundw
   case rel=>exact⟨i+1,_,by omega,by go_num,T2.out,O2.out,B2.out⟩
   case measure=>first | (simp [intOf];done) | (simp [intOf];omega)
end
end Go.Proofs.YtgoojkiccdjplaaGreatDoor
