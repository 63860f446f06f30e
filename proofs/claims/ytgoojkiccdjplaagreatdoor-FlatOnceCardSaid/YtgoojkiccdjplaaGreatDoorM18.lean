/-
  Parts of this claim's texts, one behind the other: CA ZB CB. No condition.
-/
import Derived.Test.YtgoojkiccdjplaaGreatDoorM17
set_option linter.unusedVariables false
set_option linter.unusedSimpArgs false
set_option maxRecDepth 100000
set_option maxHeartbeats 16000000
namespace Go.Proofs.YtgoojkiccdjplaaGreatDoor
open Go.RowKit Go.Sort Go.Lib
theorem or_bit {x t:Nat} (h:x % 2 ^ (t+1)=0):x ||| 2 ^ t=x+2 ^ t:=by
 have h1:=Nat.div_add_mod x (2 ^ (t+1))
 rw [h,Nat.add_zero] at h1
 rw [←h1]
 exact(Nat.two_pow_add_eq_or_of_lt (Nat.pow_lt_pow_right (by decide) (Nat.lt_succ_self t)) (x / 2 ^ (t+1))).symm
theorem bit_room {x t:Nat} (ht:t<64) (hx:x<2 ^ 64) (h:x % 2 ^ (t+1)=0):x+2 ^ t<2 ^ 64:=by
 have h1:=Nat.div_add_mod x (2 ^ (t+1))
 rw [h,Nat.add_zero] at h1
 have e:(2:Nat) ^ 64=2 ^ (t+1) * 2 ^ (63 - t):=by rw [←Nat.pow_add];congr 1;omega
 have h2:x / 2 ^ (t+1)<2 ^ (63 - t):=by
  apply Nat.lt_of_mul_lt_mul_left (a:=2 ^ (t+1))
  rw [h1,←e];exact hx
 have h3:2 ^ (t+1) * (x / 2 ^ (t+1)+1)≤2 ^ (t+1) * 2 ^ (63 - t):=Nat.mul_le_mul_left _ h2
 rw [Nat.mul_add,h1,←e,Nat.mul_one,Nat.pow_succ] at h3
 have:=Nat.two_pow_pos t
 omega
theorem dm_step {a b V r k:Nat} (h:a=V * b+r) (hr:r<b * 2 ^ (k+1)) (hv:V % 2 ^ (k+1)=0) :
  V % 2 ^ k=0∧(V+2 ^ k) % 2 ^ k=0∧(b * 2 ^ k≤r→a=(V+2 ^ k) * b+(r - b * 2 ^ k)∧r - b * 2 ^ k<b * 2 ^ k):=by
 have h1:V % 2 ^ k=0:=by
  have:=Nat.mod_mod_of_dvd V (Nat.pow_dvd_pow 2 (Nat.le_succ k))
  rw [hv] at this
  rw [←this];rw [Nat.zero_mod]
 refine⟨h1,by rw [Nat.add_mod_right];exact h1,fun hle=>?_⟩
 rw [Nat.pow_succ,←Nat.mul_assoc] at hr
 rw [Nat.add_mul,Nat.mul_comm (2 ^ k) b]
 omega
theorem dm_start {a b p q:Nat} (ha:a<2 ^ p) (hb:2 ^ q≤b):a<b * 2 ^ (p - q):=by
 have:2 ^ p≤b * 2 ^ (p - q):=by
  rcases Nat.le_total q p with h | h
  ·have h2:=Nat.mul_le_mul_right (2 ^ (p - q)) hb
   rw [←Nat.pow_add,show q+(p - q)=p by omega] at h2
   exact h2
  ·rw [Nat.sub_eq_zero_of_le h,Nat.pow_zero,Nat.mul_one]
   exact Nat.le_trans (Nat.pow_le_pow_right (by decide) h) hb
 omega
theorem dm_end {a b V r:Nat} (h:a=V * b+r) (hr:r<b):V=a / b∧r=a % b:=by
 have hb:0<b:=by omega
 rw [h,Nat.mul_comm,Nat.mul_add_div hb,Nat.div_eq_of_lt hr,Nat.mul_add_mod,Nat.mod_eq_of_lt hr]
 exact⟨rfl,rfl⟩
theorem top_bits {t:Nat} {v W x n bl:Nat} (hW:W=2 ^ (64 * n)) (hv:v<W) (hx:x=v+W * t) (h1:1≤bl) (h2:2 ^ (bl - 1)≤t) (h3:t<2 ^ bl):2 ^ (64 * n+bl - 1)≤x∧x<2 ^ (64 * n+bl):=by
 constructor
 ·rw [hx,show 64 * n+bl - 1=64 * n+(bl - 1) by omega,Nat.pow_add,←hW]
  exact Nat.le_trans (Nat.mul_le_mul_left _ h2) (Nat.le_add_left _ _)
 ·rw [hx,Nat.pow_add,←hW]
  have:W * (t+1)≤W * 2 ^ bl:=Nat.mul_le_mul_left _ h3
  rw [Nat.mul_add,Nat.mul_one] at this
  omega
theorem mod_of_limb {V W t j x rest v:Nat} (hV:V % (W * 2 ^ (t+1))=0) (hW:0<W) (hx:V=v+W * (x+2 ^ 64 * rest)) (hv:v<W) (ht:t<64) (_:j=j):x % 2 ^ (t+1)=0:=by
 have h1:=Nat.div_add_mod V (W * 2 ^ (t+1))
 rw [hV,Nat.add_zero,Nat.mul_assoc] at h1
 have h2:v=0:=by
  have:V % W=v:=by rw [hx,Nat.add_mul_mod_self_left,Nat.mod_eq_of_lt hv]
  rw [←this,←h1,Nat.mul_mod_right]
 have h3:x+2 ^ 64 * rest=2 ^ (t+1) * (V / (W * 2 ^ (t+1))):=by
  apply Nat.eq_of_mul_eq_mul_left hW
  rw [h1,hx,h2,Nat.zero_add]
 have h4:(x+2 ^ 64 * rest) % 2 ^ (t+1)=0:=by rw [h3,Nat.mul_mod_right]
 rw [show(2:Nat) ^ 64=2 ^ (t+1) * 2 ^ (63 - t) by rw [←Nat.pow_add];congr 1;omega,Nat.mul_assoc,Nat.add_mul_mod_self_left] at h4
 exact h4
theorem valL_set {l:List Int} {i:Nat} (y:Int) (h:i<l.length):valL (l.set i y)+W64 ^ i * (nth l i).toNat=valL l+W64 ^ i * y.toNat:=by
 have h1:=valL_at h
 have h2:=valL_at (xs:=l.set i y) (i:=i) (by rw [List.length_set];exact h)
 rw [List.take_set_of_le (Nat.le_refl _),List.drop_set_of_lt (Nat.lt_succ_self i),nth_eq (xs:=l.set i y) (by rw [List.length_set];exact h),List.getElem_set_self] at h2
 rw [Nat.mul_add] at h1 h2
 have e:l.drop i.succ=l.drop (i+1):=rfl
 rw [e] at h2
 omega
theorem set_digit {l:List Int} {i t:Nat} (ho:okUs64 l) (hi:i<l.length) (ht:t<64) (hv:valL l % 2 ^ (64 * i+t+1)=0) :
  ∃x z:Nat,nth l i=(x:Int)∧x<W64∧z<W64∧x ||| 2 ^ t=z∧valL (l.set i (z:Int))=valL l+2 ^ (64 * i+t):=by
 have hx:=ho.nth hi
 have e:=two_64
 have hat:=valL_at hi
 have htl:=valL_lt (ho.take i)
 rw [List.length_take,Nat.min_eq_left (by omega)] at htl
 have hp:(2:Nat) ^ (64 * i+t+1)=W64 ^ i * 2 ^ (t+1):=by rw [Nat.add_assoc,two_pow_64]
 rw [hp] at hv
 have hmod:=mod_of_limb (j:=0) (t:=t) (W:=W64 ^ i) hv (Nat.pow_pos W64_pos) (by rw [e];exact hat) htl ht rfl
 have hxl:=hx.lt
 have hroom:=bit_room ht (by rw [e];exact hxl) hmod
 refine⟨(nth l i).toNat,(nth l i).toNat+2 ^ t,hx.cast.symm,hxl,by rw [←e];exact hroom,or_bit hmod,?_⟩
 have hs:=valL_set (l:=l) (((nth l i).toNat+2 ^ t:Nat):Int) hi
 rw [Int.toNat_natCast,Nat.mul_add] at hs
 rw [two_pow_64]
 omega
def bitsN (x:Nat):Nat:=if x=0 then 0 else 64 * ((limbs x).length - 1)+Go.Lib.bitLen (nth (limbs x) ((limbs x).length - 1)).toNat
theorem bitsN_is {x:Nat} (h:0<x):2 ^ (bitsN x - 1)≤x∧x<2 ^ bitsN x∧1≤bitsN x∧bitsN x≤64 * (limbs x).length:=by
 have hl:=limbs_length_pos.2 h
 have hsp:=valL_at (xs:=limbs x) (i:=(limbs x).length - 1) (by omega)
 have ho:=(limbs_ok x).nth (i:=(limbs x).length - 1) (by omega)
 have htl:=valL_lt ((limbs_ok x).take ((limbs x).length - 1))
 rw [List.length_take,Nat.min_eq_left (by omega)] at htl
 rw [valL_limbs,List.drop_eq_nil_of_le (by omega),valL_nil,Nat.mul_zero,Nat.add_zero] at hsp
 have hne:(nth (limbs x) ((limbs x).length - 1)).toNat≠0:=by
  have:=trimmed_limbs x (nth (limbs x) ((limbs x).length - 1)) (by rw [nth_eq (by omega),List.getLast?_eq_getElem?,List.getElem?_eq_getElem (by omega)])
  have:=ho.1
  omega
 unfold bitsN
 rw [if_neg (by omega)]
 have hlt:=ho.lt
 have hbd:=norm_s (y:=(nth (limbs x) ((limbs x).length - 1)).toNat) (by omega) hlt
 have hn1:(limbs x).length - 1+1=(limbs x).length:=by omega
 generalize (nth (limbs x) ((limbs x).length - 1)).toNat=t at *
 generalize (limbs x).length - 1=n at *
 obtain ⟨s,hs,hb,h1,h2⟩:=hbd
 rw [hb]
 have hW:W64 ^ n=2 ^ (64 * n):=by rw [Nat.pow_mul,two_64]
 have p63:(9223372036854775808:Nat)=2 ^ (64 - s - 1) * 2 ^ s:=by rw [←Nat.pow_add,show 64 - s - 1+s=63 by omega]
 have p64:(18446744073709551616:Nat)=2 ^ (64 - s) * 2 ^ s:=by rw [←Nat.pow_add,show 64 - s+s=64 by omega]
 have g1:2 ^ (64 - s - 1)≤t:=Nat.le_of_mul_le_mul_right (by rw [←p63];exact h1) (Nat.two_pow_pos s)
 have g2:t<2 ^ (64 - s):=Nat.lt_of_mul_lt_mul_right (a:=2 ^ s) (by rw [←p64];exact h2)
 obtain ⟨q1,q2⟩:=top_bits (bl:=64 - s) hW htl hsp (by omega) g1 g2
 refine⟨q1,q2,by omega,?_⟩
 omega
theorem bitsN_zero:bitsN 0=0:=by unfold bitsN;rw [if_pos rfl]
section
variable {S S' : Nat → Prop}
theorem rcmp_any (a b:Option Addr) (n m c d x y:Nat) (w:World) (hx:SlR Rep.u64 S w a n (limbs x)) (hy:SlR Rep.u64 S' w b m (limbs y)) (hn:n<17592186044416) (hm:m<17592186044416) :
  Calls Tryz.prog 161 #[.slice a n c,.slice b m d] w fun e w'=>e = .returned (.int .i64 (cmpN x y))∧∃q,w'=w.drewN q:=by
 have lx:=hx.1
 have ly:=hy.1
 by_cases hnm:n=m
 case neg=>
  have hne:¬((n:Int)=m):=by omega
  have hneb:((n:Int) != m)=true:=by simpa using hne
  by_cases hlt:n<m
  ·have hv:=hid (show cmpN x y = -1 from cmpN_lt (limbs_lt_len (by omega)))
   have hli:(n:Int)<m:=by omega
   clear hx hy lx ly hnm
   go_enter Tryz.func161,Tryz.ntmps161
   go_wp2
   go_ret
   exact⟨by rw [hv.out];rfl,0,rfl⟩
  ·have hv:=hid (show cmpN x y=1 from cmpN_gt (limbs_lt_len (by omega)))
   have hli:¬(n:Int)<m:=by omega
   have hld:decide ((n:Int)<m)=false:=by simpa using hli
   clear hx hy lx ly hnm
   go_enter Tryz.func161,Tryz.ntmps161
   go_wp2
   go_ret
   exact⟨by rw [hv.out];rfl,0,rfl⟩
 subst hnm
 have hx':=hid hx
 have hy':=hid hy
 have hox:=hid (limbs_ok x)
 have hoy:=hid (limbs_ok y)
 have hvx:=hid (valL_limbs x)
 have hvy:=hid (valL_limbs y)
 have lx':=hid lx
 have ly':=hid ly
 generalize limbs x=xs at *
 generalize limbs y=ys at *
 clear hx hy lx ly
 go_enter Tryz.func161,Tryz.ntmps161
 go_wp2
 go_loopw [4,5] (fun v4 v5 wr=>∃j:Nat,j≤n∧v4 = .int .i64 0∧v5 = .int .i64 ((j:Int) - 1)∧Hid (∀k,j≤k→k<n→nth xs k=nth ys k)∧∃q,wr=w.drewN q) (fun _ v5 _=>(intOf v5+1).toNat)
 case atStart=>exact⟨n,Nat.le_refl _,rfl,rfl,fun k h1 h2=>absurd h1 (by omega),0,rfl⟩
 case round=>
  obtain ⟨j,hj,rfl,rfl,heq,q,rfl⟩:=hrel
  by_cases hj0:j=0
  ·subst hj0
   go_wp2
   go_ret
   have e:xs=ys:=ext_nth (by rw [lx'.out,ly'.out]) fun k hk=>heq.out k (Nat.zero_le _) (by have:=lx'.out;omega)
   exact⟨by rw [←hvx.out,←hvy.out,e,cmpN_self];rfl,q,rfl⟩
  ·obtain ⟨i,rfl⟩:∃i,j=i+1:=⟨j - 1,by omega⟩
   obtain ⟨b1,o1,rfl,k1,u1⟩:=hx'.out.at64 (k:=i) (by rw [lx'.out];omega)
   obtain ⟨b2,o2,rfl,k2,u2⟩:=hy'.out.at64 (k:=i) (by rw [ly'.out];omega)
   have hji:(((i+1:Nat):Int) - 1)=i:=by omega
   rw [hji]
   have hil:(i:Int)<n:=by omega
   have hi2:i<n:=by omega
   by_cases he:nth xs i=nth ys i
   ·have heq2:=@hid (∀k,i≤k→k<n→nth xs k=nth ys k) (fun k h1 h2=>by
     by_cases hk:k=i
     ·rw [hk];exact he
     ·exact heq.out k (by omega) h2)
    rw [←he] at k2
    clear he hji u1 u2
    generalize nth xs i=z at *
    go_wp2
    go_quiet (fail)
    go_wp2
    go_quiet (fail)
    go_wp2
    go_roundw
    case rel=>exact⟨i,by omega,rfl,rfl,heq2.out,_,by first | rfl | (rw [World.drewN_drewN,World.drewN_drewN]) | (rw [World.drewN_drewN])⟩
    case measure=>first | (simp [intOf];done) | (simp [intOf];omega)
   ·have hje:∀k,i<k→k<xs.length→nth xs k=nth ys k:=fun k h1 h2=>heq.out k (by omega) (by have:=lx'.out;omega)
    by_cases hlt:nth xs i<nth ys i
    ·have hcv:=hid (show cmpN x y = -1 from by
      apply cmpN_lt
      have:=lt_at hox.out (by rw [lx'.out,ly'.out]) (by rw [lx'.out];exact hi2) hje hlt
      rwa [hvx.out,hvy.out] at this)
     have hltd:decide (nth xs i<nth ys i)=true:=by simpa using hlt
     clear he hji hje u1 u2
     generalize nth xs i=z at *
     generalize nth ys i=z' at *
     go_wp2
     go_quiet (fail)
     go_wp2
     go_ret
     exact⟨by rw [hcv.out];rfl,_,by first | rfl | (rw [World.drewN_drewN])⟩
    ·have hgt:nth ys i<nth xs i:=by omega
     have hcv:=hid (show cmpN x y=1 from by
      apply cmpN_gt
      have:=lt_at hoy.out (by rw [lx'.out,ly'.out]) (by rw [ly'.out];exact hi2) (fun k h1 h2=>(hje k h1 (by rw [lx'.out];rw [ly'.out] at h2;exact h2)).symm) hgt
      rwa [hvx.out,hvy.out] at this)
     have hltd:decide (nth xs i<nth ys i)=false:=by simpa using hlt
     have hgtd:decide (nth ys i<nth xs i)=true:=by simpa using hgt
     clear he hji hje u1 u2
     generalize nth xs i=z at *
     generalize nth ys i=z' at *
     go_wp2
     go_quiet (fail)
     go_wp2
     go_quiet (fail)
     go_wp2
     go_ret
     exact⟨by rw [hcv.out];rfl,_,by first | rfl | (rw [World.drewN_drewN,World.drewN_drewN]) | (rw [World.drewN_drewN])⟩
theorem rbits_any (a:Option Addr) (n c x:Nat) (w:World) (hx:SlR Rep.u64 S w a n (limbs x)) (hn:n≤1099511627776):Calls Tryz.prog 217 #[.slice a n c] w fun e w'=>e = .returned (.int .i64 (bitsN x))∧w=w':=by
 rcases Nat.eq_zero_or_pos x with rfl | h0
 ·have hl:=hx.1
  rw [limbs_zero] at hl
  have hl0:n=0:=hl.symm
  subst hl0
  rw [bitsN_zero]
  clear hx hl
  go_enter Tryz.func217,Tryz.ntmps217
  go_wp2
  go_ret
  exact⟨rfl,rfl⟩
 ·have lx:=hx.1
  have hlp:=limbs_length_pos.2 h0
  obtain ⟨k,rfl⟩:∃k,n=k+1:=⟨n - 1,by omega⟩
  obtain ⟨b1,o1,rfl,k1,u1⟩:=hx.at64 (k:=k) (by omega)
  have hbn:bitsN x=64 * k+Go.Lib.bitLen (nth (limbs x) k).toNat:=by unfold bitsN;rw [if_neg (by omega),lx,Nat.add_sub_cancel]
  have hl:=hid (Tryz.bits_Len64 (nth (limbs x) k) w u1.1 u1.2)
  have hbl:=hid (show Lib.bitLen (nth (limbs x) k).toNat≤64 from Lib.bitLen_le _ 64 (Nat.le_refl _) (by have:=u1.lt;unfold W64 at this;exact this))
  have hbn':=hid hbn
  generalize Lib.bitLen (nth (limbs x) k).toNat=bl at *
  generalize nth (limbs x) k=z at *
  have hbl2:=hbl.out
  clear hx lx hlp hbn u1
  go_enter Tryz.func217,Tryz.ntmps217
  go_wp2_with fail
  refine hl.out.mono ?_;rintro e w' ⟨rfl,rfl⟩
  go_wp2
  go_ret
  exact⟨ret_int (by rw [hbn'.out];omega),rfl⟩
end
theorem own64 {w:World} {base:Nat} {v:Value} {xs:List Int} {n:Nat} {us:List Value} (h:w.ownsRow base 177 1 v n us) (ok:okUs xs) (hn:n=xs.length:=by rfl) (hu:us=xs.map (Value.int .u64):=by rfl):OwnR Rep.u64 (fun _=>False) w base 177 v xs:=by
 subst hn hu
 exact OwnC.toU (OwnC.of h) ok
section
variable {S S' : Nat → Prop}
end
theorem rtrim_any {S:Nat→Prop} (a:Option Addr) (n c:Nat) (xs:List Int) (w:World) (hx:SlR Rep.u64 S w a n xs) (hn:n<17592186044416) (hnc:n≤c) :
  Calls Tryz.prog 149 #[.slice a n c] w fun e w'=>NatP (valL xs) w e w':=by
 obtain ⟨k,hk,hz,h0⟩:=trim_k xs
 have h:=trim_any a n c xs k w hx hn hnc (by rw [←hx.1];exact hk) (fun j h1 h2=>hz j h1 (by rw [hx.1];exact h2)) h0
 rw [limbs_take hx.us hk hz h0] at h
 exact h
theorem NatP.from {y:Nat} {w wr w':World} {e:Ending} (h:NatP y wr e w') (hb:Below w.heap.size w wr):NatP y w e w':=by
 obtain ⟨a,c,h1,h2,h3,h4,h5⟩:=h
 exact⟨a,c,h1,h2.mono fun _ _ hk=>⟨hk.1,Nat.le_trans hb.size hk.2⟩,h3,h4,hb.trans (h5.mono hb.size)⟩
theorem sub_step2 {ds:List Int} {i b x y A B d b':Nat} (h:valL ds+B=A+W64 ^ i * b) (hl:ds.length=i) (h2:d+y+b=x+W64 * b') :
  valL (ds ++ [(d:Int)])+(B+W64 ^ i * y)=A+W64 ^ i * x+W64 ^ (i+1) * b':=by
 have h5:W64 ^ i * (d+y+b)=W64 ^ i * (x+W64 * b'):=by rw [h2]
 rw [Nat.mul_add,Nat.mul_add,Nat.mul_add,←Nat.mul_assoc] at h5
 rw [valL_snoc,hl,Nat.pow_succ]
 omega
theorem sub_fin {V x y P b:Nat} (h:V+y=x+P * b) (hV:V<P) (hle:y≤x):V=x - y:=by
 rcases Nat.eq_zero_or_pos b with rfl | hb
 ·rw [Nat.mul_zero] at h;omega
 ·have:P * 1≤P * b:=Nat.mul_le_mul_left _ hb
  omega
theorem take_ge {l:List Int} {i:Nat} (h:l.length≤i):valL (l.take (i+1))=valL (l.take i)+W64 ^ i * 0:=by
 rw [List.take_of_length_le (by omega),List.take_of_length_le h,Nat.mul_zero,Nat.add_zero]
section
variable {S S' : Nat → Prop}
theorem rsub_any (a b:Option Addr) (n m c d x y:Nat) (w:World) (hx:SlR Rep.u64 S w a n (limbs x)) (hy:SlR Rep.u64 S' w b m (limbs y)) (hn:n≤1099511627776) (hle:y≤x) :
  Calls Tryz.prog 219 #[.slice a n c,.slice b m d] w fun e w'=>NatP (x - y) w e w':=by
 have hX:=hid hx
 have hY:=hid hy
 have lx:=hid hx.1
 have ly:=hid hy.1
 have hmn:m≤n:=by rw [←hx.1,←hy.1];exact limbs_mono hle
 have hle':=hid hle
 have hvx:=hid (valL_limbs x)
 have hvy:=hid (valL_limbs y)
 generalize limbs x=xs at *
 generalize limbs y=ys at *
 obtain ⟨i0,hi0,hz0,hz1,hz2⟩:=info_parts info_u64
 clear hx hy hle
 go_enter Tryz.func219,Tryz.ntmps219
 go_wp2
 go_loopw [5,6,7,8,9,10] (fun vo vc vi _ _ _ wr=>∃(i bw:Nat) (ds:List Int),i≤n∧vc = .int .u64 bw∧vi = .int .i64 i∧bw≤1∧Hid (ds.length=i)∧Hid (okUs64 ds)∧Hid (valL ds+valL (ys.take i)=valL (xs.take i)+W64 ^ i * bw)∧Hid (wr.ownsRow w.heap.size 177 1 vo i (ds.map (Value.int .u64)))∧Hid (Below w.heap.size w wr)) (fun _ _ vi _ _ _ _=>n - (intOf vi).toNat)
 case atStart=>exact⟨0,0,[],Nat.zero_le _,rfl,rfl,by omega,(by show([]:List Int).length=0;rfl),(fun x hx=>(by simp at hx):okUs64 []),(by show valL []+_=_;simp [valL_nil]),World.ownsRow_nil _ _ _ _,Below.refl _ _⟩
 case round=>
  obtain ⟨i,bw,ds,hi,rfl,rfl,hbw,hdl,hdo,hdv,hO,hB⟩:=hrel
  by_cases hin:i<n
  case pos=>
   obtain ⟨b1,o1,rfl,k1,u1⟩:=((hX.out).below hB.out (Nat.le_refl _)).at64 (k:=i) (by rw [lx.out];exact hin)
   have e1:=u1.cast
   have l1:=hid u1.lt
   have tx:=hid (valL_take_succ (l:=xs) (i:=i) (by rw [lx.out];exact hin))
   rw [←e1] at k1
   generalize (nth xs i).toNat=x1 at *
   clear e1 u1
   have hii:(i:Int)<n:=by omega
   have hsz:=hB.out.size
   by_cases him:i<m
   case pos=>
    obtain ⟨b2,o2,rfl,k2,u2⟩:=((hY.out).below hB.out (Nat.le_refl _)).at64 (k:=i) (by rw [ly.out];exact him)
    have e2:=u2.cast
    have l2:=hid u2.lt
    have ty:=hid (valL_take_succ (l:=ys) (i:=i) (by rw [ly.out];exact him))
    rw [←e2] at k2
    generalize (nth ys i).toNat=y1 at *
    clear e2 u2
    have hmi:(i:Int)<m:=by omega
    obtain ⟨d1,b',hs2,hdl0,hbl,hsd⟩:=sub_pack x1 y1 bw l1.out l2.out hbw
    have hst:=hid (sub_step2 hdv.out hdl.out hsd)
    have hdok:=hid (hdo.out.snoc hdl0)
    clear hsd hdl0
    go_wp2_with (at_builtin;refine wpList_append_own _ rfl _ _ 34 rfl w.heap.size 177 i0 (.int .u64 0) 1 8 Tryz.underlying34 hi0 hz0 hz1 hz2 rfl (by decide) _ _ _ rfl (hO.out.alloc _) ⟨wr.heap.size,0,none⟩ 1 1 [.int .u64 (d1:Nat)] rfl rfl ?m1 ?m2 ?m3 ?m4 ?m5 ?_)
    (try case m1=>intro z u hu;match z,hu with | 0,hu=>simp at hu;subst hu;(simp [Addr.add]) <;> decide)
    case m2=>first | rfl | (intro u hu;simp at hu;subst hu;rfl)
    case m3=>unfold maxLen;omega
    case m4=>omega
    case m5=>first | omega | (simp;omega)
    intro v' w1 ho hg _
    have B1:=hid (((hB.out.alloc hB.out.size _).grown hg (by simp;omega) (fun k hk=>(hO.out.lt k hk).1)))
    have O1:=hid (show w1.ownsRow w.heap.size 177 1 v' (i+1) ((ds ++ [(d1:Int)]).map (Value.int .u64)) from by rw [List.map_append];exact ho)
    clear ho hg
    go_wp2
    go_roundw
    case rel=>exact⟨i+1,b',ds ++ [(d1:Int)],by omega,by first | rfl | go_num,by first | rfl | go_num,hbl,(by show(ds++_).length=_;have:=hdl.out;simp;omega),hdok.out,(by show valL _+_=_;rw [tx.out,ty.out];exact hst.out),O1.out,B1.out⟩
    case measure=>first | (simp [intOf];done) | (simp [intOf];omega)
   case neg=>
    have ty:=hid (take_ge (l:=ys) (i:=i) (by rw [ly.out];omega))
    have hmi:¬((i:Int)<m):=by omega
    have hmd:decide ((i:Int)<m)=false:=by simpa using hmi
    obtain ⟨d1,b',hs2,hdl0,hbl,hsd⟩:=sub_pack x1 0 bw l1.out (by decide) hbw
    have hst:=hid (sub_step2 hdv.out hdl.out hsd)
    have hdok:=hid (hdo.out.snoc hdl0)
    rw [show(((0:Nat):Int))=0 from rfl] at hs2
    clear hsd hdl0
    go_wp2_with (at_builtin;refine wpList_append_own _ rfl _ _ 34 rfl w.heap.size 177 i0 (.int .u64 0) 1 8 Tryz.underlying34 hi0 hz0 hz1 hz2 rfl (by decide) _ _ _ rfl (hO.out.alloc _) ⟨wr.heap.size,0,none⟩ 1 1 [.int .u64 (d1:Nat)] rfl rfl ?m1 ?m2 ?m3 ?m4 ?m5 ?_)
    (try case m1=>intro z u hu;match z,hu with | 0,hu=>simp at hu;subst hu;(simp [Addr.add]) <;> decide)
    case m2=>first | rfl | (intro u hu;simp at hu;subst hu;rfl)
    case m3=>unfold maxLen;omega
    case m4=>omega
    case m5=>first | omega | (simp;omega)
    intro v' w1 ho hg _
    have B1:=hid (((hB.out.alloc hB.out.size _).grown hg (by simp;omega) (fun k hk=>(hO.out.lt k hk).1)))
    have O1:=hid (show w1.ownsRow w.heap.size 177 1 v' (i+1) ((ds ++ [(d1:Int)]).map (Value.int .u64)) from by rw [List.map_append];exact ho)
    clear ho hg
    go_wp2
    go_roundw
    case rel=>exact⟨i+1,b',ds ++ [(d1:Int)],by omega,by first | rfl | go_num,by first | rfl | go_num,hbl,(by show(ds++_).length=_;have:=hdl.out;simp;omega),hdok.out,(by show valL _+_=_;rw [tx.out,ty.out];exact hst.out),O1.out,B1.out⟩
    case measure=>first | (simp [intOf];done) | (simp [intOf];omega)
  case neg=>
   obtain rfl:i=n:=by omega
   obtain ⟨a',c',rfl,hcc⟩:=(OwnC.of hO.out).slice
   have hval:=hid (show valL ds=x - y from by
    have h1:=hdv.out
    rw [List.take_of_length_le (l:=xs) (by rw [lx.out];exact Nat.le_refl _),List.take_of_length_le (l:=ys) (by rw [ly.out];exact hmn),hvx.out,hvy.out] at h1
    have h2:=valL_lt hdo.out
    rw [hdl.out] at h2
    exact sub_fin h1 h2 hle'.out)
   have htr:=hid (rtrim_any a' i c' ds wr ((own64 hO.out hdo.out hdl.out.symm).datF (n:=0) (Nat.zero_le _)) (by omega) hcc.1)
   rw [hval.out] at htr
   go_wp2_with fail
   refine htr.out.mono ?_;rintro e w2 hP
   have hP':=hid (hP.from hB.out)
   obtain ⟨a2,c2,rfl,_⟩:=hP
   go_wp2
   go_ret
   exact hP'.out
theorem up_pack (x c k:Nat) (hx:x<W64) (hc:c<2 ^ k) (hk:k<64):∃lo d v t:Nat,IntKind.u64.wrap ((x:Int) * 2 ^ k)=(lo:Nat)∧bits .or .u64 (lo:Int) (c:Int)=(d:Nat)∧d<W64 ∧
  IntKind.u64.wrap (64 - (k:Int))=(t:Nat)∧(0<k→min t 64=t)∧(x:Int) / 2 ^ t=(v:Nat)∧v<2 ^ k∧d+W64 * v=c+x * 2 ^ k:=by
 have hup:=up_parts hx hk
 have hcW:c<W64:=Nat.lt_trans hc (by rw [←two_64];exact Nat.pow_lt_pow_right (by decide) hk)
 have hlo:x * 2 ^ k % W64<W64:=Nat.mod_lt _ W64_pos
 have hol:=or_low (x:=x) (k:=k) (t:=c) (by omega) hc
 refine⟨x * 2 ^ k % W64,c ||| (x * 2 ^ k % W64),x / 2 ^ (64 - k),64 - k,?_,?_,?_,?_,?_,cast_dpow _ _,hup.2,?_⟩
 ·rw [cast_pow,IntKind.wrap_u64];unfold W64;omega
 ·rw [Nat.or_comm]
  exact(bits_nat .u64 64 (by decide) wraps_u64 (x * 2 ^ k % W64) c (by rw [two_64];exact hlo) (by rw [two_64];exact hcW)).2
 ·rw [←two_64];exact Nat.or_lt_two_pow (by rw [two_64];exact hcW) (by rw [two_64];exact hlo)
 ·rw [show(64 - (k:Int))=((64 - k:Nat):Int) by omega];exact wrap64_nat (by omega)
 ·intro _;omega
 ·rw [hol,Nat.add_assoc,hup.1]
theorem make_row (n:Nat) (w:World) (hn:n≤1099511627776) :
  ∃w',(Instr.makeSlice 34 (.int .i64 n) (.int .i64 n)).run Tryz.prog w = .ok (.slice (some ⟨w.heap.size,0,none⟩) n n) w'∧w'.ownsRow w.heap.size 177 1 (.slice (some ⟨w.heap.size,0,none⟩) n n) n ((List.replicate n (0:Int)).map (Value.int .u64))∧Below w.heap.size w w':=by
 obtain ⟨i0,hi,hz0,hz1,hz2⟩:=info_parts info_u64
 obtain ⟨w',h1,h2,h3⟩:=run_make_full (P:=Tryz.prog) w w.heap.size 34 177 i0 (.int .u64 0) 1 Tryz.underlying34 hi hz0 hz1 .i64 .i64 n (by rw [hz2];omega) (by unfold maxLen;omega) (Nat.le_refl _)
 refine⟨w',h1,?_,⟨h3.os,h3.tape,h3.output,h3.size,fun k hk=>h3.block k hk (by simp)⟩⟩
 rw [Nat.mul_one,show(Value.int IntKind.u64 0).cells = #[.int .u64 0] from rfl,toList_madeCells_one] at h2
 rw [List.map_replicate]
 exact h2
theorem up_fin {x k m:Nat} {ds:List Int} {c:Nat} (h:valL ds+W64 ^ m * c=x * 2 ^ (k % 64)) (hl:ds.length=m):valL (List.replicate (k / 64) 0++(ds ++ [(c:Int)]))=x * 2 ^ k:=by
 rw [valL_append,valL_zeros,List.length_replicate,Nat.zero_add,valL_snoc,hl,h]
 have:2 ^ k=W64 ^ (k / 64) * 2 ^ (k % 64):=by rw [←two_pow_64,Nat.div_add_mod]
 rw [this,←Nat.mul_assoc,←Nat.mul_assoc,Nat.mul_comm x]
theorem rshift_any (a : Option Addr) (n c x k : Nat) (w : World) (hx : SlR Rep.u64 S w a n (limbs x)) (hn : n ≤ 1000000) (hk : k ≤ 1000000) :
    Calls Tryz.prog 218 #[.slice a n c, .int .i64 k] w fun e w' => NatP (x * 2 ^ k) w e w' := by
  obtain ⟨w1, hmk, ho1, hb1⟩ := make_row (k / 64) w (by omega)
  have hX := hid hx
  have lx := hid hx.1
  have hvx := hid (valL_limbs x)
  have O1 := hid ho1
  have B1 := hid hb1
  obtain ⟨s, hs⟩ : ∃ s, s = k % 64 := ⟨_, rfl⟩
  obtain ⟨z, hz⟩ : ∃ z, z = k / 64 := ⟨_, rfl⟩
  have hs64 : s < 64 := by omega
  have q1 : Int.tdiv (k : Int) 64 = (z : Nat) := by rw [Int.tdiv_eq_ediv_of_nonneg (by omega)]; omega
  have q2 : Int.tmod (k : Int) 64 = (s : Nat) := by rw [Int.tmod_eq_emod_of_nonneg (by omega)]; omega
  have q3 : IntKind.u64.wrap (s : Int) = s := wrap64_nat (by omega)
  have q4 : min s 64 = s := by omega
  have hzk : z ≤ 15625 := by omega
  have hfin := hid (fun (m cy : Nat) (ds : List Int) (h : valL ds + W64 ^ m * cy = x * 2 ^ s) (hl : ds.length = m) => show valL (List.replicate z 0 ++ (ds ++ [(cy : Int)])) = x * 2 ^ k from by
    rw [hs] at h; rw [hz]; exact up_fin h hl)
  have hki : ¬ ((k : Int) < 0) := by omega
  have hkd : decide ((k : Int) < 0) = false := decide_eq_false hki
  rw [← hz] at hmk O1
  generalize limbs x = xs at *
  obtain ⟨i0, hi0, hz0, hz1, hz2⟩ := info_parts info_u64
  clear hx ho1 hb1 hs hz hki
  go_enter Tryz.func218, Tryz.ntmps218
  go_wp2
  go_loopw [9, 11, 12] (fun vo vc vi wr => ∃ (i cy : Nat) (ds : List Int), i ≤ n ∧ vc = .int .u64 cy ∧ vi = .int .i64 i ∧ Hid (cy < 2 ^ s) ∧ Hid (ds.length = i) ∧ Hid (okUs64 ds) ∧ Hid (valL ds + W64 ^ i * cy = valL (xs.take i) * 2 ^ s) ∧ Hid (wr.ownsRow w.heap.size 177 1 vo (z + i) ((List.replicate z 0 ++ ds).map (Value.int .u64))) ∧ Hid (Below w.heap.size w wr)) (fun _ _ vi _ => n - (intOf vi).toNat)
  case atStart => exact ⟨0, 0, [], Nat.zero_le _, rfl, rfl, Nat.two_pow_pos s, (by show ([] : List Int).length = 0; rfl), (fun x hx => (by simp at hx) : okUs64 []), (by show valL [] + _ = _; simp [valL_nil]), (by rw [List.append_nil]; exact O1.out), B1.out⟩
  case round =>
    obtain ⟨i, cy, ds, hi, rfl, rfl, hcy, hdl, hdo, hdv, hO, hB⟩ := hrel
    have hsz := hB.out.size
    have hcyW := hid (show cy < W64 from Nat.lt_of_lt_of_le hcy.out (by rw [← two_64]; exact Nat.pow_le_pow_right (by decide) (Nat.le_of_lt hs64)))
    by_cases hin : i < n
    case pos =>
      obtain ⟨b1, o1, rfl, k1, u1⟩ := ((hX.out).below hB.out (Nat.le_refl _)).at64 (k := i) (by rw [lx.out]; exact hin)
      have e1 := u1.cast
      have l1 := hid u1.lt
      have hlt1 := hid (World.block_lt_of_cell? wr _ k1)
      have tx := hid (valL_take_succ (l := xs) (i := i) (by rw [lx.out]; exact hin))
      rw [← e1] at k1
      generalize (nth xs i).toNat = x1 at *
      clear e1 u1
      have hii : (i : Int) < n := by omega
      obtain ⟨lo, d1, v1, t1, p1, p2, pd, p3, p4, p5, pv, pe⟩ := up_pack x1 cy s l1.out hcy.out hs64
      have hst := hid (left_step hdv.out hdl.out pe)
      have hdok := hid (hdo.out.snoc pd)
      have PV := hid pv
      have hkb : b1 < w.heap.size := by
        have h2 := (hX.out.2 (by omega)).choose_spec
        obtain ⟨o', he, hlt, _⟩ := h2
        injection he with he
        injection he with h1 h2 _
        rw [h1]; exact hlt
      have kk := hid k1
      by_cases hs0 : 0 < s
      case pos =>
        have hs0i : (0 : Int) < s := by omega
        have p4' := p4 hs0
        clear pe pd pv p4
        go_wp2_with (at_builtin; refine wpList_append_own _ rfl _ _ 34 rfl w.heap.size 177 i0 (.int .u64 0) 1 8 Tryz.underlying34 hi0 hz0 hz1 hz2 rfl (by decide) _ _ _ rfl (hO.out.alloc _) ⟨wr.heap.size, 0, none⟩ 1 1 [.int .u64 (d1 : Nat)] rfl rfl ?m1 ?m2 ?m3 ?m4 ?m5 ?_)
        (try case m1 => intro z u hu; match z, hu with | 0, hu => simp at hu; subst hu; (simp [Addr.add]) <;> decide)
        case m2 => first | rfl | (intro u hu; simp at hu; subst hu; rfl)
        case m3 => unfold maxLen; omega
        case m4 => omega
        case m5 => first | omega | (simp; omega)
        intro v' w2 ho hg _
        have B2 := hid (((hB.out.alloc hB.out.size _).grown hg (by simp; omega) (fun k hk => (hO.out.lt k hk).1)))
        have O2 := hid (show w2.ownsRow w.heap.size 177 1 v' (z + (i + 1)) ((List.replicate z 0 ++ (ds ++ [(d1 : Int)])).map (Value.int .u64)) from by rw [← Nat.add_assoc]; simpa using ho)
        have k2 : w2.cell? ⟨b1, o1 + i, none⟩ = some (.int .u64 x1) := by
          rw [World.cell?_of_block (w := w) (a := ⟨b1, o1 + i, none⟩) (B2.out.block b1 hkb), ← World.cell?_of_block (w := w) (w' := wr) (a := ⟨b1, o1 + i, none⟩) (hB.out.block b1 hkb)]
          exact kk.out
        clear ho hg
        go_wp2
        go_roundw
        case rel => exact ⟨i + 1, v1, ds ++ [(d1 : Int)], by omega, by first | rfl | go_num, by first | rfl | go_num, PV.out, (by show (ds ++ _).length = _; have := hdl.out; simp; omega), hdok.out, (by show valL _ + _ = _; rw [tx.out]; exact hst.out), O2.out, B2.out⟩
        case measure => first | (simp [intOf]; done) | (simp [intOf]; omega)
      case neg =>
        have hs0i : ¬ ((0 : Int) < s) := by omega
        have hv0 : v1 = 0 := by have : s = 0 := by omega
                                subst this; simp at pv; exact pv
        subst hv0
        clear pe pd pv p4
        go_wp2_with (at_builtin; refine wpList_append_own _ rfl _ _ 34 rfl w.heap.size 177 i0 (.int .u64 0) 1 8 Tryz.underlying34 hi0 hz0 hz1 hz2 rfl (by decide) _ _ _ rfl (hO.out.alloc _) ⟨wr.heap.size, 0, none⟩ 1 1 [.int .u64 (d1 : Nat)] rfl rfl ?m1 ?m2 ?m3 ?m4 ?m5 ?_)
        (try case m1 => intro z u hu; match z, hu with | 0, hu => simp at hu; subst hu; (simp [Addr.add]) <;> decide)
        case m2 => first | rfl | (intro u hu; simp at hu; subst hu; rfl)
        case m3 => unfold maxLen; omega
        case m4 => omega
        case m5 => first | omega | (simp; omega)
        intro v' w2 ho hg _
        have B2 := hid (((hB.out.alloc hB.out.size _).grown hg (by simp; omega) (fun k hk => (hO.out.lt k hk).1)))
        have O2 := hid (show w2.ownsRow w.heap.size 177 1 v' (z + (i + 1)) ((List.replicate z 0 ++ (ds ++ [(d1 : Int)])).map (Value.int .u64)) from by rw [← Nat.add_assoc]; simpa using ho)
        clear ho hg
        go_wp2
        go_roundw
        case rel => exact ⟨i + 1, 0, ds ++ [(d1 : Int)], by omega, by first | rfl | go_num, by first | rfl | go_num, PV.out, (by show (ds ++ _).length = _; have := hdl.out; simp; omega), hdok.out, (by show valL _ + _ = _; rw [tx.out]; exact hst.out), O2.out, B2.out⟩
        case measure => first | (simp [intOf]; done) | (simp [intOf]; omega)
    case neg =>
      obtain rfl : i = n := by omega
      have hval := hid (hfin.out i cy ds (by
        have h1 := hdv.out
        rw [List.take_of_length_le (by rw [lx.out]; exact Nat.le_refl _), hvx.out] at h1
        exact h1) hdl.out)
      have hok := hid (show okUs64 (List.replicate z 0 ++ (ds ++ [(cy : Int)])) from (okUs64.zeros z).append (hdo.out.snoc hcyW.out))
      have hlen := hid (show (List.replicate z 0 ++ (ds ++ [(cy : Int)])).length = z + i + 1 from by have := hdl.out; simp; omega)
      go_wp2_with (at_builtin; refine wpList_append_own _ rfl _ _ 34 rfl w.heap.size 177 i0 (.int .u64 0) 1 8 Tryz.underlying34 hi0 hz0 hz1 hz2 rfl (by decide) _ _ _ rfl (hO.out.alloc _) ⟨wr.heap.size, 0, none⟩ 1 1 [.int .u64 (cy : Nat)] rfl rfl ?z1 ?z2 ?z3 ?z4 ?z5 ?_)
      (try case z1 => intro z u hu; match z, hu with | 0, hu => simp at hu; subst hu; (simp [Addr.add]) <;> decide)
      case z2 => first | rfl | (intro u hu; simp at hu; subst hu; rfl)
      case z3 => unfold maxLen; omega
      case z4 => omega
      case z5 => first | omega | (simp; omega)
      intro v' w2 ho hg _
      have B2 := hid (((hB.out.alloc hB.out.size _).grown hg (by simp; omega) (fun k hk => (hO.out.lt k hk).1)))
      have O2 := show w2.ownsRow w.heap.size 177 1 v' (z + i + 1) ((List.replicate z 0 ++ (ds ++ [(cy : Int)])).map (Value.int .u64)) from by simpa using ho
      obtain ⟨a', c', rfl, hcc⟩ := (OwnC.of O2).slice
      have htr := hid (rtrim_any a' (z + i + 1) c' _ w2 ((own64 O2 hok.out hlen.out.symm).datF (n := 0) (Nat.zero_le _)) (by omega) hcc.1)
      rw [hval.out] at htr
      clear ho hg O2
      go_wp2_with fail
      refine htr.out.mono ?_; rintro e w3 hP
      have hP' := hid (hP.from B2.out)
      obtain ⟨a2, c2, rfl, _⟩ := hP
      go_wp2
      go_ret
      exact hP'.out
end
end Go.Proofs.YtgoojkiccdjplaaGreatDoor
