/-
  Parts of this claim's texts, one behind the other: CC CD ZC ZD. No condition.
-/
import Derived.Test.YtgoojkiccdjplaaGreatDoorM18
import Derived.Deep.LoopGhost
set_option linter.unusedVariables false
set_option linter.unusedSimpArgs false
set_option maxRecDepth 100000
set_option maxHeartbeats 16000000
namespace Go.Proofs.YtgoojkiccdjplaaGreatDoor
open Go.RowKit Go.Sort Go.Lib
def NatX (S:Nat→Prop) (y:Nat) (w:World) (v:Value):Prop:=∃a c,v = .slice a (limbs y).length c∧SlR Rep.u64 S w a (limbs y).length (limbs y)∧(limbs y).length≤c∧c≤maxLen∧(limbs y).length≤10000
abbrev NatT (y:Nat) (w:World) (v:Value):Prop:=NatX (fun _=>True) y w v
section
variable {S S' : Nat → Prop} {y : Nat} {w w' : World} {v : Value}
theorem NatX.all (h:NatX S y w v) (hb:Below w.heap.size w w'):NatX S y w' v:=by
 obtain ⟨a,c,h1,h2,h3⟩:=h
 exact⟨a,c,h1,h2.below hb (Nat.le_refl _),h3⟩
theorem NatX.mono (h:NatX S y w v) (hk:∀b,b<w.heap.size→S b→S' b):NatX S' y w v:=by
 obtain ⟨a,c,h1,h2,h3⟩:=h
 exact⟨a,c,h1,h2.mono hk,h3⟩
theorem NatX.top (h:NatX S y w v):NatT y w v:=h.mono fun _ _ _=>trivial
theorem NatX.set {g:Nat} (h:NatX (fun k=>k≠g) y w v) (i:Nat) (u:Value):NatX (fun k=>k≠g) y (w.setCell ⟨g,i,none⟩ u) v:=by
 obtain ⟨a,c,h1,h2,h3⟩:=h
 exact⟨a,c,h1,h2.keep (fun b _ hb=>Below.heap_setCell _ _ _ _ hb) (Nat.le_of_eq size_set.symm),h3⟩
theorem NatP.toX (h:NatP y w (.returned v) w') (hl:(limbs y).length≤10000):NatX (fun k=>w.heap.size≤k) y w' v∧Below w.heap.size w w':=by
 obtain ⟨a,c,h1,h2,h3,h4,h5⟩:=h
 injection h1 with h1
 exact⟨⟨a,c,h1,h2.mono fun _ _ hk=>hk.2,h3,h4,hl⟩,h5⟩
end
theorem NatP.val {y:Nat} {w w':World} {e:Ending} (h:NatP y w e w'):∃v,e = .returned v∧NatP y w (.returned v) w':=by
 obtain ⟨a,c,h1,h2,h3,h4,h5⟩:=h
 subst h1
 exact⟨_,rfl,a,c,rfl,h2,h3,h4,h5⟩
theorem rcmp_T {x y:Nat} {v1 v2:Value} {w:World} (h1:NatT x w v1) (h2:NatT y w v2):Calls Tryz.prog 161 #[v1,v2] w fun e w'=>e = .returned (.int .i64 (cmpN x y))∧∃q,w'=w.drewN q:=by
 obtain ⟨a,c,rfl,s1,_,_,l1⟩:=h1
 obtain ⟨b,d,rfl,s2,_,_,l2⟩:=h2
 exact rcmp_any a b _ _ c d x y w s1 s2 (by omega) (by omega)
theorem rsub_T {x y:Nat} {v1 v2:Value} {w:World} (h1:NatT x w v1) (h2:NatT y w v2) (hle:y≤x):Calls Tryz.prog 219 #[v1,v2] w fun e w'=>∃v,e = .returned v∧NatX (fun k=>w.heap.size≤k) (x - y) w' v∧Below w.heap.size w w':=by
 obtain ⟨a,c,rfl,s1,_,_,l1⟩:=h1
 obtain ⟨b,d,rfl,s2,_,_,l2⟩:=h2
 refine(rsub_any a b _ _ c d x y w s1 s2 (by omega) hle).mono ?_
 rintro e w' h
 obtain ⟨v,rfl,h⟩:=h.val
 exact⟨v,rfl,h.toX (Nat.le_trans (limbs_mono (Nat.sub_le _ _)) l1)⟩
theorem rshift_T {x:Nat} {v1:Value} {w:World} (h1:NatT x w v1) (k:Nat) (hk:k≤1000000) (hl:(limbs (x * 2 ^ k)).length≤10000):Calls Tryz.prog 218 #[v1,.int .i64 k] w fun e w'=>∃v,e = .returned v∧NatX (fun k=>w.heap.size≤k) (x * 2 ^ k) w' v∧Below w.heap.size w w':=by
 obtain ⟨a,c,rfl,s1,_,_,l1⟩:=h1
 refine(rshift_any a _ c x k w s1 (by omega) hk).mono ?_
 rintro e w' h
 obtain ⟨v,rfl,h⟩:=h.val
 exact⟨v,rfl,h.toX hl⟩
theorem digit_or (x t:Nat) (hx:x<W64) (ht:t<64):∃p:Nat,IntKind.u64.wrap ((2:Int) ^ t)=(p:Nat)∧IntKind.u64.wrap (1 * (2:Int) ^ t)=(p:Nat)∧bits .or .u64 (x:Int) (p:Int)=((x ||| 2 ^ t:Nat):Int):=by
 have h:(2:Nat) ^ t<2 ^ 64:=Nat.pow_lt_pow_right (by decide) ht
 have h2:IntKind.u64.wrap ((2:Int) ^ t)=((2 ^ t:Nat):Int):=by
  rw [show((2:Int) ^ t)=((2 ^ t:Nat):Int) by simp]
  exact wrap64_nat (by rw [two_64] at h;exact h)
 exact⟨2 ^ t,h2,by rw [Int.one_mul];exact h2,(bits_nat .u64 64 (by decide) wraps_u64 x (2 ^ t) (by rw [two_64];exact hx) h).2⟩
theorem bits_le {x y:Nat} (hy:0<y) (hle:y≤x):bitsN y≤bitsN x:=by
 have h1:=bitsN_is hy
 have h2:=bitsN_is (Nat.lt_of_lt_of_le hy hle)
 have h3:2 ^ (bitsN y - 1)<2 ^ bitsN x:=Nat.lt_of_le_of_lt (Nat.le_trans h1.1 hle) h2.2.1
 have h4:=(Nat.pow_lt_pow_iff_right (a:=2) (by decide)).1 h3
 omega
def DivP2 (x y:Nat) (w:World) (e:Ending) (w':World):Prop:=∃v1 v2,e = .returned (.tuple #[v1,v2])∧NatT (x / y) w' v1∧NatT (x % y) w' v2∧Below w.heap.size w w'
theorem digit_pack (j:Nat):∃i t:Nat,i=j / 64∧t=j % 64∧t<64∧Int.tdiv (j:Int) 64=(i:Nat)∧Int.tmod (j:Int) 64=(t:Nat)∧IntKind.u64.wrap (t:Int)=t∧min t 64=t∧j=64 * i+t:=by
 refine⟨j / 64,j % 64,rfl,rfl,Nat.mod_lt _ (by decide),?_,?_,wrap64_nat ?_,?_,(Nat.div_add_mod j 64).symm⟩
 ·rw [Int.tdiv_eq_ediv_of_nonneg (by omega)];omega
 ·rw [Int.tmod_eq_emod_of_nonneg (by omega)];omega
 ·omega
 ·omega
theorem rdivmod_any (v1 v2:Value) (x y:Nat) (w:World) (hx:NatT x w v1) (hy:NatT y w v2) (hy0:0<y) :
  Calls Tryz.prog 186 #[v1,v2] w fun e w'=>DivP2 x y w e w':=by
 have hX:=hid hx
 have hY:=hid hy
 have hcm:=hid (rcmp_T hx hy)
 by_cases hlt:x<y
 case pos=>
  rw [cmpN_lt hlt] at hcm
  have hq:=hid (show x / y=0∧x % y=x from⟨Nat.div_eq_of_lt hlt,Nat.mod_eq_of_lt hlt⟩)
  clear hx hy hlt hy0
  obtain ⟨a,c,rfl,h2⟩:=hX.out
  go_enter Tryz.func186,Tryz.ntmps186
  go_wp2_with fail
  refine hcm.out.mono ?_;rintro e w1 ⟨rfl,qn,rfl⟩
  go_wp2
  go_ret2
  refine⟨_,_,rfl,?_,?_,(Below.refl _ _).drewN qn⟩
  ·rw [hq.out.1];exact⟨none,0,by rw [limbs_zero];rfl,by rw [limbs_zero];exact SlR.nil _ _ _ _,by rw [limbs_zero];exact Nat.le_refl _,Nat.zero_le _,by rw [limbs_zero];exact Nat.zero_le _⟩
  ·rw [hq.out.2];exact hX.out.all ((Below.refl _ _).drewN qn)
 case neg=>
  have hle:y≤x:=by omega
  have hcv:¬(cmpN x y<0):=by unfold cmpN;split <;> (try split) <;> omega
  have hcd:decide (cmpN x y<0)=false:=by simpa using hcv
  have hbx:=bitsN_is (Nat.lt_of_lt_of_le hy0 hle)
  have hby:=bitsN_is hy0
  have hbl:=bits_le hy0 hle
  have hst0:=hid (dm_start hbx.2.1 hby.1)
  obtain ⟨a,c,rfl,s1,c1,c2,l1⟩:=hx
  obtain ⟨b,d,rfl,s2,d1,d2,l2⟩:=hy
  generalize hcvv:cmpN x y=cv at *
  have hb1:=fun W (hW:Below w.heap.size w W)=>rbits_any a _ c x W (s1.below hW (Nat.le_refl _)) (by omega)
  have hb2:=fun W (hW:Below w.heap.size w W)=>rbits_any b _ d y W (s2.below hW (Nat.le_refl _)) (by omega)
  generalize hbX:bitsN x=bx at *
  generalize hbY:bitsN y=by' at *
  generalize hlx0:(limbs x).length=n at *
  have hlx:=hid hlx0
  clear hlx0
  obtain ⟨J,hJ⟩:∃J,bx=by'+J:=⟨bx - by',by omega⟩
  have hJi:(bx:Int) - by'=J:=by omega
  have hJl:J+1≤64 * n:=by omega
  have hst1:=hid (show x<y * 2 ^ (J+1) from by have:=hst0.out;rwa [show bx - (by' - 1)=J+1 by omega] at this)
  have hB1:=hid hb1
  have hB2:=hid hb2
  have hlen:=hid (fun j (h:j≤J)=>show(limbs (y * 2 ^ j)).length≤10000 from by
   refine Nat.le_trans (limbs_length_le (k:=n) ?_) l1
   have h1:y * 2 ^ j<2 ^ by' * 2 ^ J:=Nat.lt_of_lt_of_le (Nat.mul_lt_mul_of_pos_right hby.2.1 (Nat.two_pow_pos j)) (Nat.mul_le_mul_left _ (Nat.pow_le_pow_right (by decide) h))
   rw [←Nat.pow_add,←hJ] at h1
   have h2:2 ^ bx≤2 ^ (64 * n):=Nat.pow_le_pow_right (by decide) hbx.2.2.2
   have h3:(2:Nat) ^ (64 * n)=W64 ^ n:=by rw [Nat.pow_mul,two_64]
   rw [←h3]
   exact Nat.lt_of_lt_of_le h1 h2)
  have hn4:n≤10000:=l1
  clear hcvv hbX hbY hst0 hb1 hb2 s1 s2 hJ hbx hby hle
  go_enter Tryz.func186,Tryz.ntmps186
  go_wp2_with fail
  refine hcm.out.mono ?_;rintro e w1 ⟨rfl,qn,hw1⟩
  have W1:=hid (show Below w.heap.size w w1 from by rw [hw1];exact(Below.refl _ _).drewN qn)
  obtain ⟨w2,hmk2,ho2,hb2,hs2⟩:=make_u64 n w.heap.size w1 (by omega) W1.out.size
  have O2:=hid ho2
  have W2:=hid (W1.out.trans (hb2.mono W1.out.size))
  have hgw:=W1.out.size
  clear hw1 ho2 hb2 hs2
  go_wp2_with fail
  refine(hB1.out w2 W2.out).mono ?_;rintro e w' ⟨rfl,rfl⟩
  go_wp2_with fail
  refine(hB2.out w2 W2.out).mono ?_;rintro e w' ⟨rfl,rfl⟩
  go_wp2
  generalize hg:w1.heap.size=g at *
  clear hg hmk2
  go_loopw [7,8,9] (fun vr vk _ wr=>∃(j V r:Nat) (qs:List Int),j≤J+1∧vk = .int .i64 ((j:Int) - 1)∧Hid (x=V * y+r)∧Hid (r<y * 2 ^ j)∧Hid (V % 2 ^ j=0)∧Hid (valL qs=V)∧Hid (OwnU wr w.heap.size g n qs)∧Hid (NatX (fun k=>k≠g) r wr vr)∧Hid (Below w.heap.size w wr)) (fun _ vk _ _=>(intOf vk+1).toNat)
  case atStart=>exact⟨J+1,0,x,List.replicate n 0,Nat.le_refl _,by go_num,by show x=0 * y+x;omega,hst1.out,Nat.zero_mod _,valL_zeros n,O2.out,(hX.out.mono fun b hb _=>(by omega)).all W2.out,W2.out⟩
  case round=>
   obtain ⟨j,V,r,qs,hj,rfl,he,hr,hm,hv,hO,hR,hB⟩:=hrel
   by_cases hj0:j=0
   case pos=>
    subst hj0
    have hfin:=hid (dm_end he.out (by have:=hr.out;rwa [Nat.pow_zero,Nat.mul_one] at this))
    have htr:=rtrim_any (some ⟨g,0,none⟩) n n qs wr hO.out.datF (by omega) (Nat.le_refl _)
    rw [hv.out] at htr
    have htr':=hid htr
    have hVl:=hid (show(limbs V).length≤10000 from by
     rw [hfin.out.1]
     exact Nat.le_trans (limbs_mono (Nat.div_le_self x y)) (by rw [hlx.out];exact hn4))
    clear htr
    go_wp2_with fail
    refine htr'.out.mono ?_;rintro e w3 hP
    obtain ⟨v3,rfl,hP⟩:=hP.val
    obtain ⟨hT3,hb3⟩:=hP.toX hVl.out
    have T3:=hid hT3
    have B3:=hid hb3
    clear hP hT3 hb3 htr'
    go_wp2
    go_ret2
    exact⟨_,_,rfl,by rw [←hfin.out.1];exact T3.out.top,by rw [←hfin.out.2];exact(hR.out.all B3.out).top,hB.out.trans (B3.out.mono hB.out.size)⟩
   case neg=>
    obtain ⟨k,rfl⟩:∃k,j=k+1:=⟨j - 1,by omega⟩
    have hji:(((k+1:Nat):Int) - 1)=k:=by omega
    rw [hji]
    obtain ⟨i,t,hi64,ht64,ht,q1,q2,q3,q4,hk⟩:=digit_pack k
    have q5:((k:Int) / 64)=(i:Nat):=by omega
    have q6:((k:Int) % 64)=(t:Nat):=by omega
    have hin:i<n:=by omega
    have hii:(i:Int)<n:=by omega
    have q7:k / 64=i:=hi64.symm
    have q8:k % 64=t:=ht64.symm
    clear hi64 ht64
    have hstep:=hid (dm_step he.out hr.out hm.out)
    have hsh:=hid (rshift_T (hY.out.all hB.out) k (by omega) (hlen.out k (by omega)))
    have hk':=hid hk
    clear hji hk
    go_wp2_with fail
    refine hsh.out.mono ?_;rintro e w3 ⟨v3,rfl,t3,b3⟩
    have B3:=hid (hB.out.trans (b3.mono hB.out.size))
    have O3:=hid (hO.out.same (b3.block g hO.out.lt))
    have hcm2:=hid (rcmp_T (hR.out.all b3).top t3.top)
    have T3:=hid t3
    have R3:=hid (hR.out.all b3)
    clear t3 b3 hsh
    by_cases hge:y * 2 ^ k≤r
    case pos=>
     have hcv2:(0:Int)≤cmpN r (y * 2 ^ k):=by unfold cmpN;split <;> (try split) <;> omega
     have hcv2d:decide ((0:Int)≤cmpN r (y * 2 ^ k))=true:=by simpa using hcv2
     have hst:=hid (hstep.out.2.2 hge)
     have hge':=hid hge
     generalize cmpN r (y * 2 ^ k)=cv2 at *
     clear hge
     go_wp2_with fail
     refine hcm2.out.mono ?_;rintro e w4 ⟨rfl,qn4,hw4⟩
     have b4:Below w3.heap.size w3 w4:=by rw [hw4];exact(Below.refl _ _).drewN qn4
     have hsb:=hid (rsub_T (R3.out.all b4).top (T3.out.all b4).top hge'.out)
     have B4:=hid (B3.out.trans (b4.mono B3.out.size))
     have O4:=hid (O3.out.same (b4.block g O3.out.lt))
     clear hw4 b4 hcm2
     go_wp2_with fail
     refine hsb.out.mono ?_;rintro e w5 ⟨v5,rfl,t5,b5⟩
     have B5:=hid (B4.out.trans (b5.mono B4.out.size))
     have O5:=hid (O4.out.same (b5.block g O4.out.lt))
     have T5:=hid (t5.mono (S':=fun k=>k≠g) fun b _ hb=>(by have:=O4.out.lt;omega))
     clear t5 b5 hsb
     obtain ⟨xd,zd,hnd,hxl,hzl,hor,hset⟩:=set_digit (l:=qs) (i:=i) (t:=t) O5.out.2.2.1 (by rw [O5.out.1];exact hin) ht (by rw [hv.out,←hk'.out];exact hm.out)
     obtain ⟨pd,p1,p2,p3⟩:=digit_or xd t hxl ht
     rw [hor] at p3
     have y0:=O5.out.cell (j:=i) hin
     rw [hnd] at y0
     have f0:=O5.out.frz i
     have O6:=hid (O5.out.set (j:=i) (x:=(zd:Int)) (okU_nat hzl))
     have hset':=hid hset
     have hgs:=O5.out.lt
     have B6:=hid (B5.out.setCell (p:=⟨g,i,none⟩) hgw (.int .u64 (zd:Int)))
     have T6:=hid (T5.out.set i (.int .u64 (zd:Int)))
     clear hnd hxl hzl hor hset
     go_wp2
     go_roundw
     case rel=>exact⟨k,V+2 ^ k,r - y * 2 ^ k,qs.set i (zd:Int),by omega,by first | rfl | go_num,hst.out.1,hst.out.2,hstep.out.2.1,by show valL _=_;rw [hset'.out,hv.out,←hk'.out],O6.out,T6.out,B6.out⟩
     case measure=>first | (simp [intOf];done) | (simp [intOf];omega)
    case neg=>
     have hcv2:¬(0:Int)≤cmpN r (y * 2 ^ k):=by unfold cmpN;rw [if_pos (by omega)];decide
     have hcv2d:decide ((0:Int)≤cmpN r (y * 2 ^ k))=false:=by simpa using hcv2
     have hlt2:=hid (show r<y * 2 ^ k by omega)
     generalize cmpN r (y * 2 ^ k)=cv2 at *
     clear hge
     go_wp2_with fail
     refine hcm2.out.mono ?_;rintro e w4 ⟨rfl,qn4,hw4⟩
     have b4:Below w3.heap.size w3 w4:=by rw [hw4];exact(Below.refl _ _).drewN qn4
     have B4:=hid (B3.out.trans (b4.mono B3.out.size))
     have O4:=hid (O3.out.same (b4.block g O3.out.lt))
     have R4:=hid (R3.out.all b4)
     clear hw4 b4 hcm2
     go_wp2
     go_roundw
     case rel=>exact⟨k,V,r,qs,by omega,by first | rfl | go_num,he.out,hlt2.out,hstep.out.1,hv.out,O4.out,R4.out,B4.out⟩
     case measure=>first | (simp [intOf];done) | (simp [intOf];omega)
def GcdP (x y:Nat) (w:World) (e:Ending) (w':World):Prop:=∃v,e = .returned v∧NatT (Nat.gcd x y) w' v∧Below w.heap.size w w'
theorem rgcd_any (v1 v2:Value) (x y:Nat) (w:World) (hx:NatT x w v1) (hy:NatT y w v2) :
  Calls Tryz.prog 162 #[v1,v2] w fun e w'=>GcdP x y w e w':=by
 have hx':=hid hx
 have hy':=hid hy
 clear hx hy
 go_enter Tryz.func162,Tryz.ntmps162
 go_wp2
 go_loopg [0,1] y (fun g u0 u1 wr=>∃z,Hid (NatT z wr u0)∧Hid (NatT g wr u1)∧Hid (Nat.gcd z g=Nat.gcd x y)∧Hid (Below w.heap.size w wr))
 case atStart=>exact⟨x,hx'.out,hy'.out,rfl,Below.refl _ _⟩
 case round=>
  obtain ⟨g,hgk⟩:∃g,g=gk:=⟨_,rfl⟩
  subst hgk
  obtain ⟨z,hz,hg,he,hb⟩:=hrel
  by_cases hg0:g=0
  case pos=>
   subst hg0
   obtain ⟨b,d,rfl,s1,s2,s3,s4⟩:=hg.out
   have hl0:(limbs 0).length=0:=by rw [limbs_zero];rfl
   rw [hl0] at *
   have hgz:=hid (show Nat.gcd x y=z from by rw [←he.out,Nat.gcd_zero_right])
   clear s1 s2 s3 s4 hl0
   go_wp2
   go_ret
   exact⟨_,rfl,by rw [hgz.out];exact hz.out,hb.out⟩
  case neg=>
   have hgp:0<g:=by omega
   have hq:=hid (rdivmod_any u0 u1 z g wr hz.out hg.out hgp)
   obtain ⟨b,d,rfl,s1,s2,s3,s4⟩:=hg.out
   have hlp:0<(limbs g).length:=limbs_length_pos.2 hgp
   have hlt:=hid (Nat.mod_lt z hgp)
   have he2:=hid (show Nat.gcd g (z % g)=Nat.gcd x y from by rw [←he.out,Nat.gcd_comm z g,Nat.gcd_rec g z,Nat.gcd_comm])
   clear s1 s2 s3 s4 hz he
   generalize hlg:(limbs g).length=lg at *
   clear hlg
   go_wp2_with fail
   refine hq.out.mono ?_;rintro e w4 ⟨q1,q2,rfl,hn1,hn2,hb4⟩
   have N1:=hid (hg.out.all hb4)
   have N2:=hid hn2
   have HB:=hid (hb.out.trans (hb4.mono hb.out.size))
   clear hn1 hn2 hb4 hq
   go_wp2
   go_roundg (z % g)
   case measure=>exact hlt.out
   case rel=>exact⟨g,N1.out,N2.out,he2.out,HB.out⟩
theorem rvalidNat_any {S:Nat→Prop} (a:Option Addr) (n c:Nat) (xs:List Int) (w:World) (hx:SlR Rep.u64 S w a n xs) (hn:n<1099511627776):Calls Tryz.prog 160 #[.slice a n c] w fun e w'=>e = .returned (.bool (okNat xs))∧w=w':=by
 have hd:=@Lib.hid (okNat xs=(decide (xs.length≤64) && (decide (xs.length=0) || !(nth xs (xs.length - 1) == 0)))) rfl
 have lx:=hx.1
 by_cases h64:n≤64
 case neg=>
  have hv:=@Lib.hid (false=okNat xs) (by rw [hd.out];simp [show ¬xs.length≤64 by omega])
  have hi:¬(n:Int)≤64:=by omega
  have hid:decide ((n:Int)≤64)=false:=by simpa using hi
  clear hx lx hd
  go_enter Tryz.func160,Tryz.ntmps160
  go_wp2
  go_ret
  exact⟨ret_bool hv.out,rfl⟩
 have hi:(n:Int)≤64:=by omega
 by_cases h0:n=0
 ·have hv:=@Lib.hid (true=okNat xs) (by rw [hd.out];simp [show xs.length=0 by omega])
  subst h0
  clear hx lx hd hi
  go_enter Tryz.func160,Tryz.ntmps160
  go_wp2
  go_ret
  exact⟨ret_bool hv.out,rfl⟩
 ·obtain ⟨k,rfl⟩:∃k,n=k+1:=⟨n - 1,by omega⟩
  obtain ⟨b,o,rfl,k0,_⟩:=hx.at64 (k:=k) (by omega)
  have hv:=@Lib.hid (okNat xs = !(nth xs k == 0)) (by rw [hd.out,lx,decide_eq_true (show k+1≤64 by omega),decide_eq_false (show ¬k+1=0 by omega)];rfl)
  have h0i:¬((k+1:Nat):Int)=0:=by omega
  have h0d:decide (((k+1:Nat):Int)=0)=false:=by simpa using h0i
  clear hx lx hd
  generalize nth xs k=y at *
  go_enter Tryz.func160,Tryz.ntmps160
  go_wp2
  go_ret
  exact⟨ret_bool hv.out.symm,rfl⟩
theorem rone_any (w:World):Calls Tryz.prog 163 #[] w fun e w'=>e = .returned (.slice (some ⟨w.heap.size,0,none⟩) 1 1)∧w'=w.alloc (.cells #[.int .u64 1] 177):=by
 go_enter Tryz.func163,Tryz.ntmps163
 go_wp2
 go_ret
 exact⟨rfl,rfl⟩
theorem take_eq_succ {xs ys:List Int} {k:Nat} (hx:k<xs.length) (hy:k<ys.length):(xs.take (k+1)=ys.take (k+1))↔(xs.take k=ys.take k∧nth xs k=nth ys k):=by
 rw [List.take_succ_eq_append_getElem hx,List.take_succ_eq_append_getElem hy,nth_eq hx,nth_eq hy]
 constructor
 ·intro h
  have hl:(xs.take k).length=(ys.take k).length:=by rw [List.length_take,List.length_take];omega
  have:=List.append_inj h hl
  exact⟨this.1,by have:=this.2;injection this⟩
 ·rintro ⟨h1,h2⟩;rw [h1,h2]
theorem sameLimbs_any {S S':Nat→Prop} (a b:Option Addr) (n m c d:Nat) (xs ys:List Int) (w:World) (hx:SlR Rep.u64 S w a n xs) (hy:SlR Rep.u64 S' w b m ys) (hn:n<17592186044416) (hm:m<17592186044416) :
  Calls Tryz.prog 145 #[.slice a n c,.slice b m d] w fun e w'=>e = .returned (.bool (decide (xs=ys)))∧∃q,w'=w.drewN q:=by
 have lx:=hx.1
 have ly:=hy.1
 by_cases hnm:n=m
 case neg=>
  have hv:=hid (show false=decide (xs=ys) from(decide_eq_false fun e=>hnm (by rw [←lx,←ly,e])).symm)
  have hne:¬((n:Int)=m):=by omega
  have hneb:((n:Int) != m)=true:=by simpa using hne
  clear hx hy lx ly
  go_enter Tryz.func145,Tryz.ntmps145
  go_wp2
  go_ret
  exact⟨ret_bool hv.out,0,rfl⟩
 subst hnm
 have hx':=hid hx
 have hy':=hid hy
 have lx':=hid lx
 have ly':=hid ly
 clear hx hy lx ly
 go_enter Tryz.func145,Tryz.ntmps145
 go_wp2
 go_loopw [4,5] (fun v4 v wr=>∃k:Nat,k≤n∧v4 = .bool false∧v = .int .i64 k∧Hid (xs.take k=ys.take k)∧∃q,wr=w.drewN q) (fun _ v _=>n - (intOf v).toNat)
 case atStart=>exact⟨0,Nat.zero_le _,rfl,rfl,rfl,0,rfl⟩
 case round=>
  obtain ⟨k,hk,rfl,rfl,heq,q,rfl⟩:=hrel
  by_cases hkn:k<n
  case pos=>
   obtain ⟨b1,o1,rfl,k1,_⟩:=hx'.out.at64 (k:=k) (by rw [lx'.out];omega)
   obtain ⟨b2,o2,rfl,k2,_⟩:=hy'.out.at64 (k:=k) (by rw [ly'.out];omega)
   have hsucc:=hid (take_eq_succ (xs:=xs) (ys:=ys) (k:=k) (by rw [lx'.out];omega) (by rw [ly'.out];omega))
   have hki:(k:Int)<n:=by omega
   by_cases he:nth xs k=nth ys k
   ·have h2:=hid (hsucc.out.2 ⟨heq.out,he⟩)
    rw [←he] at k2
    clear he
    generalize nth xs k=z at *
    go_wp2
    go_quiet (fail)
    go_wp2
    go_roundw
    case rel=>exact⟨k+1,by omega,rfl,by go_num,h2.out,_,rfl⟩
    case measure=>first | (simp [intOf];done) | (simp [intOf];omega)
   ·have hv:=hid (show false=decide (xs=ys) from(decide_eq_false fun e=>he (by rw [e])).symm)
    have hb:(nth xs k != nth ys k)=true:=by simpa using he
    clear he hsucc
    generalize nth xs k=z at *
    generalize nth ys k=z' at *
    go_wp2
    go_quiet (fail)
    go_wp2
    go_ret
    exact⟨ret_bool hv.out,_,by first | rfl | (rw [World.drewN_drewN])⟩
  case neg=>
   have hv:=hid (show true=decide (xs=ys) from(decide_eq_true (by
    have:=heq.out
    rwa [List.take_of_length_le (by rw [lx'.out];omega),List.take_of_length_le (by rw [ly'.out];omega)] at this)).symm)
   go_wp2
   go_ret
   exact⟨ret_bool hv.out,_,by first | rfl | (rw [World.drewN_drewN])⟩
def sameR (a b:RatD):Bool:=(a.neg == b.neg) && (decide (a.num=b.num) && decide (a.den=b.den))
theorem rsame_any {S S':Nat→Prop} (r s:RatD) (a b a' b':Option Addr) (c d c' d':Nat) (w:World) (h1:SlR Rep.u64 S w a r.num.length r.num) (h2:SlR Rep.u64 S w b r.den.length r.den) (g1:SlR Rep.u64 S' w a' s.num.length s.num) (g2:SlR Rep.u64 S' w b' s.den.length s.den)
  (hn:r.num.length<17592186044416) (hm:r.den.length<17592186044416) (gn:s.num.length<17592186044416) (gm:s.den.length<17592186044416) :
  Calls Tryz.prog 92 #[ratV r a c b d,ratV s a' c' b' d'] w fun e w'=>e = .returned (.bool (sameR r s))∧Below w.heap.size w w':=by
 have hd:=@hid (sameR r s=((r.neg == s.neg) && (decide (r.num=s.num) && decide (r.den=s.den)))) rfl
 obtain ⟨ng,nu,de⟩:=r
 obtain ⟨ng',nu',de'⟩:=s
 dsimp only at *
 have hB:Below w.heap.size w ((w.alloc (.cells #[.bool ng,.slice a nu.length c,.slice b de.length d] 36)).alloc (.cells #[.bool ng',.slice a' nu'.length c',.slice b' de'.length d'] 36)):=below2 w _ _
 have hB':=hid hB
 have hs1:=hid (sameLimbs_any a a' _ _ c c' nu nu' _ (h1.below hB (Nat.le_refl _)) (g1.below hB (Nat.le_refl _)) (by omega) (by omega))
 have hs2:=hid (fun q=>sameLimbs_any b b' _ _ d d' de de' _ ((h2.below hB (Nat.le_refl _)).below ((Below.refl _ _).drewN q) (Nat.le_refl _)) ((g2.below hB (Nat.le_refl _)).below ((Below.refl _ _).drewN q) (Nat.le_refl _)) (by omega) (by omega))
 have X0:=heap2a w (.cells #[.bool ng,.slice a nu.length c,.slice b de.length d] 36) (.cells #[.bool ng',.slice a' nu'.length c',.slice b' de'.length d'] 36)
 have X1:=heap2b w (.cells #[.bool ng,.slice a nu.length c,.slice b de.length d] 36) (.cells #[.bool ng',.slice a' nu'.length c',.slice b' de'.length d'] 36)
 have x0:=cell_p X0 0
 have x1:=cell_p X0 1
 have x2:=cell_p X0 2
 have y0:=cell_p X1 0
 have y1:=cell_p X1 1
 have y2:=cell_p X1 2
 simp only [List.getElem?_toArray,List.getElem?_cons_succ,List.getElem?_cons_zero] at x0 x1 x2 y0 y1 y2
 clear h1 h2 g1 g2 hB X0 X1
 generalize decide (nu=nu')=t1 at *
 generalize decide (de=de')=t2 at *
 cases hng:(ng == ng')
 case false=>
  have hv:=@hid (false=sameR ⟨ng,nu,de⟩ ⟨ng',nu',de'⟩) (by rw [hd.out,hng];rfl)
  go_enter Tryz.func92,Tryz.ntmps92
  go_wp2_with fail
  all_goals (try go_quiet (fail))
  all_goals (try go_wp2)
  go_ret
  exact⟨ret_bool hv.out,hB'.out⟩
 case true=>
  cases t1
  case false=>
   have hv:=@hid (false=sameR ⟨ng,nu,de⟩ ⟨ng',nu',de'⟩) (by rw [hd.out,hng];rfl)
   go_enter Tryz.func92,Tryz.ntmps92
   go_wp2_with fail
   refine hs1.out.mono ?_;rintro e w1 ⟨rfl,q,rfl⟩
   go_wp2
   go_ret
   exact⟨ret_bool hv.out,hB'.out.drewN q⟩
  case true=>
   have hv:=@hid (t2=sameR ⟨ng,nu,de⟩ ⟨ng',nu',de'⟩) (by rw [hd.out,hng];rfl)
   go_enter Tryz.func92,Tryz.ntmps92
   go_wp2_with fail
   refine hs1.out.mono ?_;rintro e w1 ⟨rfl,q,rfl⟩
   go_wp2_with fail
   refine(hs2.out q).mono ?_;rintro e w2 ⟨rfl,q2,rfl⟩
   go_wp2
   go_ret
   exact⟨ret_bool hv.out,hB'.out.drewN _⟩
end Go.Proofs.YtgoojkiccdjplaaGreatDoor
