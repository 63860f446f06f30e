/-
  Parts of this claim's texts, one behind the other: YQ AA AB AC AD BA BB BC. No condition.
-/
import Derived.Test.YtgoojkiccdjplaaGreatDoorN6
import Derived.Test.YtgoojkiccdjplaaGreatDoorN3
import Derived.Lib.BitFns
import Derived.Lib.ItoaNum
import Derived.Lib.EndianBits
set_option linter.unusedVariables false
set_option linter.unusedSimpArgs false
set_option maxRecDepth 100000
set_option maxHeartbeats 16000000
namespace Go.Proofs.YtgoojkiccdjplaaGreatDoor
open Go.RowKit Go.Sort Go.Lib
abbrev dK (r:cE) (a:Option Addr) (c:Nat) (b:Option Addr) (d:Nat):Value:=.agg #[.bool r.neg,.slice a r.num.length c,.slice b r.den.length d]
theorem zU (r:cE) (a b:Option Addr) (c d:Nat) (w:World):Calls Tryz.prog 84 #[dK r a c b d] w fun e w'=>e = .returned (.bool (oT r))/\Below w.heap.size w w':=by
 have hd:=@hid (oT r=(!r.neg && (decide (r.num.length=0) && decide (r.den.length=0)))) rfl;obtain ⟨ng,nu,de⟩:=r;dsimp only at *;cases ng
 case true=>
  have hv:=@hid (false=oT ⟨true,nu,de⟩) (by rw [hd.out];rfl);go_enter Tryz.func84,Tryz.ntmps84
  go_wp2;go_ret;exact⟨aQ hv.out,bD⟩
 case false=>
  by_cases h1:nu.length=0
  ·have hv:=@hid (oT ⟨false,nu,de⟩=decide (de.length=0)) (by rw [hd.out];simp [h1]);clear hd;obtain rfl:nu = []:=List.eq_nil_of_length_eq_zero h1;clear h1;go_enter Tryz.func84,Tryz.ntmps84
   go_wp2;go_ret;exact⟨aQ (by rw [hv.out,<-aL5]),bD⟩
  ·have hv:=@hid (false=oT ⟨false,nu,de⟩) (by rw [hd.out];simp [h1]);have h1i:¬(nu.length:Int)=0:=by omega
   have h1d:decide ((nu.length:Int)=0)=false:=by simpa using h1i
   go_enter Tryz.func84,Tryz.ntmps84
   go_wp2;go_ret;exact⟨aQ hv.out,bD⟩
theorem bJ.at64 {S:Nat->Prop} {w:World} {a:Option Addr} {n:Nat} {xs:List Int} (h:bJ bV.u64 S w a n xs) {k:Nat} (hk:k<xs.length):∃b o,a=some ⟨b,o,none⟩/\w.cell? ⟨b,o+k,none⟩=some (.int .u64 (nth xs k))/\uX (nth xs k):=by
 obtain ⟨b,o,cs,ha,_,hr,hc⟩:=h.at (List.getElem?_eq_getElem hk);have:=hc 0 (.int .u64 xs[k]) (by rw [hr.1];rfl);rw [cK hk];exact⟨b,o,ha,by simpa [bV.u64] using this,hr.2⟩
theorem eK {S:Nat->Prop} (a:Option Addr) (n c:Nat) (xs:List Int) (w:World) (hx:bJ bV.u64 S w a n xs) (hn:n<1099511627776):Calls Tryz.prog 128 #[.slice a n c] w fun e w'=>e = .returned (.bool (fR xs))/\w=w':=by
 have hd:=@Lib.hid (fR xs=(decide (xs.length<=64) && (decide (xs.length=0) || !(nth xs (xs.length - 1) == 0)))) rfl;have lx:=hx.1;by_cases h64:n<=64
 case neg=>
  have hv:=@Lib.hid (false=fR xs) (by rw [hd.out];simp [show ¬xs.length<=64 by omega]);have hi:¬(n:Int)<=64:=by omega
  have hid:decide ((n:Int)<=64)=false:=by simpa using hi
  clear hx lx hd;go_enter Tryz.func128,Tryz.ntmps128
  go_wp2;go_ret;exact⟨aQ hv.out,rfl⟩
 have hi:(n:Int)<=64:=by omega
 by_cases h0:n=0
 ·have hv:=@Lib.hid (true=fR xs) (by rw [hd.out];simp [show xs.length=0 by omega]);subst h0;clear hx lx hd hi;go_enter Tryz.func128,Tryz.ntmps128
  go_wp2;go_ret;exact⟨aQ hv.out,rfl⟩
 ·obtain ⟨k,rfl⟩:∃k,n=k+1:=⟨n - 1,by omega⟩;obtain ⟨b,o,rfl,k0,_⟩:=hx.at64 (k:=k) (by omega);have hv:=@Lib.hid (fR xs = !(nth xs k == 0)) (by rw [hd.out,lx,decide_eq_true (show k+1<=64 by omega),decide_eq_false (show ¬k+1=0 by omega)];rfl);have h0i:¬((k+1:Nat):Int)=0:=by omega
  have h0d:decide (((k+1:Nat):Int)=0)=false:=by simpa using h0i
  clear hx lx hd;generalize nth xs k=y at *;go_enter Tryz.func128,Tryz.ntmps128
  go_wp2;go_ret;exact⟨aQ hv.out.symm,rfl⟩
theorem tR (w:World):bJ bV.u64 (fun _=>True) (w.alloc (.cells #[.int .u64 1] 177)) (some ⟨w.heap.size,0,none⟩) 1 [1]:=by
 refine⟨rfl,fun _=>⟨w.heap.size,0,rfl,by simp,trivial,fun j x hx=>?_⟩⟩
 match j,hx with
 |
  0,hx=>
  simp at hx;subst hx;refine⟨[.int .u64 1],⟨rfl,by unfold uX;omega⟩,fun i u hu=>?_⟩;rw [World.cell?_alloc_new]
  simpa [bV.u64] using hu
theorem aI0 (w:World):Calls Tryz.prog 170 #[.int .i64 1] w fun e w'=>e = .returned (.slice (some ⟨w.heap.size,0,none⟩) 1 1)/\w'=w.alloc (.cells #[.int .u64 1] 177):=by
 go_enter Tryz.func170,Tryz.ntmps170
 go_wp2;go_ret;exact⟨rfl,rfl⟩
theorem lA (w:World):Calls Tryz.prog 130 #[] w fun e w'=>e = .returned (.slice (some ⟨w.heap.size,0,none⟩) 1 1)/\w'=w.alloc (.cells #[.int .u64 1] 177):=by
 have h:=hid (aI0 w);go_enter Tryz.func130,Tryz.ntmps130
 go_wp2_with fail
 refine h.out.mono ?_;rintro e w' ⟨rfl,rfl⟩;go_wp2;go_ret;exact⟨rfl,rfl⟩
theorem eL:0<aO:=by decide
def bO (l:List Int):Prop:=∀x∈l,uX x
theorem eV:aM []=0:=rfl
theorem eY (x:Int) (l:List Int):aM (x :: l)=x.toNat+aO * aM l:=rfl
theorem dD (a b:List Int):aM (a++b)=aM a+aO ^ a.length * aM b:=by
 induction a with
 | nil=>simp [aM]
 |
  cons x a ih=>
  rw [List.cons_append,eY,eY,ih,List.length_cons,Nat.pow_succ,Nat.mul_add,<-Nat.add_assoc,<-Nat.mul_assoc,Nat.mul_comm aO (aO ^ a.length)]
theorem eR {l:List Int} (h:bO l):aM l<aO ^ l.length:=by
 induction l with
 | nil=>simp [aM]
 |
  cons x l ih=>
  have hx:uX x:=h x (by simp);have hl:=ih fun y hy=>h y (by simp [hy])
  rw [eY,List.length_cons,Nat.pow_succ];have h1:x.toNat<aO:=by have:=hx.1;have:=hx.2;unfold aO;omega
  have h2:aO * (aM l+1)<=aO * aO ^ l.length:=Nat.mul_le_mul_left _ hl;rw [Nat.mul_add,Nat.mul_one] at h2;rw [Nat.mul_comm (aO ^ l.length)];omega
def aF (n:Nat):List Int:=if _h:n=0 then [] else((n % aO:Nat):Int) :: aF (n / aO)
termination_by n
decreasing_by exact Nat.div_lt_self (by omega) (by decide)
theorem cB:aF 0 = []:=by unfold aF;rfl
theorem eS {n:Nat} (h:0<n):aF n=((n % aO:Nat):Int) :: aF (n / aO):=by rw [aF,dif_neg (by omega)]
theorem dL (n:Nat):bO (aF n):=by
 induction n using Nat.strongRecOn with
 |
  _ n ih=>
  rcases Nat.eq_zero_or_pos n with rfl | h
  ·rw [cB];intro x hx;simp at hx
  ·rw [eS h];intro x hx;rcases List.mem_cons.1 hx with rfl | hx
   ·have:=Nat.mod_lt n eL;constructor
    ·omega
    ·unfold aO at *;omega
   ·exact ih _ (Nat.div_lt_self h (by decide)) x hx
theorem aU (n:Nat):aM (aF n)=n:=by
 induction n using Nat.strongRecOn with
 |
  _ n ih=>
  rcases Nat.eq_zero_or_pos n with rfl | h
  ·rw [cB];rfl
  ·rw [eS h,eY,ih _ (Nat.div_lt_self h (by decide))];have:=Nat.mod_add_div n aO;rw [Int.toNat_natCast];exact this
def trimmed (l:List Int):Prop:=∀x,l.getLast? = some x->x≠0
theorem lF (n:Nat):trimmed (aF n):=by
 induction n using Nat.strongRecOn with
 |
  _ n ih=>
  rcases Nat.eq_zero_or_pos n with rfl | h
  ·rw [cB];intro x hx;cases hx
  ·rw [eS h];intro x hx;rcases Nat.eq_zero_or_pos (n / aO) with h0 | h0
   ·rw [h0,cB] at hx;simp at hx;subst hx;have:=Nat.mod_add_div n aO;rw [h0] at this;intro e;have e:n % aO=0:=Int.natCast_eq_zero.1 e;rw [e] at this;omega
   ·rw [eS h0,List.getLast?_cons_cons,<-eS h0] at hx;exact ih _ (Nat.div_lt_self h (by decide)) x hx
theorem aDv {l:List Int} (h:bO l) (h0:aM l=0):∀x∈l,x=0:=by
 induction l with
 | nil=>intro x hx;simp at hx
 |
  cons y l ih=>
  rw [eY] at h0;have hy:uX y:=h y (by simp);have h1:y.toNat=0:=by omega
  have h2:aO * aM l=0:=by omega
  have h3:aM l=0:=(Nat.mul_eq_zero.1 h2).resolve_left (by decide);intro x hx;rcases List.mem_cons.1 hx with rfl | hx
  ·have:=hy.1;omega
  ·exact ih (fun z hz=>h z (by simp [hz])) h3 x hx
theorem tS {l:List Int} (h:bO l) (ht:trimmed l):aF (aM l)=l:=by
 induction l with
 | nil=>exact cB
 |
  cons x l ih=>
  have hx:uX x:=h x (by simp);have hl:bO l:=fun y hy=>h y (by simp [hy])
  have htl:trimmed l:=by
   intro y hy;cases l with
   | nil=>cases hy
   | cons z l=>exact ht y (by rw [List.getLast?_cons_cons];exact hy)
  have hxl:x.toNat<aO:=by have:=hx.1;have:=hx.2;unfold aO;omega
  have hpos:0<aM (x :: l):=by
   rcases Nat.eq_zero_or_pos (aM (x :: l)) with h0 | h0
   ·have hz:=aDv h h0;cases hg:(x :: l).getLast? with
    | none=>simp at hg
    | some y=>exact absurd (hz y (List.mem_of_getLast? hg)) (ht y hg)
   ·exact h0
  rw [eS hpos,eY,Nat.add_mul_mod_self_left,Nat.mod_eq_of_lt hxl,Nat.add_mul_div_left _ _ eL,Nat.div_eq_of_lt hxl,Nat.zero_add,ih hl htl];have:=hx.1
  congr 1
  omega
theorem vV {a b:Nat} (h:aF a=aF b):a=b:=by rw [<-aU a,<-aU b,h]
theorem cT {n k:Nat} (h:n<aO ^ k):(aF n).length<=k:=by
 induction k generalizing n with
 | zero=>
    rw [Nat.pow_zero] at h;obtain rfl:n=0:=by omega
    rw [cB];exact aB
 |
  succ k ih=>
  rcases Nat.eq_zero_or_pos n with rfl | h0
  ·rw [cB];exact aV
  ·rw [eS h0,List.length_cons];have:n / aO<aO ^ k:=by rw [Nat.div_lt_iff_lt_mul eL,<-Nat.pow_succ];exact h
   have:=ih this;omega
theorem mZ (n:Nat):n<aO ^ (aF n).length:=by have:=eR (dL n);rwa [aU] at this
theorem qJ {n:Nat} (h:0<n):aO ^ ((aF n).length - 1)<=n:=by
 induction n using Nat.strongRecOn with
 |
  _ n ih=>
  rcases Nat.eq_zero_or_pos (n / aO) with h0 | h0
  ·rw [eS h,h0,cB];exact h
  ·have:=ih _ (Nat.div_lt_self h (by decide)) h0;rw [eS h,List.length_cons,Nat.add_sub_cancel];have hl:1<=(aF (n / aO)).length:=by rw [eS h0];simp
   have e:(aF (n / aO)).length=(aF (n / aO)).length - 1+1:=by omega
   rw [e,Nat.pow_succ];exact(Nat.le_div_iff_mul_le eL).1 this
theorem eT {a b:Nat} (h:a<=b):(aF a).length<=(aF b).length:=cT (Nat.lt_of_le_of_lt h (mZ b))
theorem gP {n:Nat}:(aF n).length=0↔n=0:=by
 constructor
 ·intro h;have:=mZ n;rw [h,Nat.pow_zero] at this;omega
 ·rintro rfl;rw [cB];rfl
theorem aZ {n:Nat}:0<(aF n).length↔0<n:=by
 have:=@gP n;omega
theorem bI {l:List Int} {i:Nat} (h:i<l.length):aM (l.take (i+1))=aM (l.take i)+aO ^ i * (nth l i).toNat:=by
 rw [List.take_succ_eq_append_getElem h,dD,List.length_take,Nat.min_eq_left (by omega),cK h,eY,eV,Nat.mul_zero,Nat.add_zero]
theorem rN {l:List Int} {i:Nat} (h:i<l.length):aM (l.drop i)=(nth l i).toNat+aO * aM (l.drop (i+1)):=by
 rw [List.drop_eq_getElem_cons h,eY,cK h]
theorem tT (l:List Int) (i:Nat) (h:i<=l.length):aM l=aM (l.take i)+aO ^ i * aM (l.drop i):=by
 have:=dD (l.take i) (l.drop i);rw [List.take_append_drop,List.length_take,Nat.min_eq_left h] at this;exact this
theorem bO.take {l:List Int} (h:bO l) (i:Nat):bO (l.take i):=fun x hx=>h x (List.mem_of_mem_take hx)
theorem bO.append {a b:List Int} (h:bO a) (k:bO b):bO (a++b):=fun x hx=>(List.mem_append.1 hx).elim (h x) (k x)
theorem bO.nth {l:List Int} (h:bO l) {i:Nat} (hi:i<l.length):uX (nth l i):=h _ (fF hi)
theorem uX.lt {x:Int} (h:uX x):x.toNat<aO:=by have:=h.1;have:=h.2;unfold aO;omega
theorem uX.cast {x:Int} (h:uX x):(x.toNat:Int)=x:=by have:=h.1;omega
theorem eF {n:Nat} (h:n<aO):uX (n:Int):=⟨by omega,by unfold aO at h;omega⟩
theorem pK {l:List Int} {k:Nat} (h:bO l) (hk:k<=l.length) (hz:∀j,k<=j->j<l.length->nth l j=0) (h0:k=0\/nth l (k - 1)≠0):l.take k=aF (aM l):=by
 have hd:aM (l.drop k)=0:=by
  have:∀m,m<=l.length - k->aM (l.drop (l.length - m))=0:=by
   intro m
   induction m with
   | zero=>intro _;rw [Nat.sub_zero,List.drop_length];rfl
   |
    succ m ih=>
    intro hm;rw [rN (by omega),hz _ (by omega) (by omega),show l.length - (m+1)+1=l.length - m by omega,ih (by omega)];rfl
  have:=this (l.length - k) aB
  rwa [show l.length - (l.length - k)=k by omega] at this
 have hv:aM l=aM (l.take k):=by rw [tT l k hk,hd];omega
 rw [hv,tS (h.take k)];intro x hx;rcases h0 with rfl | h0
 ·simp at hx
 ·rcases Nat.eq_zero_or_pos k with rfl | hp
  ·simp at hx
  ·rw [List.getLast?_eq_getElem?,List.length_take,Nat.min_eq_left hk,List.getElem?_take_of_lt (by omega),List.getElem?_eq_getElem (by omega)] at hx;injection hx with hx
   rw [<-hx,<-cK];exact h0
theorem qK {a b:List Int} (ha:bO a) (hb:bO b) (tb:trimmed b) (h:a.length<b.length):aM a<aM b:=by
 have h1:=eR ha;have hb':=tS hb tb;have hp:0<aM b:=by
  rcases Nat.eq_zero_or_pos (aM b) with h0 | h0
  ·rw [h0,cB] at hb';rw [<-hb'] at h;simp at h
  ·exact h0
 have h2:=qJ hp;rw [hb'] at h2;have h3:aO ^ a.length<=aO ^ (b.length - 1):=Nat.pow_le_pow_right eL (by omega);omega
def dU (a b:Nat):Int:=if a<b then -1 else if a=b then 0 else 1
theorem eZ {l:List Int} (x:Nat):aM (l ++ [(x:Int)])=aM l+aO ^ l.length * x:=by
 rw [dD,eY,eV,Int.toNat_natCast,Nat.mul_zero,Nat.add_zero]
theorem bO.snoc {l:List Int} (h:bO l) {x:Nat} (hx:x<aO):bO (l ++ [(x:Int)]):=
 h.append fun y hy=>by rw [List.mem_singleton.1 hy];exact eF hx
theorem aFt {ds:List Int} {i c x y A B:Nat} (h:aM ds+aO ^ i * c=A+B) (hl:ds.length=i) :
  aM (ds ++ [(((x+y+c) % aO:Nat):Int)])+aO ^ (i+1) * ((x+y+c) / aO)=A+aO ^ i * x+(B+aO ^ i * y):=by
 have h1:=Nat.mod_add_div (x+y+c) aO;rw [eZ,hl,Nat.pow_succ,Nat.mul_assoc,Nat.add_assoc,<-Nat.mul_add,h1,Nat.mul_add,Nat.mul_add];omega
theorem tU {x y c:Nat} (hx:x<aO) (hy:y<aO) (hc:c<=1):(x+y+c) / aO<=1:=by
 have:(x+y+c) / aO<2:=by rw [Nat.div_lt_iff_lt_mul eL];omega
 omega
theorem vW {x k c o:Nat} (hx:x<aO) (hk:k<aO) (hc:c<aO) (ho:o<aO):x * k+c+o<aO * aO:=by
 have h1:x * k<=(aO - 1) * (aO - 1):=Nat.mul_le_mul (by omega) (by omega);have h2:(aO - 1) * (aO - 1)+(aO - 1)+(aO - 1)<aO * aO:=by decide
 omega
theorem row_step {ds:List Int} {i c c' x k o d A O:Nat} (h:aM ds+aO ^ i * c=O+A * k) (hl:ds.length=i) (hs:d+aO * c'=x * k+c+o) :
  aM (ds ++ [(d:Int)])+aO ^ (i+1) * c'=O+aO ^ i * o+(A+aO ^ i * x) * k:=by
 rw [eZ,hl,Nat.pow_succ];have h2:aO ^ i * (d+aO * c')=aO ^ i * (x * k+c+o):=by rw [hs]
 rw [Nat.mul_add,Nat.mul_add,Nat.mul_add,<-Nat.mul_assoc,<-Nat.mul_assoc] at h2;rw [Nat.add_mul];omega
theorem tW {a b i k:Nat} (ha:a<aO ^ i) (hb:b<aO ^ k):a * b<aO ^ (i+k):=by
 rw [Nat.pow_add];exact Nat.mul_lt_mul'' ha hb
theorem aBr {a b i k:Nat} (ha:a<aO ^ i) (hb:b<aO ^ k) (hk:k<=i):a+b<aO ^ (i+1):=by
 have h1:aO ^ k<=aO ^ i:=Nat.pow_le_pow_right eL hk;rw [Nat.pow_succ];have h2:aO ^ i * 2<=aO ^ i * aO:=Nat.mul_le_mul_left _ (by decide);omega
theorem zW {q h l nx d1 d2:Nat} (hn:nx<aO) (hq:q * (d1 * aO+d2)<=(h * aO+l) * aO+nx) (hd:0<d1):q<=(h * aO+l) / d1:=by
 rw [Nat.le_div_iff_mul_le hd];have h1:q * d1 * aO<=(h * aO+l) * aO+nx:=by
  rw [Nat.mul_add,<-Nat.mul_assoc q d1 aO] at hq;exact aK (Nat.le_add_right _ _) hq
 have h2:q * d1 * aO<(h * aO+l+1) * aO:=by rw [Nat.add_mul (h * aO+l) 1 aO,Nat.one_mul];omega
 have h3:=Nat.lt_of_mul_lt_mul_right h2;omega
theorem tX {q qt r h l nx d1 d2:Nat} (hq:qt * (d1 * aO+d2)<=(h * aO+l) * aO+nx) (hi:q * d1+r=h * aO+l) (hle:qt<=q) (ht:r * aO+nx<q * d2):0<q/\qt<=q - 1:=by
 have h0:0<q:=by
  rcases Nat.eq_zero_or_pos q with rfl | h0
  ·rw [Nat.zero_mul] at ht;omega
  ·exact h0
 refine⟨h0,?_⟩;rcases Nat.lt_or_ge qt q with h1 | h1
 ·omega
 ·obtain rfl:qt=q:=by omega
  rw [Nat.mul_add,<-Nat.mul_assoc qt d1 aO,<-hi,Nat.add_mul (qt * d1) r aO] at hq;omega
theorem aBs {q r d1 N:Nat} (hi:q * d1+r=N) (h0:0<q):(q - 1) * d1+(r+d1)=N:=by
 obtain ⟨k,rfl⟩:∃k,q=k+1:=⟨q - 1,by omega⟩;rw [Nat.add_mul,Nat.one_mul] at hi;rw [Nat.add_sub_cancel];omega
theorem aDw {p r nx:Nat} (hn:nx<aO):(p / aO<r\/p / aO=r/\p % aO<=nx)↔p<=r * aO+nx:=by
 have h1:=Nat.mod_add_div p aO;have h2:=Nat.mod_lt p eL;generalize p / aO=a at *;generalize p % aO=c at *;constructor
 ·rintro (h | ⟨rfl,h⟩)
  ·have:aO * (a+1)<=aO * r:=Nat.mul_le_mul_left _ h;rw [Nat.mul_add,Nat.mul_comm aO r] at this;omega
  ·rw [Nat.mul_comm] at h1;omega
 ·intro h;rcases Nat.lt_trichotomy a r with h3 | h3 | h3
  ·exact .inl h3
  ·subst h3;rw [Nat.mul_comm] at h1;exact .inr ⟨rfl,by omega⟩
  ·have:aO * (r+1)<=aO * a:=Nat.mul_le_mul_left _ h3;rw [Nat.mul_add,Nat.mul_comm aO r] at this;omega
theorem aFu {X b m X3 D:Nat} (hX:X<(X3+1) * aO ^ m) (hb:D * aO ^ m<=b):X / b * D<=X3:=by
 have h1:X / b * b<=X:=Nat.div_mul_le_self X b;have h2:X / b * (D * aO ^ m)<=X / b * b:=Nat.mul_le_mul_left _ hb;rw [<-Nat.mul_assoc] at h2;have h3:X / b * D * aO ^ m<(X3+1) * aO ^ m:=by omega
 have:=Nat.lt_of_mul_lt_mul_right h3;omega
theorem aFv {X b:Nat} (h:X<b * aO):X / b<aO:=Nat.div_lt_of_lt_mul h
theorem aDx {ds:List Int} {i A P c b y k xx d l c' b':Nat} (h:aM ds+P=A+aO ^ i * (b+c)) (hl:ds.length=i) (h1:l+aO * c'=y * k+c) (h2:d+l+b=xx+aO * b') :
  aM (ds ++ [(d:Int)])+(P+aO ^ i * (y * k))=A+aO ^ i * xx+aO ^ (i+1) * (b'+c'):=by
 rw [eZ,hl,Nat.pow_succ];have h0:d+y * k+(b+c)=xx+aO * (b'+c'):=by rw [Nat.mul_add aO];omega
 generalize aO ^ i=p at *;have h3:p * d+p * (y * k)+p * (b+c)=p * xx+p * aO * (b'+c'):=by rw [Nat.mul_assoc p aO,<-Nat.mul_add,<-Nat.mul_add,<-Nat.mul_add,h0]
 omega
theorem aDy {x l b:Nat} (hx:x<aO) (hl:l<aO) (hb:b<=1):(x+aO - l - b) % aO+l+b=x+aO * (if x<l+b then 1 else 0):=by
 by_cases hlt:x<l+b
 ·rw [if_pos hlt,Nat.mul_one];by_cases hz:x+aO - l - b<aO
  ·rw [Nat.mod_eq_of_lt hz];omega
  ·omega
 ·rw [if_neg hlt,Nat.mul_zero,show x+aO - l - b=(x - l - b)+aO by omega,Nat.add_mod_right,Nat.mod_eq_of_lt (by omega)];omega
theorem aDz {y k c:Nat} (hy:y<aO) (hk:k<aO) (hc:c<aO) :
  y * k / aO+(y * k % aO+c) / aO<aO/\(y * k % aO+c) % aO+aO * (y * k / aO+(y * k % aO+c) / aO)=y * k+c:=by
 have hb:=vW hy hk hc (show 0<aO by decide);have h1:=Nat.mod_add_div (y * k) aO;have h2:=Nat.mod_add_div (y * k % aO+c) aO;generalize y * k / aO=hi at *;generalize y * k % aO=lo at *;generalize (lo+c) / aO=c1 at *;generalize (lo+c) % aO=l1 at *;generalize y * k=p at *;have h4:l1+aO * (hi+c1)=p+c:=by rw [Nat.mul_add];omega
 exact⟨by apply Nat.lt_of_mul_lt_mul_left (a:=aO);omega,h4⟩
theorem aFw {Y b n:Nat} (hY:Y<aO ^ (n+1)) (hb:b<aO ^ n) :
  (Y+b<aO ^ (n+1)->Y / aO ^ n<=(Y+b) % aO ^ (n+1) / aO ^ n/\(Y+b) % aO ^ (n+1)=Y+b) /\
  (aO ^ (n+1)<=Y+b->(Y+b) % aO ^ (n+1) / aO ^ n<Y / aO ^ n/\(Y+b) % aO ^ (n+1)+aO ^ (n+1)=Y+b):=by
 have hp:0<aO ^ n:=Nat.pow_pos eL;have e1:aO ^ (n+1)=aO ^ n * aO:=Nat.pow_succ _ _;constructor
 ·intro h;rw [Nat.mod_eq_of_lt h];exact⟨Nat.div_le_div_right (by omega),rfl⟩
 ·intro h;have e2:(Y+b) % aO ^ (n+1)=Y+b - aO ^ (n+1):=by
   have:=Nat.pow_le_pow_right eL (show n<=n+1 by omega);rw [Nat.mod_eq_sub_mod h,Nat.mod_eq_of_lt];omega
  rw [e2];refine⟨?_,by omega⟩;rw [Nat.div_eq_of_lt (by omega)];refine Nat.div_pos ?_ hp;have:aO ^ n * 2<=aO ^ n * aO:=Nat.mul_le_mul_left _ (by decide);omega
theorem vX {N Q R b i:Nat} (h:N=Q * aO ^ (i+1) * b+R) (hb:0<b) (hR:R<b * aO ^ (i+1)) :
  N=(Q * aO+R / aO ^ i / b) * aO ^ i * b+(R / aO ^ i % b * aO ^ i+R % aO ^ i)/\R / aO ^ i % b * aO ^ i+R % aO ^ i<b * aO ^ i/\R / aO ^ i / b<aO:=by
 have hp:0<aO ^ i:=Nat.pow_pos eL;have h1:=Nat.mod_add_div R (aO ^ i);have h2:=Nat.mod_add_div (R / aO ^ i) b;have h3:=Nat.mod_lt R hp;have h4:=Nat.mod_lt (R / aO ^ i) hb;have h5:R / aO ^ i<b * aO:=by
  rw [Nat.div_lt_iff_lt_mul hp,Nat.mul_assoc,Nat.mul_comm aO,<-Nat.pow_succ];exact hR
 generalize hX:R / aO ^ i=X at *;generalize hr:R % aO ^ i=r at *;have h6:X / b<aO:=aFv h5;generalize hd:X / b=d at *;generalize hm:X % b=m at *;refine⟨?_,?_,h6⟩
 ·rw [h,<-h1,Nat.pow_succ,Nat.add_mul,Nat.add_mul];have e1:Q * (aO ^ i * aO) * b=Q * aO * aO ^ i * b:=by rw [Nat.mul_comm (aO ^ i) aO,Nat.mul_assoc Q aO]
  have e2:aO ^ i * X=d * aO ^ i * b+m * aO ^ i:=by
   rw [<-h2,Nat.mul_add,Nat.mul_comm (aO ^ i) m,Nat.mul_comm d,Nat.mul_assoc (aO ^ i) d b,Nat.mul_comm d b];omega
  omega
 ·have:(m+1) * aO ^ i<=b * aO ^ i:=Nat.mul_le_mul_right _ h4;rw [Nat.add_mul,Nat.one_mul] at this;omega
theorem zX {N Q r x k:Nat} (h:N=Q * k+r) (hk:0<k) (hr:r<k) (hx:x<aO) :
  N * aO+x=(Q * aO+(r * aO+x) / k) * k+(r * aO+x) % k/\(r * aO+x) % k<k/\(r * aO+x) / k<aO:=by
 have h1:=Nat.mod_add_div (r * aO+x) k;refine⟨?_,Nat.mod_lt _ hk,?_⟩
 ·rw [h,Nat.add_mul (Q * k) r aO,Nat.add_mul (Q * aO),Nat.mul_comm ((r * aO+x) / k) k,Nat.mul_right_comm Q k aO];omega
 ·apply Nat.div_lt_of_lt_mul;have:(r+1) * aO<=k * aO:=Nat.mul_le_mul_right _ hr;rw [Nat.add_mul,Nat.one_mul] at this;omega
theorem dS:(2:Nat) ^ 64=aO:=by decide
theorem pL (m k:Nat):(2:Nat) ^ (64 * m+k)=aO ^ m * 2 ^ k:=by rw [Nat.pow_add,Nat.pow_mul,dS]
theorem qL {x k:Nat} (hx:x<aO) (hk:k<64):x * 2 ^ k % aO+aO * (x / 2 ^ (64 - k))=x * 2 ^ k/\x / 2 ^ (64 - k)<2 ^ k:=by
 have e:aO=2 ^ (64 - k) * 2 ^ k:=by rw [<-Nat.pow_add,show 64 - k+k=64 by omega,dS]
 have h1:x * 2 ^ k / aO=x / 2 ^ (64 - k):=by rw [e,Nat.mul_div_mul_right _ _ (Nat.two_pow_pos k)]
 have h2:=Nat.mod_add_div (x * 2 ^ k) aO;rw [h1] at h2;refine⟨h2,?_⟩;rw [Nat.div_lt_iff_lt_mul (Nat.two_pow_pos _),Nat.mul_comm,<-e];exact hx
theorem aBt {x k t:Nat} (hk:k<=64) (ht:t<2 ^ k):t ||| (x * 2 ^ k % aO)=t+x * 2 ^ k % aO:=by
 have e:x * 2 ^ k % aO=(x % 2 ^ (64 - k)) * 2 ^ k:=by
  have:aO=2 ^ (64 - k) * 2 ^ k:=by rw [<-Nat.pow_add,show 64 - k+k=64 by omega,dS]
  rw [this,Nat.mul_mod_mul_right]
 rw [e,<-Nat.shiftLeft_eq,Nat.or_comm,<-Nat.shiftLeft_add_eq_or_of_lt ht,Nat.add_comm]
structure ZD where
 neg:Bool
 n:Nat
def jA (neg:Bool) (n:Nat):ZD:=⟨neg && decide (0<n),n⟩
def eG (a b:ZD):ZD:=if a.neg=b.neg then jA a.neg (a.n+b.n) else if a.n<b.n then jA b.neg (b.n - a.n) else jA a.neg (a.n - b.n)
def aT (a b:ZD):ZD:=jA (a.neg != b.neg) (a.n * b.n)
def kS (a b:ZD):Int:=if a.neg=b.neg then(if a.neg then dU b.n a.n else dU a.n b.n) else if a.neg then -1 else 1
def qM (neg:Bool) (n d:Nat):cE:=⟨neg && decide (0<n / Nat.gcd n d),aF (n / Nat.gcd n d),aF (d / Nat.gcd n d)⟩
def iI:cE:=⟨false,[],[]⟩
def xW (r:cE):Bool:=decide (64<r.num.length) || decide (64<r.den.length)
def dV (neg:Bool) (n d:Nat):cE × Int:=if xW (qM neg n d) then(iI,4) else(qM neg n d,0)
abbrev dN (r:cE):Bool:=iA r
structure IsR (r:cE) (n d:Nat):Prop where
 num:r.num=aF n
 den:r.den=aF d
 nl:r.num.length<=64
 dl:r.den.length<=64
 pos:0<d
 co:Nat.gcd n d=1
 sg:r.neg=true->0<n
theorem lB {xs:List Int} (h:bO xs) (hk:fR xs=true):xs=aF (aM xs)/\xs.length<=64:=by
 unfold fR at hk;simp only [Bool.and_eq_true,Bool.or_eq_true,decide_eq_true_eq,Bool.not_eq_true',beq_eq_false_iff_ne] at hk;refine⟨?_,hk.1⟩;have:=pK (l:=xs) (k:=xs.length) h aB (fun j h1 h2=>by omega) hk.2
 rwa [List.take_length] at this
theorem kT {n:Nat} (h:(aF n).length<=64):fR (aF n)=true:=by
 unfold fR;simp only [Bool.and_eq_true,Bool.or_eq_true,decide_eq_true_eq,Bool.not_eq_true',beq_eq_false_iff_ne];refine⟨h,?_⟩;rcases Nat.eq_zero_or_pos n with rfl | h0
 ·left;rw [cB];rfl
 ·right
  have hl:=aZ.2 h0;rw [cK (by omega)];refine lF n _ ?_;rw [List.getLast?_eq_getElem?,List.getElem?_eq_getElem (by omega)]
theorem iM {r:cE} (h1:bO r.num) (h2:bO r.den) (h:dN r=true):IsR r (aM r.num) (aM r.den):=by
 unfold dN iA at h;simp only [Bool.and_eq_true,Bool.not_eq_true',decide_eq_false_iff_not,Bool.and_eq_false_iff,beq_iff_eq] at h;obtain ⟨a1,a2,a3,a4,a5⟩:=h;obtain ⟨e1,l1⟩:=lB h1 a1;obtain ⟨e2,l2⟩:=lB h2 a2;refine⟨e1,e2,l1,l2,?_,a5,fun hn=>?_⟩
 ·rw [<-aZ,<-e2];omega
 ·rw [<-aZ,<-e1];rcases a4 with a4 | a4
  ·rw [hn] at a4;cases a4
  ·omega
theorem IsR.valid {r:cE} {n d:Nat} (h:IsR r n d):dN r=true:=by
 unfold dN iA;have h1:=kT (n:=n) (by rw [<-h.num];exact h.nl);have h2:=kT (n:=d) (by rw [<-h.den];exact h.dl);have h3:=aZ.2 h.pos;rw [h.num,h.den,h1,h2,aU,aU,h.co];have h4:(r.neg && decide ((aF n).length=0))=false:=by
  cases hn:r.neg with
  | false=>rfl
  |
   true=>
   have:=aZ.2 (h.sg hn);rw [decide_eq_false (by omega)];rfl
 rw [h4,decide_eq_false (by omega)];rfl
theorem IsR.val {r:cE} {n d:Nat} (h:IsR r n d):aM r.num=n/\aM r.den=d:=by rw [h.num,h.den,aU,aU];exact⟨rfl,rfl⟩
def aBu (r:cE):ZD:=⟨r.neg,aM r.num⟩
def aBv (r:cE):ZD:=⟨false,aM r.den⟩
def kU (a b:cE):Int:=if dN a && dN b then kS (aT (aBu a) (aBv b)) (aT (aBu b) (aBv a)) else 0
def jS (a:cE):cE:=if dN a then⟨!a.neg && decide (0<a.num.length),a.num,a.den⟩ else iI
def aD0 (a b:cE):ZD:=eG (aT (aBu a) (aBv b)) (aT (aBu b) (aBv a))
def jZ (a b:cE):cE × Int:=if dN a && dN b then dV (aD0 a b).neg (aD0 a b).n (aM a.den * aM b.den) else(iI,1)
def pM (a b:cE):cE × Int:=if dN b then jZ a (jS b) else(iI,1)
def nA (a b:cE):cE × Int:=if dN a && dN b then dV (a.neg != b.neg) (aM a.num * aM b.num) (aM a.den * aM b.den) else(iI,1)
def lO (a b:cE):cE × Int:=if dN a && (dN b && !decide (b.num.length=0)) then dV (a.neg != b.neg) (aM a.num * aM b.den) (aM a.den * aM b.num) else(iI,1)
theorem aFx:∀xs:List Int,∃k,k<=xs.length/\(∀j,k<=j->j<xs.length->nth xs j=0)/\(k=0\/nth xs (k - 1)≠0):=fun xs=>by
 have key:∀m,m<=xs.length->(∀j,m<=j->j<xs.length->nth xs j=0)->∃k,k<=xs.length/\(∀j,k<=j->j<xs.length->nth xs j=0)/\(k=0\/nth xs (k - 1)≠0):=by
  intro m
  induction m with
  | zero=>exact fun h1 h2=>⟨0,h1,h2,.inl rfl⟩
  |
   succ m ih=>
   intro h1 h2;by_cases h0:nth xs m=0
   ·refine ih (by omega) fun j h3 h4=>?_
    by_cases hj:j=m
    ·rw [hj];exact h0
    ·exact h2 j (by omega) h4
   ·exact⟨m+1,h1,h2,.inr h0⟩
 exact key xs.length aB fun j h1 h2=>absurd h1 (by omega)
theorem bJ.cut64 {S:Nat->Prop} {w:World} {a:Option Addr} {n:Nat} {xs:List Int} (h:bJ bV.u64 S w a n xs) {k:Nat} (hk:k<=n):bJ bV.u64 S w a k (xs.take k):=by
 refine⟨by rw [List.length_take,h.1];omega,fun h0=>?_⟩;obtain ⟨b,o,ha,hl,hS,hc⟩:=h.2 (by omega);refine⟨b,o,ha,hl,hS,fun j x hx=>hc j x ?_⟩;have hj:=(List.getElem?_eq_some_iff.1 hx).1;rw [List.length_take] at hj;rw [List.getElem?_take_of_lt (by omega)] at hx;exact hx
theorem vY (w:World):(sizeOf 177).run Tryz.prog w = .ok 1 w:=by kernel_rfl
def aFy (S:Nat->Prop) (a:Option Addr) (x:Nat) (w:World) (e:Ending) (w':World):Prop:=
 ∃a' c',e = .returned (.slice a' (aF x).length c')/\bJ bV.u64 S w a' (aF x).length (aF x)/\(aF x).length<=c'/\c'<=maxLen/\(∀y,a'=some y->a=some y)/\w=w'
def aL7:Value->Nat
 | .slice _ n _=>n
 | _=>0
theorem eO {S:Nat->Prop} (a:Option Addr) (n c:Nat) (xs:List Int) (w:World) (hx:bJ bV.u64 S w a n xs) (hn:n<17592186044416) (hnc:n<=c) (hcm:c<=maxLen) :
  Calls Tryz.prog 197 #[.slice a n c] w fun e w'=>aFy S a (aM xs) w e w':=by
 have hcm':=hid hcm;obtain ⟨k,hk0,hz,h0⟩:=aFx xs;have lx:=hx.1;have hkn:k<=n:=by omega
 have hlim:=hid (pK hx.us hk0 hz h0);have hlk:=hid (show(xs.take k).length=k by rw [List.length_take];omega);have hx':=hid hx;have lx':=hid lx;have hz':=hid hz;have h0':=hid h0;have hsl:=fun(j:Nat) (hj:j+1<=c) W=>rI (P:=Tryz.prog) (a:=a) (n:=j+1) (c:=c) (k:=j) Tryz.underlying34 vY (Nat.le_succ j) hj W
 have hsl':=hid hsl;clear hx lx hz h0 hcm hk0 hsl;go_enter Tryz.func197,Tryz.ntmps197
 go_wp2
 go_loopw [0] (fun v0 wr=>∃j:Nat,k<=j/\j<=n/\v0 = .slice a j c/\wr=w) (fun v0 _=>aL7 v0)
 case atStart=>exact⟨n,hkn,aB,rfl,rfl⟩
 case round=>
  obtain ⟨j,hkj,hjn,rfl,rfl⟩:=hrel;by_cases hj:j=k
  ·subst hj;rcases Nat.eq_zero_or_pos j with hj0 | hj0
   ·subst hj0;go_wp2;go_ret;have e:=hlim.out;rw [List.take_zero] at e;refine⟨none,0,?_,?_,?_,aV,fun y h=>(by cases h),rfl⟩
    ·rw [<-e];rfl
    ·rw [<-e];exact bJ.nil _ _ _ _
    ·rw [<-e];exact aB
   ·obtain ⟨i,rfl⟩:∃i,j=i+1:=⟨j - 1,by omega⟩;obtain ⟨b,o,rfl,hc,_⟩:=hx'.out.at64 (k:=i) (by rw [lx'.out];omega);have hy:nth xs i≠0:=h0'.out.resolve_left (by omega);generalize nth xs i=y at *;have hyd:(y == 0)=false:=by simpa using hy
    have hil:(i:Int)<n:=by omega
    go_wp2;go_ret;refine⟨some ⟨b,o,none⟩,c,?_,?_,?_,hcm'.out,fun y h=>h,rfl⟩
    ·rw [<-hlim.out,hlk.out];rfl
    ·rw [<-hlim.out,hlk.out];exact hx'.out.cut64 hjn
    ·rw [<-hlim.out,hlk.out];omega
  ·obtain ⟨i,rfl⟩:∃i,j=i+1:=⟨j - 1,by omega⟩;obtain ⟨b,o,rfl,hc,_⟩:=hx'.out.at64 (k:=i) (by rw [lx'.out];omega);have hyz:=hz'.out i (by omega) (by have:=lx'.out;omega);rw [hyz] at hc;have hil:(i:Int)<n:=by omega
   have hs:=hsl'.out i (by omega) wr;clear hyz;go_wp2
   go_roundw
   case rel=>exact⟨i,by omega,by omega,rfl,trivial⟩
   case measure=>simp [aL7]
theorem tY {P:Program} {f:FuncId} {args:Array Value} {w:World} {a n:Nat} {v:Value}
  (h:Calls P f args (w.drewN (a+n)) fun e w'=>e = .returned v/\w'=w.drewN (a+n)) :
  Calls P f args (w.drewN (a+n)) fun e w''=>e = .returned v/\∃m,w''=w.drewN (a+m):=
 h.mono fun _ _ ⟨he,hm⟩=>⟨he,n,hm⟩
theorem nV {xs:List Int} {i:Nat} (h:i<xs.length):aM xs=aM (xs.take i)+aO ^ i * ((nth xs i).toNat+aO * aM (xs.drop (i+1))):=by
 rw [tT xs i (by omega),rN h]
theorem aC2 {xs ys:List Int} {i:Nat} (hx:bO xs) (hl:xs.length=ys.length) (hi:i<xs.length) (he:∀j,i<j->j<xs.length->nth xs j=nth ys j) (hlt:nth xs i<nth ys i):aM xs<aM ys:=by
 have hd:xs.drop (i+1)=ys.drop (i+1):=by
  refine wV (by rw [List.length_drop,List.length_drop,hl]) fun j hj=>?_
  rw [List.length_drop] at hj;have:=he (i+1+j) (by omega) (by omega);rw [cK (xs:=xs) (j:=i+1+j) (by omega),cK (xs:=ys) (j:=i+1+j) (by omega)] at this;rw [cK (by rw [List.length_drop];omega),cK (by rw [List.length_drop];omega),List.getElem_drop,List.getElem_drop];exact this
 rw [nV hi,nV (xs:=ys) (i:=i) (by omega),hd];have h1:=eR (hx.take i);rw [List.length_take,Nat.min_eq_left (by omega)] at h1;have h2:(nth xs i).toNat<(nth ys i).toNat:=by
  have:=(hx.nth hi).1;omega
 generalize aO * aM (ys.drop (i+1))=D at *;have h3:aO ^ i * ((nth xs i).toNat+D+1)<=aO ^ i * ((nth ys i).toNat+D):=Nat.mul_le_mul_left _ (by omega);rw [Nat.mul_add (aO ^ i) ((nth xs i).toNat+D) 1,Nat.mul_one] at h3;omega
theorem kJ {x y:Nat} (h:(aF x).length<(aF y).length):x<y:=by
 have:=qK (dL x) (dL y) (lF y) h
 rwa [aU,aU] at this
theorem mD {x y:Nat} (h:x<y):dU x y = -1:=by unfold dU;rw [if_pos h]
theorem nW {x y:Nat} (h:y<x):dU x y=1:=by unfold dU;rw [if_neg (by omega),if_neg (by omega)]
theorem oB (x:Nat):dU x x=0:=by unfold dU;rw [if_neg (by omega),if_pos rfl]
theorem sE (x:Int) (w:World):Calls Tryz.prog 196 #[.int .u64 x] w fun e w'=>e = .returned (.bool false)/\w'=w:=by
 have h1:(x != x)=false:=by simp
 go_enter Tryz.func196,Tryz.ntmps196
 go_wp2;go_ret;exact⟨rfl,rfl⟩
theorem vC (x y:Int) (w:World):Calls Tryz.prog 169 #[.int .u64 x,.int .u64 y] w fun e w'=>e = .returned (.int .i64 (compareInt x y))/\w'=w:=by
 have h1:=hid (sE x w);have h2:=hid (sE y w);have hd:=@hid (compareInt x y=if x<y then -1 else if x > y then 1 else 0) rfl;by_cases ha:x<y
 ·have hv:=hid (show compareInt x y = -1 from by rw [hd.out,if_pos ha]);clear hd;go_enter Tryz.func169,Tryz.ntmps169
  go_wp2_with fail
  refine h1.out.mono ?_;rintro e w' ⟨rfl,rfl⟩
  go_wp2_with fail
  refine h2.out.mono ?_;rintro e w' ⟨rfl,rfl⟩;go_wp2;go_ret;exact⟨by rw [hv.out];rfl,rfl⟩
 ·by_cases hb:y<x
  ·have hv:=hid (show compareInt x y=1 from by rw [hd.out,if_neg ha,if_pos hb]);clear hd;go_enter Tryz.func169,Tryz.ntmps169
   go_wp2_with fail
   refine h1.out.mono ?_;rintro e w' ⟨rfl,rfl⟩
   go_wp2_with fail
   refine h2.out.mono ?_;rintro e w' ⟨rfl,rfl⟩;go_wp2;go_ret;exact⟨by rw [hv.out];rfl,rfl⟩
  ·have hv:=hid (show compareInt x y=0 from by rw [hd.out,if_neg ha,if_neg hb]);clear hd;go_enter Tryz.func169,Tryz.ntmps169
   go_wp2_with fail
   refine h1.out.mono ?_;rintro e w' ⟨rfl,rfl⟩
   go_wp2_with fail
   refine h2.out.mono ?_;rintro e w' ⟨rfl,rfl⟩;go_wp2;go_ret;exact⟨by rw [hv.out];rfl,rfl⟩
theorem dH {S S':Nat->Prop} (a b:Option Addr) (n m c d x y:Nat) (w:World) (hx:bJ bV.u64 S w a n (aF x)) (hy:bJ bV.u64 S' w b m (aF y)) (hn:n<17592186044416) (hm:m<17592186044416) :
  Calls Tryz.prog 129 #[.slice a n c,.slice b m d] w fun e w'=>e = .returned (.int .i64 (dU x y))/\∃q,w'=w.drewN q:=by
 have lx:=hx.1;have ly:=hy.1;by_cases hnm:n=m
 case neg=>
  have hcmp:=hid (Tryz.cmp_Compare_int n m w);have hv:=hid (show compareInt (n:Int) m=dU x y from by
   unfold compareInt;by_cases hlt:n<m
   ·rw [if_pos (by omega),mD (kJ (by omega))]
   ·rw [if_neg (by omega),if_pos (by omega),nW (kJ (by omega))])
  have hne:¬((n:Int)=m):=by omega
  have hneb:((n:Int) != m)=true:=by simpa using hne
  clear hx hy lx ly hnm;go_enter Tryz.func129,Tryz.ntmps129
  go_wp2_with fail
  refine hcmp.out.mono ?_;rintro e w' ⟨rfl,rfl⟩;go_wp2;go_ret;exact⟨by rw [hv.out];rfl,0,rfl⟩
 subst hnm;have hx':=hid hx;have hy':=hid hy;have hox:=hid (dL x);have hoy:=hid (dL y);have hvx:=hid (aU x);have hvy:=hid (aU y);have lx':=hid lx;have ly':=hid ly;generalize aF x=xs at *;generalize aF y=ys at *;clear hx hy lx ly;go_enter Tryz.func129,Tryz.ntmps129
 go_wp2
 go_loopw [4,5] (fun v4 v5 wr=>∃j:Nat,j<=n/\v4 = .int .i64 0/\v5 = .int .i64 ((j:Int) - 1)/\Hid (∀k,j<=k->k<n->nth xs k=nth ys k)/\∃q,wr=w.drewN q) (fun _ v5 _=>(intOf v5+1).toNat)
 case atStart=>exact⟨n,aB,rfl,rfl,fun k h1 h2=>absurd h1 (by omega),0,rfl⟩
 case round=>
  obtain ⟨j,hj,rfl,rfl,heq,q,rfl⟩:=hrel;by_cases hj0:j=0
  ·subst hj0;go_wp2;go_ret;have e:xs=ys:=wV (by rw [lx'.out,ly'.out]) fun k hk=>heq.out k aV (by have:=lx'.out;omega)
   exact⟨by rw [<-hvx.out,<-hvy.out,e,oB];rfl,q,rfl⟩
  ·obtain ⟨i,rfl⟩:∃i,j=i+1:=⟨j - 1,by omega⟩;obtain ⟨b1,o1,rfl,k1,u1⟩:=hx'.out.at64 (k:=i) (by rw [lx'.out];omega);obtain ⟨b2,o2,rfl,k2,u2⟩:=hy'.out.at64 (k:=i) (by rw [ly'.out];omega);have hji:(((i+1:Nat):Int) - 1)=i:=by omega
   rw [hji];have hil:(i:Int)<n:=by omega
   have hi2:i<n:=by omega
   by_cases he:nth xs i=nth ys i
   ·have hb:(nth xs i != nth ys i)=false:=by rw [he];simp
    have heq2:=@hid (∀k,i<=k->k<n->nth xs k=nth ys k) (fun k h1 h2=>by
     by_cases hk:k=i
     ·rw [hk];exact he
     ·exact heq.out k (by omega) h2)
    clear he hji;go_wp2
    go_quiet (fail)
    go_wp2
    go_roundw
    case rel=>exact⟨i,by omega,rfl,rfl,heq2.out,_,rfl⟩
    case measure=>first | (simp [intOf];done) | (simp [intOf];omega)
   ·have hb:(nth xs i != nth ys i)=true:=by simpa using he
    have hcv:=hid (show compareInt (nth xs i) (nth ys i)=dU x y from by
     have hje:∀k,i<k->k<xs.length->nth xs k=nth ys k:=fun k h1 h2=>heq.out k (by omega) (by have:=lx'.out;omega)
     unfold compareInt;by_cases hlt:nth xs i<nth ys i
     ·rw [if_pos hlt,mD];have:=aC2 hox.out (by rw [lx'.out,ly'.out]) (by rw [lx'.out];exact hi2) hje hlt
      rwa [hvx.out,hvy.out] at this
     ·have hgt:nth ys i<nth xs i:=by omega
      rw [if_neg hlt,if_pos hgt,nW];have:=aC2 hoy.out (by rw [lx'.out,ly'.out]) (by rw [ly'.out];exact hi2) (fun k h1 h2=>(hje k h1 (by rw [lx'.out];rw [ly'.out] at h2;exact h2)).symm) hgt
      rwa [hvx.out,hvy.out] at this)
    clear he hji;go_wp2
    go_quiet (fail)
    go_wp2
    go_quiet ((go_at_call 169;exact tY (vC _ _ _)))
    go_wp2;go_ret;exact⟨by rw [hcv.out];rfl,_,by rw [World.drewN_drewN,World.drewN_drewN]⟩
theorem aBw {u v y1 y0 Q:Nat} (hv:v<4294967296) (hQ:Q * (y1 * 4294967296+y0)<=u * 4294967296+v) (hy:0<y1):Q<=u / y1:=by
 rw [Nat.le_div_iff_mul_le hy];have h1:Q * (y1 * 4294967296+y0)=Q * y1 * 4294967296+Q * y0:=by rw [Nat.mul_add,Nat.mul_assoc]
 rw [h1] at hQ;generalize Q * y1=P at *;generalize Q * y0=R at *;omega
theorem iN {u v y1 y0 Q q rh y:Nat} (hy:y=y1 * 4294967296+y0) (hv:v<4294967296) (hQ:Q * y<=u * 4294967296+v) (hu:u<y) (hi:q * y1+rh=u) (hle:Q<=q) (hc:4294967296<=q\/4294967296 * rh+v<q * y0):0<q/\Q<=q - 1:=by
 rcases hc with hc | hc
 ·have:Q<4294967296:=by
   refine Nat.lt_of_not_le fun h=>?_
   have h1:4294967296 * y<=Q * y:=Nat.mul_le_mul_right _ h;generalize Q * y=P at *;omega
  omega
 ·have hne:Q≠q:=fun e=>by
   subst e;have h1:Q * y=Q * y1 * 4294967296+Q * y0:=by rw [hy,Nat.mul_add,Nat.mul_assoc]
   rw [h1] at hQ;generalize Q * y1=P at *;generalize Q * y0=R at *;omega
  omega
theorem lP {u v y1 y0 q rh:Nat} (hi:q * y1+rh=u) (h:q * y0<=4294967296 * rh+v):q * (y1 * 4294967296+y0)<=u * 4294967296+v:=by
 have h1:q * (y1 * 4294967296+y0)=q * y1 * 4294967296+q * y0:=by rw [Nat.mul_add,Nat.mul_assoc]
 rw [h1];generalize q * y1=P at *;generalize q * y0=R at *;omega
theorem iO {u v y1 y0 q rh:Nat} (hi:q * y1+rh=u) (hr:4294967296<=rh) (hu:u<y1 * 4294967296+y0) (h0:y0<4294967296):q * (y1 * 4294967296+y0)<=u * 4294967296+v:=by
 have hq:q<=4294967296:=by
  refine Nat.le_of_not_lt fun h=>?_
  have h1:(4294967296+1) * y1<=q * y1:=Nat.mul_le_mul_right _ h;generalize q * y1=P at *;omega
 refine lP hi ?_;have h1:q * y0<=4294967296 * y0:=Nat.mul_le_mul_right _ hq;generalize q * y0=R at *;omega
theorem aFz {N y q:Nat} (h1:N / y<=q) (h2:q * y<=N) (hy:0<y):q=N / y:=Nat.le_antisymm ((Nat.le_div_iff_mul_le hy).2 h2) h1
theorem aF0 {M v y:Nat} (hy:0<y):(M * 4294967296+v) / y=M / y * 4294967296+(M % y * 4294967296+v) / y/\(M * 4294967296+v) % y=(M % y * 4294967296+v) % y:=by
 have h:=Nat.mod_add_div M y;have e:M * 4294967296+v=(M % y * 4294967296+v)+y * (M / y * 4294967296):=by
  generalize hq:M / y=q at *;generalize M % y=r at *;rw [<-h,Nat.add_mul,<-Nat.mul_assoc];omega
 rw [e,Nat.add_mul_div_left _ _ hy,Nat.add_mul_mod_self_left];exact⟨by omega,rfl⟩
structure aKy (h l y s y2 yn1 yn0 un32 un10 un1 un0:Nat):Prop where
 y2e:y2=y * 2 ^ s
 y2l:y2<18446744073709551616
 yn:y2=yn1 * 4294967296+yn0
 y0l:yn0<4294967296
 y1p:2147483648<=yn1
 y1l:yn1<4294967296
 un:un32 * 18446744073709551616+un10=(h * 18446744073709551616+l) * 2 ^ s
 unl:un32<y2
 uv:un10=un1 * 4294967296+un0
 u1:un1<4294967296
 u0:un0<4294967296
 sl:s<64
 y0:0<y
theorem aBx {y:Nat} (h0:0<y) (hy:y<18446744073709551616):∃s,s<64/\Go.Lib.bitLen y=64 - s/\9223372036854775808<=y * 2 ^ s/\y * 2 ^ s<18446744073709551616:=by
 obtain ⟨h1,h2,h3⟩:=bitLenAux_bounds 64 y (by simpa using hy) (by omega);have h4:bitLenAux 64 y=Go.Lib.bitLen y:=rfl;rw [h4] at h1 h2 h3;have h5:Go.Lib.bitLen y<=64:=bitLen_le y 64 aB (by simpa using hy);refine⟨64 - Go.Lib.bitLen y,by omega,by omega,?_,?_⟩
 ·have:=Nat.mul_le_mul_right (2 ^ (64 - Go.Lib.bitLen y)) h2;rw [<-Nat.pow_add,show Go.Lib.bitLen y - 1+(64 - Go.Lib.bitLen y)=63 by omega] at this;exact this
 ·have:=Nat.mul_lt_mul_of_pos_right h3 (Nat.two_pow_pos (64 - Go.Lib.bitLen y));rw [<-Nat.pow_add,show Go.Lib.bitLen y+(64 - Go.Lib.bitLen y)=64 by omega] at this;exact this
theorem aNa {h l y s:Nat} (hh:h<y) (hl:l<18446744073709551616) (hs:s<64) (h1:9223372036854775808<=y * 2 ^ s) (h2:y * 2 ^ s<18446744073709551616) :
  aKy h l y s (y * 2 ^ s) (y * 2 ^ s / 4294967296) (y * 2 ^ s % 4294967296) (h * 2 ^ s+l / 2 ^ (64 - s)) (l * 2 ^ s % 18446744073709551616) (l * 2 ^ s % 18446744073709551616 / 4294967296) (l * 2 ^ s % 18446744073709551616 % 4294967296):=by
 have hu:=qL (x:=l) (k:=s) hl hs;have hW:aO=18446744073709551616:=rfl;rw [hW] at hu;have h3:(h+1) * 2 ^ s<=y * 2 ^ s:=Nat.mul_le_mul_right _ hh;rw [Nat.add_mul,Nat.one_mul] at h3;refine⟨rfl,h2,?_,Nat.mod_lt _ (by decide),?_,?_,?_,?_,?_,?_,Nat.mod_lt _ (by decide),hs,by omega⟩
 ·have:=Nat.mod_add_div (y * 2 ^ s) 4294967296;omega
 ·omega
 ·omega
 ·rw [Nat.add_mul (h * 18446744073709551616) l,Nat.mul_right_comm h 18446744073709551616];generalize l * 2 ^ s=X at *;generalize h * 2 ^ s=Y at *;omega
 ·omega
 ·have:=Nat.mod_add_div (l * 2 ^ s % 18446744073709551616) 4294967296;omega
 ·have:=Nat.mod_lt (l * 2 ^ s) (show 0<18446744073709551616 by decide);omega
section
variable {h l y s y2 yn1 yn0 un32 un10 un1 un0 : Nat}
theorem aKy.all (P:aKy h l y s y2 yn1 yn0 un32 un10 un1 un0) :
  (un32 * 4294967296+un1) / y2 * 4294967296+((un32 * 4294967296+un1) % y2 * 4294967296+un0) / y2=(h * 18446744073709551616+l) / y /\
  ((un32 * 4294967296+un1) % y2 * 4294967296+un0) % y2=(h * 18446744073709551616+l) % y * 2 ^ s:=by
 have hy2:0<y2:=by have:=P.y1p;have:=P.yn;omega
 obtain ⟨e1,e2⟩:=aF0 (M:=un32 * 4294967296+un1) (v:=un0) hy2;have e3:(un32 * 4294967296+un1) * 4294967296+un0=(h * 18446744073709551616+l) * 2 ^ s:=by rw [<-P.un,P.uv];omega
 rw [e3,P.y2e] at e1 e2;rw [Nat.mul_div_mul_right _ _ (Nat.two_pow_pos s)] at e1;rw [Nat.mul_mod_mul_right] at e2;rw [P.y2e];exact⟨e1.symm,e2.symm⟩
end
end Go.Proofs.YtgoojkiccdjplaaGreatDoor
