/-
  Parts of this claim's texts, one behind the other: SP RB SH SK RC RD RE RF. No condition.
-/
import Derived.Test.YtgoojkiccdjplaaGreatDoorN1
import Derived.Test.YtgoojkiccdjplaaGreatDoorN22
import Derived.Test.YtgoojkiccdjplaaGreatDoorN2
import Derived.BigRegion
set_option linter.unusedVariables false
set_option linter.unusedSimpArgs false
set_option maxRecDepth 100000
set_option maxHeartbeats 16000000
namespace Go.Proofs.YtgoojkiccdjplaaGreatDoor
open Go.RowKit Go.Sort Go.Lib
variable {X : Nat -> Prop}
theorem pX {a b:ByteArray} (h:a.toList=b.toList):a=b:=by
 rw [Lib.toList_data,Lib.toList_data] at h;cases a;cases b;simp at h;rw [ByteArray.mk.injEq];exact h
theorem aDd {a b:ByteArray}:(a.toList == b.toList)=true↔a=b:=⟨fun h=>pX (by simpa using h),fun h=>by subst h;simp⟩
theorem aHg {a b:ByteArray} (h:(a.toList == b.toList)=false):a≠b:=fun e=>by subst e;simp at h
theorem aHh (s:ByteArray):qB s=true↔s∈dJ:=Lib.containsS_iff dJ s
theorem vH (s:ByteArray) (w:World):Calls Tryz.prog 155 #[.string s] w fun e w'=>e = .returned (.bool (qB s))/\Below w.heap.size w w':=by
 have hri:=hid (aHh s);have hl:dJ.length=27:=by decide
 have hl':=hid hl;have hc:=hid (show ∀k,k<27->(w.alloc (.cells (dJ.map Value.string).toArray 9)).cell? ⟨w.heap.size,k,none⟩=some (.string (dJ.getD k ByteArray.empty)) from fun k hk=>by
  rw [World.cell?_alloc_new];simp [List.getD,hl,hk])
 clear hl;go_enter Tryz.func155,Tryz.ntmps155
 go_wp2
 go_loopw [2,4] (fun _ i wr=>∃k:Nat,k<=27/\i = .int .i64 k/\wr=w.alloc (.cells (dJ.map Value.string).toArray 9)/\Hid (∀j,j<k->dJ.getD j ByteArray.empty≠s)) (fun _ i _=>27 - (intOf i).toNat)
 case atStart=>exact⟨0,aV,rfl,by rfl,by intro j hj;omega⟩
 case round=>
  obtain ⟨k,hk,rfl,rfl,hne⟩:=hrel;have hB:Below w.heap.size w (w.alloc (.cells (dJ.map Value.string).toArray 9)):=bD;have hB':=hid hB;clear hB;by_cases hlt:k<27
  ·have h1:=hc.out k hlt;have hmem:=hid (show dJ.getD k ByteArray.empty∈dJ by
    have:k<dJ.length:=by rw [hl'.out];exact hlt
    simp [List.getD,this])
   have hnx:=hid (fun(h:dJ.getD k ByteArray.empty≠s)=>show ∀j,j<k+1->dJ.getD j ByteArray.empty≠s from fun j hj=>by
    by_cases e:j=k
    ·subst e;exact h
    ·exact hne.out j (by omega))
   generalize dJ.getD k ByteArray.empty=z at *;generalize w.alloc (.cells (dJ.map Value.string).toArray 9)=w1 at *;cases he:(z.toList == s.toList)
   ·have hv:=hid (hnx.out (aHg he));go_wp2
    go_roundw
    case rel=>exact⟨k+1,by omega,by go_num,by trivial,hv.out⟩
    case measure=>simp [intOf];omega
   ·have hv:=@hid (true=qB s) (by symm;rw [hri.out,<-aDd.1 he];exact hmem.out);go_wp2;go_ret;exact⟨aQ hv.out,hB'.out⟩
  ·have hv:=@hid (false=qB s) (by
    symm
    cases hr:qB s
    ·rfl
    ·have hm:=hri.out.1 hr;obtain ⟨j,hj,e⟩:=List.getElem_of_mem hm;have hj2:j<27:=by rw [<-hl'.out];exact hj
     exact absurd (show dJ.getD j ByteArray.empty=s by simp [List.getD,hj,e]) (hne.out j (by omega)))
   go_wp2;go_ret;exact⟨aQ hv.out,hB'.out⟩
theorem wR (s:ByteArray) (w:World):Calls Tryz.prog 108 #[.string s] w fun e w'=>e = .returned (.bool (iT s))/\Below w.heap.size w w':=by
 have hd:=@hid (iT s=(!s.toList.isEmpty && (decide (s.size<=200) && !qB s))) rfl;have hem:=@hid (s.toList.isEmpty=decide (s.size=0)) (by
  rw [Lib.toList_data];have:s.size=s.data.toList.length:=by simp
  rw [this];cases s.data.toList <;> simp)
 have hr:=hid (vH s w);by_cases h0:1<=s.size
 ·have h0i:(1:Int)<=s.size:=by omega
  by_cases h2:s.size<=200
  ·have h2i:(s.size:Int)<=200:=by omega
   have hv:=@hid (iT s = !qB s) (by rw [hd.out,hem.out];simp [h2,show ¬s.size=0 by omega]);go_enter Tryz.func108,Tryz.ntmps108
   go_wp2_with fail
   refine hr.out.mono ?_;rintro e w1 ⟨rfl,hb⟩;have hb':=hid hb;clear hb;go_wp2;go_ret;exact⟨aQ hv.out.symm,hb'.out⟩
  ·have h2i:¬(s.size:Int)<=200:=by omega
   have hv:=@hid (false=iT s) (by rw [hd.out];simp [h2]);go_enter Tryz.func108,Tryz.ntmps108
   go_wp2;go_ret;exact⟨aQ hv.out,Below.refl _ _⟩
 ·have h0i:¬(1:Int)<=s.size:=by omega
  have hv:=@hid (false=iT s) (by rw [hd.out,hem.out];simp [show s.size=0 by omega]);go_enter Tryz.func108,Tryz.ntmps108
  go_wp2;go_ret;exact⟨aQ hv.out,Below.refl _ _⟩
theorem yI (B p:Nat) (T:fA) (s:Int) (w:World) (h:gK X B p T w) (hl:T.sorts.length<1099511627776):Calls Tryz.prog 113 #[.pointer (some ⟨p,0,none⟩),.int .i64 s] w fun e w'=>e = .returned (.bool (vM T.sorts.length s))/\w=w':=by
 obtain ⟨a1,c1,a2,c2,a3,c3,hb,_⟩:=h.look;have k0:w.cell? ⟨p,0,none⟩=some (.slice a1 T.sorts.length c1):=aC hb 0;have hd:=@hid (vM T.sorts.length s=(decide (0<=s) && decide (s<2+(T.sorts.length:Int)))) rfl;clear hb h;generalize T.sorts.length=n at *;by_cases h1:0<=s
 ·have hv:=@hid (decide (s<(n:Int)+2)=vM n s) (by rw [hd.out,Int.add_comm];simp [h1]);go_enter Tryz.func113,Tryz.ntmps113
  go_wp2;go_ret;exact⟨aQ hv.out,rfl⟩
 ·have hv:=@hid (false=vM n s) (by rw [hd.out];simp [h1]);go_enter Tryz.func113,Tryz.ntmps113
  go_wp2;go_ret;exact⟨aQ hv.out,rfl⟩
theorem rV {x:ByteArray}:∀ {zs:List ByteArray} {k i:Nat},(∀j,j<k->zs.getD j ByteArray.empty≠x)->k<=zs.length->Lib.idxFromS zs x i=Lib.idxFromS (zs.drop k) x (i+k)
 | zs,0,i,_,_=>by simp
 | [],k+1,i,_,hk=>by simp at hk
 |
  z :: zs,k+1,i,h,hk=>by
  have h0:z≠x:=h 0 (by omega);rw [cG,<-Nat.add_assoc,Nat.add_right_comm,<-rV (zs:=zs) (k:=k) (i:=i+1) (fun j hj=>by simpa using h (j+1) (by omega)) (by simpa using hk)];rw [Lib.idxFromS];simp [h0]
theorem aHi {zs:List ByteArray} {x:ByteArray} {k:Nat} (h:∀j,j<k->zs.getD j ByteArray.empty≠x) (hk:k<zs.length) (hx:zs.getD k ByteArray.empty=x):Lib.idxOfS zs x=k:=by
 show Lib.idxFromS zs x 0=k;rw [rV h (Nat.le_of_lt hk),Nat.zero_add,List.drop_eq_getElem_cons hk];have e:zs[k]=x:=by simpa [List.getD,hk] using hx
 rw [Lib.idxFromS];simp [e]
theorem aEx {zs:List ByteArray} {x:ByteArray} (h:∀j,j<zs.length->zs.getD j ByteArray.empty≠x):Lib.idxOfS zs x = -1:=by
 show Lib.idxFromS zs x 0 = -1;rw [rV h aB,List.drop_length];rfl
theorem vI (B p:Nat) (T:fA) (s:ByteArray) (w:World) (h:gK X B p T w) (hl:T.sorts.length<1099511627776) :
  Calls Tryz.prog 107 #[.pointer (some ⟨p,0,none⟩),.string s] w fun e w'=>e = .returned (.tuple #[.int .i64 (gD T s).1,.bool (gD T s).2])/\w=w':=by
 obtain ⟨a1,c1,a2,c2,a3,c3,hb,o1,_⟩:=h.look;have k0:w.cell? ⟨p,0,none⟩=some (.slice a1 T.sorts.length c1):=aC hb 0;have hrd:=hid (o1.read (S':=fun _=>True) (fun _ _ _=>trivial) (fun _ _=>trivial));have hd:=@hid (gD T s=if s.toList == [66,111,111,108] then(0,true) else if s.toList == [82,101,97,108] then(1,true) else if Lib.idxOfS T.sorts s<0 then(0,false) else(2+Lib.idxOfS T.sorts s,true)) rfl;clear hb h o1;cases e1:(s.toList == [66,111,111,108])
 case true=>
  have hv:=@hid (gD T s=(0,true)) (by rw [hd.out,e1];rfl);go_enter Tryz.func107,Tryz.ntmps107
  go_wp2;go_ret2;exact⟨by rw [hv.out] <;> rfl,rfl⟩
 case false=>
 cases e2:(s.toList == [82,101,97,108])
 case true=>
  have hv:=@hid (gD T s=(1,true)) (by rw [hd.out,e1,e2];rfl);go_enter Tryz.func107,Tryz.ntmps107
  go_wp2;go_ret2;exact⟨by rw [hv.out] <;> rfl,rfl⟩
 case false=>
 have hd2:=@hid (gD T s=if Lib.idxOfS T.sorts s<0 then(0,false) else(2+Lib.idxOfS T.sorts s,true)) (by rw [hd.out,e1,e2];rfl);clear hd;generalize T.sorts=zs at *;go_enter Tryz.func107,Tryz.ntmps107
 go_wp2
 go_loopw [4,5,6] (fun _ _ i wr=>∃k:Nat,k<=zs.length/\i = .int .i64 k/\wr=w/\Hid (∀j,j<k->zs.getD j ByteArray.empty≠s)) (fun _ _ i _=>zs.length - (intOf i).toNat)
 case atStart=>exact⟨0,aV,rfl,rfl,by intro j hj;omega⟩
 case round=>
  obtain ⟨k,hk,rfl,rfl,hne⟩:=hrel;by_cases hlt:k<zs.length
  ·obtain ⟨b,o,rfl,hc⟩:=hrd.out.strs (by omega);have h1:=hc k hlt;have hnx:=hid (fun(h:zs.getD k ByteArray.empty≠s)=>show ∀j,j<k+1->zs.getD j ByteArray.empty≠s from fun j hj=>by
    by_cases e:j=k
    ·subst e;exact h
    ·exact hne.out j (by omega))
   have hhit:=hid (fun h=>aHi (x:=s) (fun j hj=>hne.out j hj) hlt h);clear hc;generalize zs.getD k ByteArray.empty=z at *;cases he:(z.toList == s.toList)
   ·have hv:=hid (hnx.out (aHg he));go_wp2
    go_roundw
    case rel=>exact⟨k+1,by omega,by go_num,by trivial,hv.out⟩
    case measure=>simp [intOf];omega
   ·have hv:=@hid (gD T s=((k:Int)+2,true)) (by rw [hd2.out,hhit.out (aDd.1 he),if_neg (by omega),Int.add_comm]);go_wp2;go_ret2;exact⟨by rw [hv.out] <;> rfl,rfl⟩
  ·have hv:=@hid (gD T s=(0,false)) (by rw [hd2.out,aEx (fun j hj=>hne.out j (by omega))];rfl);go_wp2;go_ret2;exact⟨by rw [hv.out] <;> rfl,rfl⟩
def sU:ByteArray:=⟨#[85]⟩
def aAy:ByteArray:=⟨#[66,111,111,108]⟩
def sf:ByteArray:=⟨#[102]⟩
def sg:ByteArray:=⟨#[103]⟩
def sx:ByteArray:=⟨#[120]⟩
def aT0:fA:=⟨[],[],[]⟩
theorem toL (s:ByteArray):s.toList=s.data.toList:=Lib.toList_data s
theorem nN (a b:ByteArray):nQ a b=(a.data.toList == b.data.toList):=by unfold nQ;rw [toL,toL]
theorem oG (s:ByteArray):iT s=(!s.data.toList.isEmpty && (decide (s.size<=200) && !qB s)):=by unfold iT;rw [toL]
theorem aMc:iT sU=true:=by rw [oG];decide +kernel
theorem aHj:iT aAy=false:=by rw [oG];decide +kernel
theorem aMd:gY aT0 sU=false:=by unfold gY;rw [aMc];decide +kernel
theorem kQ.yes {X:Nat->Prop} {B p:Nat} {T:fA} {s:ByteArray} {w w':World} {e:Ending} (h:kQ X B p T s w e w') (hb:gY T s=false):e = .returned (.tuple #[.int .i64 ((T.sorts.length:Int)+2),.int .i64 0])/\gJ X B p { T with sorts:=T.sorts ++ [s] } w'/\eX p w w':=by
 unfold kQ at h;rw [if_neg (by rw [hb];decide)] at h;exact⟨h.1.1,h.1.2,h.2⟩
variable {X : Nat -> Prop}
theorem bK.funAt {S:Nat->Prop} {w:World} {base:Nat} {e:TypeId} {a:Option Addr} {n c:Nat} {fs:List gX} (h:bK kP S w base e (.slice a n c) fs) {k:Nat} {f:gX} (hf:fs[k]? = some f) :
  ∃g a' c',a=some ⟨g,0,none⟩/\w.cell? ⟨g,k * 3,none⟩=some (.string f.name)/\w.cell? ⟨g,k * 3+1,none⟩=some (.slice a' f.args.length c')/\w.cell? ⟨g,k * 3+2,none⟩=some (.int .i64 f.res)/\bJ bV.int S w a' f.args.length f.args/\fG f.res/\f.args.length<=c'/\c'<=maxLen:=by
 obtain ⟨css,h1,h2⟩:=h.pairs;have hkl:=(List.getElem?_eq_some_iff.1 hf).1;obtain ⟨g,cap,hv,_⟩:=h1.form (by omega);cases hv;obtain ⟨cs,hc,hr⟩:=h2.2 k f hf;obtain ⟨a',n',c',rfl,q1,q2,q3,q4⟩:=kZ.1 hr;obtain rfl:n'=f.args.length:=q3.1.symm;have hat:=fun(i:Nat) (u:Value) (hu:[Value.string f.name,.slice a' f.args.length c',.int .i64 f.res][i]? = some u)=>h1.cells (g:=g) rfl _ u (mA (k:=3) (bK.lens h2.1 h2.2) hc hu)
 exact⟨g,a',c',rfl,hat 0 _ rfl,hat 1 _ rfl,hat 2 _ rfl,q3,q4,q1,q2⟩
theorem aHk {T:fA} {s:ByteArray} {k:Nat} {f:gX} (h:∀j f,j<k->T.funs[j]? = some f->(f.name.toList == s.toList)=false) (hk:T.funs[k]? = some f) (hx:(f.name.toList == s.toList)=true):gO T s=some f/\fH T s=f:=by
 have e:gO T s=some f:=by
  have:=kO (p:=fun f:gX=>nQ f.name s) T.funs 0;unfold gO;have hh:=mW (p:=fun f:gX=>nQ f.name s) (xs:=T.funs) (fun j f hj hf=>h j f hj hf) hk hx;cases hf:T.funs.find? (fun f=>nQ f.name s) with
  | none=>rw [hf] at this;dsimp only at this;rw [this] at hh;omega
  |
   some y=>
   rw [hf] at this;obtain ⟨k2,h1,h2⟩:=this;rw [hh] at h1;obtain rfl:k=k2:=by omega
   rw [hk] at h2;exact h2.symm
 exact⟨e,by unfold fH;rw [e];rfl⟩
theorem aEy {T:fA} {s:ByteArray} (h:∀j f,j<T.funs.length->T.funs[j]? = some f->(f.name.toList == s.toList)=false):gO T s=none/\fH T s=oS:=by
 have e:gO T s=none:=by
  unfold gO;rw [List.find?_eq_none];intro f hf;obtain ⟨j,hj,rfl⟩:=List.getElem_of_mem hf;have:=h j _ hj (List.getElem?_eq_getElem hj);show ¬nQ _ _=true;unfold nQ;rw [this];decide
 exact⟨e,by unfold fH;rw [e];rfl⟩
theorem aEz (B p:Nat) (T:fA) (s:ByteArray) (w:World) (h:gK X B p T w) (hs:qD T) :
  Calls Tryz.prog 112 #[.pointer (some ⟨p,0,none⟩),.string s] w fun e w'=>aJ5 X (fH T s) (gO T s).isSome w e w':=by
 have hB0:Below w.heap.size w (w.alloc (.cells #[.string ⟨#[]⟩,.slice none 0 0,.int .i64 0] 114)):=bD;have h2:=h.all hB0;have hfl:=hs.f;have hplt:=h.plt;obtain ⟨a1,c1,a2,c2,a3,c3,hblk,_,o2,_⟩:=h2.look;have k1:=aC hblk 1;simp only [dA,dB,cW] at k1;have O2:=hid o2;have hB0':=hid hB0;have H2:=heap_alloc_new w (.cells #[.string ⟨#[]⟩,.slice none 0 0,.int .i64 0] 114);obtain ⟨k20,k21,k22⟩:=dF H2;have f20:=aY H2 0;have f21:=aY H2 1;have f22:=aY H2 2;have hN:=hid (show ¬fZ X (w.alloc (.cells #[.string ⟨#[]⟩,.slice none 0 0,.int .i64 0] 114)) w.heap.size from fun h=>cQ (by decide) h.2 ⟨_,_,H2⟩);have hpn:p≠w.heap.size:=by omega
 clear h h2 hB0 hblk o2 H2 hs;go_enter Tryz.func112,Tryz.ntmps112
 go_wp2;generalize (w.alloc (.cells #[.string ⟨#[]⟩,.slice none 0 0,.int .i64 0] 114))=w1 at *
 go_loopw [5,6] (fun _ i wr=>∃k:Nat,k<=T.funs.length/\i = .int .i64 k/\wr=w1/\Hid (∀j f,j<k->T.funs[j]? = some f->(f.name.toList == s.toList)=false)) (fun _ i _=>T.funs.length - (intOf i).toNat)
 case atStart=>exact⟨0,aV,rfl,rfl,by intro j f hj;omega⟩
 case round=>
  obtain ⟨k,hk,rfl,rfl,hne⟩:=hrel;by_cases hlt:k<T.funs.length
  ·have hf:=List.getElem?_eq_getElem hlt;obtain ⟨g,a',c',rfl,q0,q1,q2,q3,q4,q5,q6⟩:=O2.out.funAt hf;have Q3:=hid q3;have Q5:=hid (And.intro q5 q6);have hf':=hid hf;clear hf q3 q4 q5 q6;cases he:(T.funs[k].name.toList == s.toList)
   ·have hsn:=@hid (∀j f,j<k+1->T.funs[j]? = some f->(f.name.toList == s.toList)=false) (fun j f hj hf=>by
     by_cases hjk:j<k
     ·exact hne.out j f hjk hf
     ·obtain rfl:j=k:=by omega
      rw [hf'.out] at hf;cases hf;exact he)
    generalize T.funs[k]=f at *;go_wp2
    go_roundw
    case rel=>exact⟨k+1,by omega,by go_num,by trivial,hsn.out⟩
    case measure=>simp [intOf];omega
   ·have hv:=hid (aHk (fun j f hj hf=>hne.out j f hj hf) hf'.out he);generalize T.funs[k]=f at *;go_wp2;refine bodyPost_ret (v:=.tuple #[tG f.name a' f.args.length c' f.res,.bool true]) (by simp [results,Tryz.results112,go_sem, *]) rfl ?_;refine⟨a',c',by rw [hv.out.1,hv.out.2] <;> rfl,by rw [hv.out.2];exact((Q3.out.intSet hN.out).intSet (fun h=>hN.out (fV.1 h))).intSet (fun h=>hN.out (fV.1 (fV.1 h))),by rw [hv.out.2];exact Q5.out.1,Q5.out.2,?_⟩;exact((hB0'.out.setCell aB _).setCell aB _).setCell aB _
  ·have hv:=hid (aEy (T:=T) (s:=s) (fun j f hj hf=>hne.out j f (by omega) hf));go_wp2;refine bodyPost_ret (v:=.tuple #[tG ⟨#[]⟩ none 0 0 0,.bool false]) (by simp [results,Tryz.results112,go_sem, *]) rfl ?_;refine⟨none,0,by rw [hv.out.1,hv.out.2] <;> rfl,by rw [hv.out.2];exact bJ.nil _ _ _ _,by rw [hv.out.2];exact aB,aV,?_⟩;exact((hB0'.out.setCell aB _).setCell aB _).setCell aB _
theorem aHl:iT aAy=false:=aHj
theorem aHm:iT ⟨#[82,101,97,108]⟩=false:=by rw [oG];decide +kernel
theorem aNh {T:fA} {s:ByteArray}:(!iT s || (gD T s).2)=gY T s:=by
 unfold gY;cases hm:iT s
 ·rfl
 ·have h1:(s.toList == [66,111,111,108])=false:=by
   cases h:(s.toList == [66,111,111,108])
   ·rfl
   ·have:s=aAy:=pX (by rw [toL aAy];simpa [aAy] using h);rw [this,aHl] at hm;cases hm
  have h2:(s.toList == [82,101,97,108])=false:=by
   cases h:(s.toList == [82,101,97,108])
   ·rfl
   ·have:s=⟨#[82,101,97,108]⟩:=pX (by rw [toL ⟨#[82,101,97,108]⟩];simpa using h);rw [this,aHm] at hm;cases hm
  unfold gD Lib.containsS;rw [h1,h2];by_cases h3:Lib.idxOfS T.sorts s<0
  ·simp [h3]
  ·simp [h3];omega
def lZ (X:Nat->Prop) (B p:Nat) (T:fA) (s:ByteArray) (w:World) (e:Ending) (w':World):Prop:=
 (if gY T s then e = .returned (.tuple #[.int .i64 0,.int .i64 1])/\gK X B p T w' else e = .returned (.tuple #[.int .i64 ((T.sorts.length:Int)+2),.int .i64 0])/\gK X B p { T with sorts:=T.sorts ++ [s] } w')/\eX p w w'
theorem aHn {z:ByteArray}:∀u ∈ [Value.string z],u.oneCell'=true:=by
 intro u hu;obtain rfl:=List.mem_singleton.1 hu;rfl
theorem below_grown {w W:World} {row:Option Nat} (h:Below w.heap.size w W):w.grownBy W row:=⟨h.os,h.tape,h.output,h.size,fun k hk _=>h.block k hk⟩
theorem aE0 (B p:Nat) (T:fA) (s:ByteArray) (w:World) (h:gK X B p T w) (hl:T.sorts.length<1099511627776) :
  Calls Tryz.prog 58 #[.pointer (some ⟨p,0,none⟩),.string s] w fun e w'=>lZ X B p T s w e w':=by
 have h':=hid h;have hfs:=hid (vI B p T s w h hl);have hnm:=hid (wR s w);have hbd:=hid (aNh (T:=T) (s:=s));obtain ⟨i0,hi,hz0,hz1,hz2⟩:=info_parts yS;clear h;cases hb:gY T s
 case true=>
  rw [hb] at hbd;cases hm:iT s
  ·rw [hm] at hnm;clear hm hbd;go_enter Tryz.func58,Tryz.ntmps58
   go_wp2_with fail
   refine hfs.out.mono ?_;rintro e w' ⟨rfl,rfl⟩
   go_wp2_with fail
   refine hnm.out.mono ?_;rintro e w1 ⟨rfl,b1⟩;have B1:=hid b1;clear b1;go_wp2;go_ret2;unfold lZ;rw [if_pos hb];exact⟨⟨rfl,h'.out.all B1.out⟩,.of_below h'.out.plt B1.out⟩
  ·have hf2:(gD T s).2=true:=by have:=hbd.out;rw [hm] at this;simpa using this
   rw [hm] at hnm;rw [hf2] at hfs;clear hm hbd hf2;go_enter Tryz.func58,Tryz.ntmps58
   go_wp2_with fail
   refine hfs.out.mono ?_;rintro e w' ⟨rfl,rfl⟩
   go_wp2_with fail
   refine hnm.out.mono ?_;rintro e w1 ⟨rfl,b1⟩;have B1:=hid b1;clear b1;go_wp2;go_ret2;unfold lZ;rw [if_pos hb];exact⟨⟨rfl,h'.out.all B1.out⟩,.of_below h'.out.plt B1.out⟩
 case false=>
  rw [hb] at hbd;have hm:iT s=true:=by have:=hbd.out;cases hm:iT s <;> simp_all
  have hf2:(gD T s).2=false:=by have:=hbd.out;rw [hm] at this;simpa using this
  rw [hm] at hnm;rw [hf2] at hfs;clear hm hbd hf2;go_enter Tryz.func58,Tryz.ntmps58
  go_wp2_with fail
  refine hfs.out.mono ?_;rintro e w' ⟨rfl,rfl⟩
  go_wp2_with fail
  refine hnm.out.mono ?_;rintro e w1 ⟨rfl,b1⟩;have B1:=hid b1;have R1:=hid (h'.out.all b1);obtain ⟨a1,c1,a2,c2,a3,c3,hblk,o1,o2,o3⟩:=R1.out.look;have k0:w1.cell? ⟨p,0,none⟩=some (.slice a1 T.sorts.length c1):=aC hblk 0;have hblk':=hid hblk;have hplt:=R1.out.plt;obtain ⟨css,pA0,sA0,_⟩:=(o1.read (S':=fun _=>True) (fun _ _ _=>trivial) (fun _ _=>trivial)).pairs;obtain ⟨css2,_,pB0⟩:=o1.pairs;have ecss:css=css2:=by
   apply List.ext_getElem?;intro j;by_cases hj:j<T.sorts.length
   ·obtain ⟨x1,y1,z1⟩:=pA0.2 j _ (List.getElem?_eq_getElem hj);obtain ⟨x2,y2,z2⟩:=pB0.2 j _ (List.getElem?_eq_getElem hj);have z1':x1 = [.string _]:=z1;have z2':x2 = [.string _]:=z2;rw [y1,y2,z1',z2']
   ·rw [List.getElem?_eq_none (by rw [pA0.1];omega),List.getElem?_eq_none (by rw [pB0.1];omega)]
  subst ecss;have sA:=hid (show Src w1 1 a1 T.sorts.length css.flatten by have:=sA0 T.sorts.length aB;rwa [List.take_of_length_le (by rw [pA0.1];exact aB)] at this);have pA:=hid pB0;have pO:=hid pA0.ones;clear b1 hblk o1 o2 o3 pA0 pB0 sA0;have hK1:Below w1.heap.size w1 (w1.alloc (.cells #[] 9)):=fM (Below.refl _ _) _;have hK1':=hid hK1;clear hK1
  go_wp2_with (at_builtin;refine eB (base:=w1.heap.size) rfl (.tmp 21) (.tmp 25) rfl Tryz.underlying60 hi hz0 hz1 hz2 rfl (by decide) (Eq.refl (Value.slice _ _ _)) rfl (bW.lit0 rfl aB) (Src.keep sA.out hK1'.out) pO.out ?c3 ?c4 ?c5 ?_)
  case c3=>unfold maxLen;omega
  case c4=>omega
  case c5=>simp
  intro v' w2 ho2 hg2 _;have B2:=hid (fW hK1'.out hg2 (by intro k hk;simp [Value.ownBlock] at hk;omega));obtain ⟨a',c',rfl,_⟩:=ho2.slice;have O2:=hid ho2;clear ho2 hg2;have hsz2:=B2.out.size
  go_wp2_with (at_builtin;refine eB (base:=w1.heap.size) rfl (.tmp 26) (.tmp 28) rfl Tryz.underlying60 hi hz0 hz1 hz2 rfl (by decide) (Eq.refl (Value.slice _ _ _)) rfl (O2.out.alloc _) (Src.lit (iC.lit1 rfl) rfl) aHn ?c3 ?c4 ?c5 ?_)
  case c3=>unfold maxLen;omega
  case c4=>omega
  case c5=>simp;omega
  intro v'' w3 ho3 hg3 _;have b3:=fW (fM B2.out _) hg3 (fun k hk=>(O2.out.lt k hk).1);have B3:=hid b3;have k3:=aD b3 k0;have f3:=aY ((b3.block p hplt).trans hblk'.out) 0;obtain ⟨a'',c'',rfl,_⟩:=ho3.slice;have O3:=hid (((pA.out.append (gE.one (show bV.str.rd (fun _=>False) w1 s [.string s] from rfl))).below b3).own (by rw [List.flatten_append,List.flatten_singleton];exact ho3.lower (aK R1.out.bp (Nat.le_of_lt hplt))) (by simp));have L3:=hid (fun k hk=>(ho3.lt k hk).1);clear ho3 hg3 b3 k0;go_wp2;go_ret2;unfold lZ;rw [if_neg (by rw [hb];decide)];obtain ⟨t1,s1⟩:=R1.out.setSorts hblk'.out (below_grown B3.out) (.inr L3.out) O3.out;refine⟨⟨?_,t1⟩,(eX.of_below h'.out.plt B1.out).trans s1⟩;simp;omega
variable {X : Nat -> Prop}
theorem yJ {xs:List Int}:∀u∈xs.map (Value.int .i64),u.oneCell'=true:=by
 intro u hu;obtain ⟨x,_,rfl⟩:=List.mem_map.1 hu;rfl
theorem bW.carry {w W:World} {base size n:Nat} {e:TypeId} {v:Value} {xs:List Value} {row:Option Nat} (h:bW w base e size v n xs) (hg:w.grownBy W row) (hr:∀k,v.ownBlock=some k->row≠some k):bW W base e size v n xs:=
 h.same fun k hk=>hg.block k (h.lt k hk).2 (Ne.symm (hr k hk))
theorem aHo {w:World} {base n:Nat} {a:Option Addr} {m c:Nat} {xs:List Int} (h:bW w base 3 1 (.slice a m c) n (xs.map (Value.int .i64))) (hwf:WfI xs) (hX:∀k,X k->k<base):bJ bV.int (fZ X w) w a n xs:=by
 obtain ⟨_,h2,_⟩:=h.rdI hwf;refine bJ.ofI h2 fun x hn hx=>?_
 subst hx;exact⟨fun hxx=>by have:=hX _ hxx;have:=(h.lt _ rfl).1;omega,h.ty _ rfl⟩
def gV (X:Nat->Prop) (B p:Nat) (T:fA) (f:gX) (w:World) (e:Ending) (w':World):Prop:=
 e = .returned (.int .i64 (eD T f))/\gK X B p (mX T f) w'/\eX p w w'
theorem gV.no {B p:Nat} {T:fA} {f:gX} {w w':World} {z:Int} (h:gK X B p T w) (hb:Below w.heap.size w w') (hz:eD T f=z) (h0:z≠0):gV X B p T f w (.returned (.int .i64 z)) w':=by
 refine⟨by rw [hz],?_,.of_below h.plt hb⟩;unfold mX;rw [hz,if_neg h0];exact h.all hb
theorem uN {B p:Nat} {T:fA} {nm:ByteArray} {args:List Int} {r:Int} {w wr W:World} {a1 a2 a3 a7 a8:Option Addr} {c1 c2 c3 c7 c8:Nat} {css:List (List Value)} {n8:Nat} {xs8:List Value} (h:gK X B p T wr)
  (hb:wr.heap[p]? = some (.cells #[.slice a1 T.sorts.length c1,.slice a2 T.funs.length c2,.slice a3 T.marks.length c3] 107 (0,0)))
  (hB:Below wr.heap.size wr W) (hp:gE kP (fZ X wr) wr T.funs css) (hx8:xs8=css.flatten ++ [Value.string nm,.slice a7 args.length c7,.int .i64 r]/\n8=T.funs.length+1)
  (ho:bW W wr.heap.size 114 3 (.slice a8 n8 c8) n8 xs8) (hi:bW W wr.heap.size 3 1 (.slice a7 args.length c7) args.length (args.map (Value.int .i64)))
  (hwf:WfI args) (hr:fG r) (h7:args.length<=c7) (h72:c7<=maxLen) (hv:eD T ⟨nm,args,r⟩=0) (hps:eX p w wr):gV X B p T ⟨nm,args,r⟩ w (.returned (.int .i64 0)) (W.setCell ⟨p,1,none⟩ (.slice a8 n8 c8)):=by
 obtain ⟨rfl,rfl⟩:=hx8;have hrd:=(kZ (f:=⟨nm,args,r⟩)).2 ⟨a7,_,c7,rfl,h7,h72,aHo hi hwf h.xlt,hr⟩;have hpp:gE kP (fZ X W) W (T.funs ++ [⟨nm,args,r⟩]) (css ++ [[.string nm,.slice a7 args.length c7,.int .i64 r]]):=by
  refine gE.append ⟨hp.1,fun j x hx=>?_⟩ (gE.one hrd);obtain ⟨cs,e1,e2⟩:=(hp.below hB).2 j x hx;exact⟨cs,e1,kP.mono e2 fun b _ hb=>hb.same (hB.block b hb.lt)⟩
 have hO:=hpp.own (by rw [List.flatten_append,List.flatten_singleton];exact ho.lower (aK h.bp (Nat.le_of_lt h.plt))) (by simp);obtain ⟨t1,s1⟩:=h.setFuns hb (below_grown hB) (.inr fun k hk=>(ho.lt k hk).1) hO;refine⟨by rw [hv],?_,hps.trans s1⟩;unfold mX;rw [hv,if_pos rfl];exact t1
theorem aHp (B p:Nat) (T:fA) (f:gX) (a:Option Addr) (c:Nat) (w:World) (h:gK X B p T w) (hs:qD T) (hx:jP w a f.args.length f.args) (hn:f.args.length<1099511627776) (hcn:f.args.length<=c) :
  Calls Tryz.prog 61 #[.pointer (some ⟨p,0,none⟩),tG f.name a f.args.length c f.res] w fun e w'=>gV X B p T f w e w':=by
 have h':=hid h;have hx':=hid hx;have hd:=@hid (eD T f=if !jM T f.name then 1 else if decide (64<f.args.length) then 1 else if !vM T.sorts.length f.res then 1 else if f.args.any (iH T.sorts.length) then 1 else if decide (1000<=T.funs.length) then 4 else 0) rfl;have hdm:=@hid (jM T f.name=(iT f.name && !(gO T f.name).isSome)) rfl;have hB0:Below w.heap.size w (w.alloc (.cells #[.string f.name,.slice a f.args.length c,.int .i64 f.res] 114)):=bD;have hB0':=hid hB0;have hfd:=hid (aEz B p T f.name _ (h.all hB0) hs);have hplt:=h.plt;have hsl:=hs.s;have hfl:=hs.f;clear h hs hx hB0;generalize fH T f.name=ff at *;generalize hfo:(gO T f.name).isSome=fo at *;obtain ⟨nm,args,r⟩:=f;dsimp only at *;have hnm:=hid (fun w=>wR nm w);cases hmy:iT nm
 case false=>
  have hv:=@hid (eD T ⟨nm,args,r⟩=1) (by rw [hd.out,hdm.out,hmy];rfl);rw [hmy] at hnm;clear hmy hd hdm;go_enter Tryz.func61,Tryz.ntmps61
  go_wp2_with fail
  refine hfd.out.mono ?_;rintro e w1 ⟨af,cf,rfl,_,_,_,hb1⟩;have b01:=hB0'.out.trans (hb1.mono (by simp));have bL:=b01.alloc b01.size (.cells #[.string ff.name,.slice af ff.args.length cf,.int .i64 ff.res] 114);have H0:=(Below.heap_alloc w1 (.cells #[.string ff.name,.slice af ff.args.length cf,.int .i64 ff.res] 114) w.heap.size (by have:=hb1.size;simp at this;omega)).trans ((hb1.block w.heap.size (by simp)).trans (heap_alloc_new w _));have bL':=hid bL;have H0':=hid H0;have hlt0:=(bQ H0).1;have k00:(w1.alloc (.cells #[.string ff.name,.slice af ff.args.length cf,.int .i64 ff.res] 114)).cell? ⟨w.heap.size,0,none⟩=some (.string nm):=aC H0 0;have k01:(w1.alloc (.cells #[.string ff.name,.slice af ff.args.length cf,.int .i64 ff.res] 114)).cell? ⟨w.heap.size,1,none⟩=some (.slice a args.length c):=aC H0 1;have k02:(w1.alloc (.cells #[.string ff.name,.slice af ff.args.length cf,.int .i64 ff.res] 114)).cell? ⟨w.heap.size,2,none⟩=some (.int .i64 r):=aC H0 2;clear b01 bL H0 hb1
  go_wp2_with fail
  refine(hnm.out _).mono ?_;rintro e w2 ⟨rfl,hb2⟩;have B2:=hid (bL'.out.trans (hb2.mono bL'.out.size));have H2:=(hb2.block w.heap.size hlt0).trans H0'.out;have k0:w2.cell? ⟨w.heap.size,0,none⟩=some (.string nm):=aC H2 0;have k1:w2.cell? ⟨w.heap.size,1,none⟩=some (.slice a args.length c):=aC H2 1;have k2:w2.cell? ⟨w.heap.size,2,none⟩=some (.int .i64 r):=aC H2 2;have R2:=hid (h'.out.all B2.out);clear hb2 H2 hlt0 k00 k01 k02;go_wp2;go_ret;exact gV.no h'.out B2.out hv.out (by decide)
 case true=>
 rw [hmy] at hnm hdm;cases fo
 case true=>
  have hv:=@hid (eD T ⟨nm,args,r⟩=1) (by rw [hd.out,hdm.out];rfl);clear hmy hd hdm;go_enter Tryz.func61,Tryz.ntmps61
  go_wp2_with fail
  refine hfd.out.mono ?_;rintro e w1 ⟨af,cf,rfl,_,_,_,hb1⟩;have b01:=hB0'.out.trans (hb1.mono (by simp));have bL:=b01.alloc b01.size (.cells #[.string ff.name,.slice af ff.args.length cf,.int .i64 ff.res] 114);have H0:=(Below.heap_alloc w1 (.cells #[.string ff.name,.slice af ff.args.length cf,.int .i64 ff.res] 114) w.heap.size (by have:=hb1.size;simp at this;omega)).trans ((hb1.block w.heap.size (by simp)).trans (heap_alloc_new w _));have bL':=hid bL;have H0':=hid H0;have hlt0:=(bQ H0).1;have k00:(w1.alloc (.cells #[.string ff.name,.slice af ff.args.length cf,.int .i64 ff.res] 114)).cell? ⟨w.heap.size,0,none⟩=some (.string nm):=aC H0 0;have k01:(w1.alloc (.cells #[.string ff.name,.slice af ff.args.length cf,.int .i64 ff.res] 114)).cell? ⟨w.heap.size,1,none⟩=some (.slice a args.length c):=aC H0 1;have k02:(w1.alloc (.cells #[.string ff.name,.slice af ff.args.length cf,.int .i64 ff.res] 114)).cell? ⟨w.heap.size,2,none⟩=some (.int .i64 r):=aC H0 2;clear b01 bL H0 hb1
  go_wp2_with fail
  refine(hnm.out _).mono ?_;rintro e w2 ⟨rfl,hb2⟩;have B2:=hid (bL'.out.trans (hb2.mono bL'.out.size));have H2:=(hb2.block w.heap.size hlt0).trans H0'.out;have k0:w2.cell? ⟨w.heap.size,0,none⟩=some (.string nm):=aC H2 0;have k1:w2.cell? ⟨w.heap.size,1,none⟩=some (.slice a args.length c):=aC H2 1;have k2:w2.cell? ⟨w.heap.size,2,none⟩=some (.int .i64 r):=aC H2 2;have R2:=hid (h'.out.all B2.out);clear hb2 H2 hlt0 k00 k01 k02;go_wp2;go_ret;exact gV.no h'.out B2.out hv.out (by decide)
 case false=>
 by_cases h64:64<args.length
 ·have hv:=@hid (eD T ⟨nm,args,r⟩=1) (by rw [hd.out,hdm.out];simp [h64]);have h64i:(64:Int)<args.length:=by omega
  clear hmy hd hdm;go_enter Tryz.func61,Tryz.ntmps61
  go_wp2_with fail
  refine hfd.out.mono ?_;rintro e w1 ⟨af,cf,rfl,_,_,_,hb1⟩;have b01:=hB0'.out.trans (hb1.mono (by simp));have bL:=b01.alloc b01.size (.cells #[.string ff.name,.slice af ff.args.length cf,.int .i64 ff.res] 114);have H0:=(Below.heap_alloc w1 (.cells #[.string ff.name,.slice af ff.args.length cf,.int .i64 ff.res] 114) w.heap.size (by have:=hb1.size;simp at this;omega)).trans ((hb1.block w.heap.size (by simp)).trans (heap_alloc_new w _));have bL':=hid bL;have H0':=hid H0;have hlt0:=(bQ H0).1;have k00:(w1.alloc (.cells #[.string ff.name,.slice af ff.args.length cf,.int .i64 ff.res] 114)).cell? ⟨w.heap.size,0,none⟩=some (.string nm):=aC H0 0;have k01:(w1.alloc (.cells #[.string ff.name,.slice af ff.args.length cf,.int .i64 ff.res] 114)).cell? ⟨w.heap.size,1,none⟩=some (.slice a args.length c):=aC H0 1;have k02:(w1.alloc (.cells #[.string ff.name,.slice af ff.args.length cf,.int .i64 ff.res] 114)).cell? ⟨w.heap.size,2,none⟩=some (.int .i64 r):=aC H0 2;clear b01 bL H0 hb1
  go_wp2_with fail
  refine(hnm.out _).mono ?_;rintro e w2 ⟨rfl,hb2⟩;have B2:=hid (bL'.out.trans (hb2.mono bL'.out.size));have H2:=(hb2.block w.heap.size hlt0).trans H0'.out;have k0:w2.cell? ⟨w.heap.size,0,none⟩=some (.string nm):=aC H2 0;have k1:w2.cell? ⟨w.heap.size,1,none⟩=some (.slice a args.length c):=aC H2 1;have k2:w2.cell? ⟨w.heap.size,2,none⟩=some (.int .i64 r):=aC H2 2;have R2:=hid (h'.out.all B2.out);clear hb2 H2 hlt0 k00 k01 k02;go_wp2;go_ret;exact gV.no h'.out B2.out hv.out (by decide)
 cases hir:vM T.sorts.length r
 case false=>
  have hv:=@hid (eD T ⟨nm,args,r⟩=1) (by rw [hd.out,hdm.out,hir];simp);clear hmy hd hdm;go_enter Tryz.func61,Tryz.ntmps61
  go_wp2_with fail
  refine hfd.out.mono ?_;rintro e w1 ⟨af,cf,rfl,_,_,_,hb1⟩;have b01:=hB0'.out.trans (hb1.mono (by simp));have bL:=b01.alloc b01.size (.cells #[.string ff.name,.slice af ff.args.length cf,.int .i64 ff.res] 114);have H0:=(Below.heap_alloc w1 (.cells #[.string ff.name,.slice af ff.args.length cf,.int .i64 ff.res] 114) w.heap.size (by have:=hb1.size;simp at this;omega)).trans ((hb1.block w.heap.size (by simp)).trans (heap_alloc_new w _));have bL':=hid bL;have H0':=hid H0;have hlt0:=(bQ H0).1;have k00:(w1.alloc (.cells #[.string ff.name,.slice af ff.args.length cf,.int .i64 ff.res] 114)).cell? ⟨w.heap.size,0,none⟩=some (.string nm):=aC H0 0;have k01:(w1.alloc (.cells #[.string ff.name,.slice af ff.args.length cf,.int .i64 ff.res] 114)).cell? ⟨w.heap.size,1,none⟩=some (.slice a args.length c):=aC H0 1;have k02:(w1.alloc (.cells #[.string ff.name,.slice af ff.args.length cf,.int .i64 ff.res] 114)).cell? ⟨w.heap.size,2,none⟩=some (.int .i64 r):=aC H0 2;clear b01 bL H0 hb1
  go_wp2_with fail
  refine(hnm.out _).mono ?_;rintro e w2 ⟨rfl,hb2⟩;have B2:=hid (bL'.out.trans (hb2.mono bL'.out.size));have H2:=(hb2.block w.heap.size hlt0).trans H0'.out;have k0:w2.cell? ⟨w.heap.size,0,none⟩=some (.string nm):=aC H2 0;have k1:w2.cell? ⟨w.heap.size,1,none⟩=some (.slice a args.length c):=aC H2 1;have k2:w2.cell? ⟨w.heap.size,2,none⟩=some (.int .i64 r):=aC H2 2;have R2:=hid (h'.out.all B2.out);clear hb2 H2 hlt0 k00 k01 k02;have his:=hid (yI B p T r w2 R2.out hsl);rw [hir] at his;clear hir
  go_wp2_with fail
  refine his.out.mono ?_;rintro e w' ⟨rfl,rfl⟩;go_wp2;go_ret;exact gV.no h'.out B2.out hv.out (by decide)
 case true=>
 have hd2:=@hid (eD T ⟨nm,args,r⟩=if args.any (iH T.sorts.length) then 1 else if decide (1000<=T.funs.length) then 4 else 0) (by rw [hd.out,hdm.out,hir];simp [h64]);have hrb:fG r:=by unfold vM at hir;simp at hir;unfold fG;omega
 have hrb':=hid hrb;clear hmy hd hdm hrb;obtain ⟨i0,hi,hz0,hz1,hz2⟩:=info_parts yT;obtain ⟨j0,hj,hy0,hy1,hy2⟩:=info_parts tF;go_enter Tryz.func61,Tryz.ntmps61
 go_wp2_with fail
 refine hfd.out.mono ?_;rintro e w1 ⟨af,cf,rfl,_,_,_,hb1⟩;have b01:=hB0'.out.trans (hb1.mono (by simp));have bL:=b01.alloc b01.size (.cells #[.string ff.name,.slice af ff.args.length cf,.int .i64 ff.res] 114);have H0:=(Below.heap_alloc w1 (.cells #[.string ff.name,.slice af ff.args.length cf,.int .i64 ff.res] 114) w.heap.size (by have:=hb1.size;simp at this;omega)).trans ((hb1.block w.heap.size (by simp)).trans (heap_alloc_new w _));have bL':=hid bL;have H0':=hid H0;have hlt0:=(bQ H0).1;have k00:(w1.alloc (.cells #[.string ff.name,.slice af ff.args.length cf,.int .i64 ff.res] 114)).cell? ⟨w.heap.size,0,none⟩=some (.string nm):=aC H0 0;have k01:(w1.alloc (.cells #[.string ff.name,.slice af ff.args.length cf,.int .i64 ff.res] 114)).cell? ⟨w.heap.size,1,none⟩=some (.slice a args.length c):=aC H0 1;have k02:(w1.alloc (.cells #[.string ff.name,.slice af ff.args.length cf,.int .i64 ff.res] 114)).cell? ⟨w.heap.size,2,none⟩=some (.int .i64 r):=aC H0 2;clear b01 bL H0 hb1
 go_wp2_with fail
 refine(hnm.out _).mono ?_;rintro e w2 ⟨rfl,hb2⟩;have B2:=hid (bL'.out.trans (hb2.mono bL'.out.size));have H2:=(hb2.block w.heap.size hlt0).trans H0'.out;have k0:w2.cell? ⟨w.heap.size,0,none⟩=some (.string nm):=aC H2 0;have k1:w2.cell? ⟨w.heap.size,1,none⟩=some (.slice a args.length c):=aC H2 1;have k2:w2.cell? ⟨w.heap.size,2,none⟩=some (.int .i64 r):=aC H2 2;have R2:=hid (h'.out.all B2.out);clear hb2 H2 hlt0 k00 k01 k02;have his:=hid (yI B p T r w2 R2.out hsl);rw [hir] at his;have hia:=hid (fun s=>yI B p T s w2 R2.out hsl);obtain ⟨a1,c1,a2,c2,a3,c3,hblk,o1,o2,o3⟩:=R2.out.look;have q1:w2.cell? ⟨p,1,none⟩=some (.slice a2 T.funs.length c2):=aC hblk 1;have hblk':=hid hblk;have X1:=hid (hx'.out.below B2.out aB);have wfX:=hid (show WfI args from hx'.out.wf);have sX:=hid (show Src w2 1 a args.length (args.map (Value.int .i64)) by have:=(X1.out.srcs (q:=args.length) aB hcn).1;rwa [List.take_length] at this);have hps:=hid (eX.of_below hplt B2.out);obtain ⟨css,oc,pA0⟩:=o2.pairs;have hcm:=o2.slice;have sA:=hid (show Src w2 3 a2 T.funs.length css.flatten by
  refine⟨oc.1,fun h0=>?_⟩;obtain ⟨g,cap,hv,_⟩:=oc.form h0;cases hv;exact⟨_,rfl,fun j u hu=>by rw [Addr.add_lit,Nat.zero_add];exact oc.cells (g:=g) rfl j u hu⟩)
 have pA:=hid pA0;have pO:=hid pA0.ones;clear hir hblk o1 o2 o3 oc pA0 hcm
 go_wp2_with fail
 refine his.out.mono ?_;rintro e w' ⟨rfl,rfl⟩;go_wp2
 go_loopw [4,7] (fun _ i wr=>∃k:Nat,k<=args.length/\i = .int .i64 k/\wr=w2/\Hid (∀j,j<k->iH T.sorts.length (nth args j)=false)) (fun _ i _=>args.length - (intOf i).toNat)
 case atStart=>exact⟨0,aV,rfl,rfl,fun j hj=>absurd hj (Nat.not_lt_zero _)⟩
 case round=>
  obtain ⟨k,hk,rfl,rfl,hok⟩:=hrel;by_cases hlt:k<args.length
  ·obtain ⟨b,o,rfl,h1⟩:=X1.out.at k hlt;have hyes:=hid (fun hb=>aFd (p:=iH T.sorts.length) hlt hb);have hnext:=hid (fun hb:iH T.sorts.length (nth args k)=false=>show ∀j,j<k+1->iH T.sorts.length (nth args j)=false from fun j hj=>by
    by_cases e:j=k
    ·subst e;exact hb
    ·exact hok.out j (by omega))
   have hab:=@hid (iH T.sorts.length (nth args k)=(nth args k == 0 || !vM T.sorts.length (nth args k))) rfl;generalize nth args k=x at *;by_cases hx0:x=0
   ·have hv:=@hid (eD T ⟨nm,args,r⟩=1) (by rw [hd2.out,hyes.out (by rw [hab.out,hx0];rfl)];rfl);subst hx0;go_wp2;go_ret;exact gV.no h'.out B2.out hv.out (by decide)
   have hx0':(x == 0)=false:=by simpa using hx0
   have hia1:=hid (hia.out x);cases hix:vM T.sorts.length x
   case false=>
    have hv:=@hid (eD T ⟨nm,args,r⟩=1) (by rw [hd2.out,hyes.out (by rw [hab.out,hix];simp)];rfl);rw [hix] at hia1;clear hix
    go_wp2_with fail
    refine hia1.out.mono ?_;rintro e w' ⟨rfl,rfl⟩;go_wp2;go_ret;exact gV.no h'.out B2.out hv.out (by decide)
   case true=>
    have hv:=hid (hnext.out (by rw [hab.out,hix,hx0'];rfl));rw [hix] at hia1;clear hix
    go_wp2_with fail
    refine hia1.out.mono ?_;rintro e w' ⟨rfl,rfl⟩;go_wp2
    go_roundw
    case rel=>exact⟨k+1,by omega,by go_num,by trivial,hv.out⟩
    case measure=>simp [intOf];omega
  ·obtain rfl:k=args.length:=by omega
   have hno:=hid (sD (fun j hj=>hok.out j hj));by_cases h1000:1000<=T.funs.length
   ·have hv:=@hid (eD T ⟨nm,args,r⟩=4) (by rw [hd2.out,hno.out];simp [h1000]);have h1000i:(1000:Int)<=T.funs.length:=by omega
    go_wp2;go_ret;exact gV.no h'.out B2.out hv.out (by decide)
   ·have hv:=@hid (eD T ⟨nm,args,r⟩=0) (by rw [hd2.out,hno.out];simp [h1000]);have h1000i:(T.funs.length:Int)<1000:=by omega
    have hpw:=R2.out.plt;clear hok hno hd2 his hia;go_wp2;refine aW (S:=fun W=>Below wr.heap.size wr W) 18 (by kernel_rfl) (by kernel_rfl) (aG wr) (fun hHeld=>?_);refine aE 0 ?_;refine aE 2 ?_;refine aE 3 ?_;refine aE 4 ?_;refine aE 5 (hy:=(Or.inl ⟨by rfl,by(intro W hSw;have hq1:=aD (p:=⟨p,1,none⟩) hSw q1;go_simp <;> with_reducible rfl)⟩)) ?_;refine aE 7 ?_;refine cJ 8 (fun W h=>aD h k0) ?_;refine aE 10 ?_;refine cJ 11 (fun W h=>aD h k1) ?_;refine aE 13 ?_;refine cJ 14 (fun W h=>aD h k2) ?_;refine eN (rs:=[1,9]) (by decide +kernel) (bS (by rfl) (fun K hK=>?_) (bS (by rfl) (fun K hK=>?_) eM))
    ·skip
     go_simp;refine hK.out _ _ (by(exact fM (by assumption) _)) (fun hHeld2=>?_);clear hK K;(try simp only [Act.put,sA,sB,sC]);refine eN (rs:=[6,9]) (by decide +kernel) (bS (by rfl) (fun K hK=>?_) (bS (by rfl) (fun K hK=>?_) eM))
     ·skip
      refine cH (base:=wr.heap.size) (by rfl) (.tmp 65) (.tmp 69) (by rfl) Tryz.underlying104 hi hz0 hz1 hz2 rfl (by decide) (Eq.refl (Value.slice _ _ _)) (by rfl) (by first | exact bW.lit0 (by simp) (by simp) | exact(bW.lit0 (by simp) (by simp)).alloc _) (Src.keep sA.out (by assumption)) pO.out (by unfold maxLen;omega) (by omega) (Below.size (w:=wr) (by assumption)) ?_;intro v' w3 ho3 hg3 _;rw [Nat.zero_add,List.nil_append] at ho3;have O3:=hid ho3;obtain ⟨a6,c6,rfl,_,_⟩:=ho3.slice
      first
      | have I7:=hid (bW.carry (base:=wr.heap.size) (e:=3) (size:=1) (v:=.slice (some ⟨wr.heap.size+1,0,none⟩) 0 0) (bW.lit0 (by simp) (by simp)).drew hg3 (by intro k hk;simp [Value.ownBlock] at hk;subst hk;simp [Value.ownBlock]))
      | have I7:=hid (bW.carry (base:=wr.heap.size) (e:=3) (size:=1) (v:=.slice (some ⟨wr.heap.size,0,none⟩) 0 0) ((bW.lit0 (by simp) (by simp)).alloc _).drew hg3 (by intro k hk;simp [Value.ownBlock] at hk;subst hk;simp [Value.ownBlock]))
      | have I7:=hid True.intro
      clear ho3;refine hK.out _ _ (by(exact fW (by assumption) hg3 (by intro k hk;simp [Value.ownBlock] at hk;omega))) (fun hHeld3=>?_);clear hK K;refine aN 9 fun K hK=>?_;go_simp;refine hK.out _ _ (by(exact fM (by assumption) _)) (fun hHeld4=>?_);clear hK K;refine aN 12 fun K hK=>?_;refine cH (base:=wr.heap.size) (by rfl) (.tmp 73) (.tmp 75) (by rfl) Tryz.underlying23 hj hy0 hy1 hy2 rfl (by decide) (Eq.refl (Value.slice _ _ _)) (by rfl) (by first | exact I7.out | exact bW.lit0 (by first | rfl | simp) (Below.size (w:=wr) (by assumption))) (Src.keep sX.out (by assumption)) yJ (by unfold maxLen;omega) (by omega) (Below.size (w:=wr) (by assumption)) ?_;intro v' w4 ho4 hg4 hl4;rw [Nat.zero_add,List.nil_append] at ho4;have O4:=hid ho4;have F4:=hid (by first
       | exact bW.carry O3.out hg4 (fun k hk e=>cQ (by decide) (O3.out.ty k hk) (I7.out.ty k e))
       | exact bW.carry (O3.out.alloc _) hg4 (fun k hk e=>by have:=(O3.out.lt k hk).2;simp [Value.ownBlock] at e;omega):bW w4 wr.heap.size 114 3 (.slice a6 T.funs.length c6) T.funs.length css.flatten)
      obtain ⟨a7,c7,rfl,hc71,hc72⟩:=ho4.slice;clear ho4;refine hK.out _ _ (by(exact fW (by assumption) hg4 (by first | exact(fun k hk=>(I7.out.lt k hk).1) | (intro k hk;have hz:=Below.size (w:=wr) (w':=w3) (by assumption);simp [Value.ownBlock] at hk;omega)))) (fun hHeld5=>?_);clear hK K;(try simp only [Act.put,sA,sB,sC]);refine aE 15 ?_;refine aN 16 fun K hK=>?_;go_simp;refine hK.out _ _ (by(exact fM (by assumption) _)) (fun hHeld6=>?_);clear hK K;refine aN 17 fun K hK=>?_;refine cH (base:=wr.heap.size) (by rfl) (.tmp 70) (.tmp 80) (by rfl) Tryz.underlying104 hi hz0 hz1 hz2 rfl (by decide) (Eq.refl (Value.slice _ _ _)) (by rfl) (F4.out.alloc _) (Src.lit (iC.lit (us:=[Value.string nm,.slice a7 args.length c7,.int .i64 r]) (by first | rfl | simp)) rfl) mB (by unfold maxLen;omega) (by omega) (Below.size (w:=wr) (by assumption)) ?_;intro v' w5 ho5 hg5 _;have O5:=hid ho5;have I5:=hid ((O4.out.alloc _).carry hg5 (fun k hk e=>cQ (by decide) (F4.out.ty k e) (O4.out.ty k hk)));obtain ⟨a8,c8,rfl,_,_⟩:=ho5.slice;clear ho5;refine hK.out _ _ (by(exact fW (by assumption) hg5 (fun k hk=>(F4.out.lt k hk).1))) (fun hHeld7=>?_);clear hK K;(try simp only [Act.put,sA,sB,sC]);refine bH (by decide +kernel) ?_;simp only [cG,bT];have hB5:Below wr.heap.size wr w5:=by assumption
      have B5:=hid hB5;have g1':=aD hB5 q1;have f1':=(aY ((hB5.block p hpw).trans hblk'.out) 1);clear hg3 hg4 hg5 hB5 k0 k1 k2 q1;go_wp2;go_ret;exact uN R2.out hblk'.out B5.out pA.out ⟨rfl,rfl⟩ O5.out I5.out wfX.out hrb'.out hc71 hc72 hv.out hps.out
     ·skip
      go_simp;refine hK.out _ _ (by(exact fM (by assumption) _)) (fun hHeld3=>?_);clear hK K;refine aN 6 fun K hK=>?_;refine cH (base:=wr.heap.size) (by rfl) (.tmp 65) (.tmp 69) (by rfl) Tryz.underlying104 hi hz0 hz1 hz2 rfl (by decide) (Eq.refl (Value.slice _ _ _)) (by rfl) (by first | exact bW.lit0 (by simp) (by simp) | exact(bW.lit0 (by simp) (by simp)).alloc _) (Src.keep sA.out (by assumption)) pO.out (by unfold maxLen;omega) (by omega) (Below.size (w:=wr) (by assumption)) ?_;intro v' w3 ho3 hg3 _;rw [Nat.zero_add,List.nil_append] at ho3;have O3:=hid ho3;obtain ⟨a6,c6,rfl,_,_⟩:=ho3.slice
      first
      | have I7:=hid (bW.carry (base:=wr.heap.size) (e:=3) (size:=1) (v:=.slice (some ⟨wr.heap.size+1,0,none⟩) 0 0) (bW.lit0 (by simp) (by simp)).drew hg3 (by intro k hk;simp [Value.ownBlock] at hk;subst hk;simp [Value.ownBlock]))
      | have I7:=hid (bW.carry (base:=wr.heap.size) (e:=3) (size:=1) (v:=.slice (some ⟨wr.heap.size,0,none⟩) 0 0) ((bW.lit0 (by simp) (by simp)).alloc _).drew hg3 (by intro k hk;simp [Value.ownBlock] at hk;subst hk;simp [Value.ownBlock]))
      | have I7:=hid True.intro
      clear ho3;refine hK.out _ _ (by(exact fW (by assumption) hg3 (by intro k hk;simp [Value.ownBlock] at hk;omega))) (fun hHeld4=>?_);clear hK K;refine aN 12 fun K hK=>?_;refine cH (base:=wr.heap.size) (by rfl) (.tmp 73) (.tmp 75) (by rfl) Tryz.underlying23 hj hy0 hy1 hy2 rfl (by decide) (Eq.refl (Value.slice _ _ _)) (by rfl) (by first | exact I7.out | exact bW.lit0 (by first | rfl | simp) (Below.size (w:=wr) (by assumption))) (Src.keep sX.out (by assumption)) yJ (by unfold maxLen;omega) (by omega) (Below.size (w:=wr) (by assumption)) ?_;intro v' w4 ho4 hg4 hl4;rw [Nat.zero_add,List.nil_append] at ho4;have O4:=hid ho4;have F4:=hid (by first
       | exact bW.carry O3.out hg4 (fun k hk e=>cQ (by decide) (O3.out.ty k hk) (I7.out.ty k e))
       | exact bW.carry (O3.out.alloc _) hg4 (fun k hk e=>by have:=(O3.out.lt k hk).2;simp [Value.ownBlock] at e;omega):bW w4 wr.heap.size 114 3 (.slice a6 T.funs.length c6) T.funs.length css.flatten)
      obtain ⟨a7,c7,rfl,hc71,hc72⟩:=ho4.slice;clear ho4;refine hK.out _ _ (by(exact fW (by assumption) hg4 (by first | exact(fun k hk=>(I7.out.lt k hk).1) | (intro k hk;have hz:=Below.size (w:=wr) (w':=w3) (by assumption);simp [Value.ownBlock] at hk;omega)))) (fun hHeld5=>?_);clear hK K;(try simp only [Act.put,sA,sB,sC]);refine aE 15 ?_;refine aN 16 fun K hK=>?_;go_simp;refine hK.out _ _ (by(exact fM (by assumption) _)) (fun hHeld6=>?_);clear hK K;refine aN 17 fun K hK=>?_;refine cH (base:=wr.heap.size) (by rfl) (.tmp 70) (.tmp 80) (by rfl) Tryz.underlying104 hi hz0 hz1 hz2 rfl (by decide) (Eq.refl (Value.slice _ _ _)) (by rfl) (F4.out.alloc _) (Src.lit (iC.lit (us:=[Value.string nm,.slice a7 args.length c7,.int .i64 r]) (by first | rfl | simp)) rfl) mB (by unfold maxLen;omega) (by omega) (Below.size (w:=wr) (by assumption)) ?_;intro v' w5 ho5 hg5 _;have O5:=hid ho5;have I5:=hid ((O4.out.alloc _).carry hg5 (fun k hk e=>cQ (by decide) (F4.out.ty k e) (O4.out.ty k hk)));obtain ⟨a8,c8,rfl,_,_⟩:=ho5.slice;clear ho5;refine hK.out _ _ (by(exact fW (by assumption) hg5 (fun k hk=>(F4.out.lt k hk).1))) (fun hHeld7=>?_);clear hK K;(try simp only [Act.put,sA,sB,sC]);refine bH (by decide +kernel) ?_;simp only [cG,bT];have hB5:Below wr.heap.size wr w5:=by assumption
      have B5:=hid hB5;have g1':=aD hB5 q1;have f1':=(aY ((hB5.block p hpw).trans hblk'.out) 1);clear hg3 hg4 hg5 hB5 k0 k1 k2 q1;go_wp2;go_ret;exact uN R2.out hblk'.out B5.out pA.out ⟨rfl,rfl⟩ O5.out I5.out wfX.out hrb'.out hc71 hc72 hv.out hps.out
    ·skip
     go_simp;refine hK.out _ _ (by(exact fM (by assumption) _)) (fun hHeld2=>?_);clear hK K;refine aN 1 fun K hK=>?_;go_simp;refine hK.out _ _ (by(exact fM (by assumption) _)) (fun hHeld3=>?_);clear hK K;refine aN 6 fun K hK=>?_;refine cH (base:=wr.heap.size) (by rfl) (.tmp 65) (.tmp 69) (by rfl) Tryz.underlying104 hi hz0 hz1 hz2 rfl (by decide) (Eq.refl (Value.slice _ _ _)) (by rfl) (by first | exact bW.lit0 (by simp) (by simp) | exact(bW.lit0 (by simp) (by simp)).alloc _) (Src.keep sA.out (by assumption)) pO.out (by unfold maxLen;omega) (by omega) (Below.size (w:=wr) (by assumption)) ?_;intro v' w3 ho3 hg3 _;rw [Nat.zero_add,List.nil_append] at ho3;have O3:=hid ho3;obtain ⟨a6,c6,rfl,_,_⟩:=ho3.slice
     first
     | have I7:=hid (bW.carry (base:=wr.heap.size) (e:=3) (size:=1) (v:=.slice (some ⟨wr.heap.size+1,0,none⟩) 0 0) (bW.lit0 (by simp) (by simp)).drew hg3 (by intro k hk;simp [Value.ownBlock] at hk;subst hk;simp [Value.ownBlock]))
     | have I7:=hid (bW.carry (base:=wr.heap.size) (e:=3) (size:=1) (v:=.slice (some ⟨wr.heap.size,0,none⟩) 0 0) ((bW.lit0 (by simp) (by simp)).alloc _).drew hg3 (by intro k hk;simp [Value.ownBlock] at hk;subst hk;simp [Value.ownBlock]))
     | have I7:=hid True.intro
     clear ho3;refine hK.out _ _ (by(exact fW (by assumption) hg3 (by intro k hk;simp [Value.ownBlock] at hk;omega))) (fun hHeld4=>?_);clear hK K;refine aN 12 fun K hK=>?_;refine cH (base:=wr.heap.size) (by rfl) (.tmp 73) (.tmp 75) (by rfl) Tryz.underlying23 hj hy0 hy1 hy2 rfl (by decide) (Eq.refl (Value.slice _ _ _)) (by rfl) (by first | exact I7.out | exact bW.lit0 (by first | rfl | simp) (Below.size (w:=wr) (by assumption))) (Src.keep sX.out (by assumption)) yJ (by unfold maxLen;omega) (by omega) (Below.size (w:=wr) (by assumption)) ?_;intro v' w4 ho4 hg4 hl4;rw [Nat.zero_add,List.nil_append] at ho4;have O4:=hid ho4;have F4:=hid (by first
      | exact bW.carry O3.out hg4 (fun k hk e=>cQ (by decide) (O3.out.ty k hk) (I7.out.ty k e))
      | exact bW.carry (O3.out.alloc _) hg4 (fun k hk e=>by have:=(O3.out.lt k hk).2;simp [Value.ownBlock] at e;omega):bW w4 wr.heap.size 114 3 (.slice a6 T.funs.length c6) T.funs.length css.flatten)
     obtain ⟨a7,c7,rfl,hc71,hc72⟩:=ho4.slice;clear ho4;refine hK.out _ _ (by(exact fW (by assumption) hg4 (by first | exact(fun k hk=>(I7.out.lt k hk).1) | (intro k hk;have hz:=Below.size (w:=wr) (w':=w3) (by assumption);simp [Value.ownBlock] at hk;omega)))) (fun hHeld5=>?_);clear hK K;(try simp only [Act.put,sA,sB,sC]);refine aE 15 ?_;refine aN 16 fun K hK=>?_;go_simp;refine hK.out _ _ (by(exact fM (by assumption) _)) (fun hHeld6=>?_);clear hK K;refine aN 17 fun K hK=>?_;refine cH (base:=wr.heap.size) (by rfl) (.tmp 70) (.tmp 80) (by rfl) Tryz.underlying104 hi hz0 hz1 hz2 rfl (by decide) (Eq.refl (Value.slice _ _ _)) (by rfl) (F4.out.alloc _) (Src.lit (iC.lit (us:=[Value.string nm,.slice a7 args.length c7,.int .i64 r]) (by first | rfl | simp)) rfl) mB (by unfold maxLen;omega) (by omega) (Below.size (w:=wr) (by assumption)) ?_;intro v' w5 ho5 hg5 _;have O5:=hid ho5;have I5:=hid ((O4.out.alloc _).carry hg5 (fun k hk e=>cQ (by decide) (F4.out.ty k e) (O4.out.ty k hk)));obtain ⟨a8,c8,rfl,_,_⟩:=ho5.slice;clear ho5;refine hK.out _ _ (by(exact fW (by assumption) hg5 (fun k hk=>(F4.out.lt k hk).1))) (fun hHeld7=>?_);clear hK K;(try simp only [Act.put,sA,sB,sC]);refine bH (by decide +kernel) ?_;simp only [cG,bT];have hB5:Below wr.heap.size wr w5:=by assumption
     have B5:=hid hB5;have g1':=aD hB5 q1;have f1':=(aY ((hB5.block p hpw).trans hblk'.out) 1);clear hg3 hg4 hg5 hB5 k0 k1 k2 q1;go_wp2;go_ret;exact uN R2.out hblk'.out B5.out pA.out ⟨rfl,rfl⟩ O5.out I5.out wfX.out hrb'.out hc71 hc72 hv.out hps.out
end Go.Proofs.YtgoojkiccdjplaaGreatDoor
