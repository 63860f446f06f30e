/-
  Parts of this claim's texts, one behind the other: SD SE SF SG TT TU MS YA. No condition.
-/
import Derived.Test.YtgoojkiccdjplaaGreatDoorN1
import Derived.Deep.RegionHeld
import Derived.StillTail
import Derived.Maps.OwnSet
import Derived.StringKeys
set_option linter.unusedVariables false
set_option linter.unusedSimpArgs false
set_option maxRecDepth 100000
set_option maxHeartbeats 16000000
namespace Go.Proofs.YtgoojkiccdjplaaGreatDoor
open Go.RowKit Go.Sort Go.Lib
variable {X : Nat -> Prop}
theorem dG (w:World) (a b:Obj):((w.alloc a).alloc b).heap[w.heap.size]? = some a:=(Below.heap_alloc _ _ _ (by simp)).trans (heap_alloc_new w a)
theorem cY (w:World) (a b:Obj):((w.alloc a).alloc b).heap[w.heap.size+1]? = some b:=by
 have:=heap_alloc_new (w.alloc a) b
 rwa [World.size_alloc] at this
def WfI (xs:List Int):Prop:=∀x∈xs,-9223372036854775808<=x/\x<=9223372036854775807
theorem vN (a:Option Addr) (n c:Nat) (xs:List Int) (w:World) (hx:jP w a n xs) (hn:n<17592186044416) :
  Calls Tryz.prog 119 #[.slice a n c] w fun e w'=>∃a' c',e = .returned (.slice a' n c')/\w'.ownsRow w.heap.size 3 1 (.slice a' n c') n (xs.map (Value.int .i64))/\Below w.heap.size w w':=by
 by_cases h0:0<n
 ·obtain ⟨b,o,rfl,_,hc⟩:=hx.cells h0;refine(Tryz.slices_Clone_int b o n c xs w (by rw [hx.len];exact aB) (by omega) (fun j hj=>hc j (by rw [<-hx.len];exact hj))).mono ?_;rintro e w' ⟨v',he,ho,_,hb⟩;rw [show xs.take n=xs by rw [<-hx.len,List.take_length]] at ho;obtain ⟨a',c',rfl,_⟩:=(bW.of ho).slice;exact⟨a',c',he,ho,hb⟩
 ·obtain rfl:n=0:=by omega
  have:xs = []:=List.eq_nil_of_length_eq_zero hx.len;subst this;cases a with
  |
   none=>
   refine(Tryz.slices_Clone_int_nil 0 c w).mono ?_;rintro e w' ⟨he,rfl⟩;exact⟨none,0,he,World.ownsRow_nil _ _ _ _,Below.refl _ _⟩
  |
   some a=>
   refine(Tryz.slices_Clone_int_zero a c w).mono ?_;rintro e w' ⟨v',he,ho,_,hb⟩;obtain ⟨a',c',rfl,_⟩:=(bW.of ho).slice;exact⟨a',c',he,ho,hb⟩
theorem yU {w:World} {base n:Nat} {a:Option Addr} {m c:Nat} {xs:List Int} (h:w.ownsRow base 3 1 (.slice a m c) n (xs.map (Value.int .i64))) (hwf:WfI xs) (hX:∀k,X k->k<base):m=n/\bJ bV.int (fZ X w) w a n xs/\m<=c/\c<=maxLen:=by
 obtain ⟨h1,h2,_⟩:=jP.own h hwf;obtain ⟨a',c',hv,h4,h5⟩:=(bW.of h).slice;cases hv;refine⟨h1,bJ.ofI h2 fun x hn hx=>?_,h4,h5⟩;subst hx;exact⟨fun hxx=>by have:=hX _ hxx;have:=((bW.of h).lt _ rfl).1;omega,(bW.of h).ty _ rfl⟩
theorem fV {w:World} {p:Addr} {v:Value} {k:Nat}:fZ X (w.setCell p v) k↔fZ X w k:=by
 refine and_congr_right fun _=>?_
 unfold World.setCell;rw [Array.getElem?_modify];by_cases h:p.block=k
 ·subst h;rw [if_pos rfl];cases hh:w.heap[p.block]? with
  | none=>simp
  |
   some o=>
   cases o with
   |
    cells cs e f=>
    simp only [Option.map_some]
    split <;> simp_all
   | _=>simp only [Option.map_some]
 ·rw [if_neg h]
theorem bJ.intSet {w:World} {p:Addr} {v:Value} {a:Option Addr} {n:Nat} {xs:List Int} (h:bJ bV.int (fZ X w) w a n xs) (hp:¬fZ X w p.block):bJ bV.int (fZ X (w.setCell p v)) (w.setCell p v) a n xs:=
 (h.keep (fun b _ hb=>Below.heap_setCell w p v b (fun e=>hp (by rw [<-e];exact hb))) (by simp [World.setCell])).mono fun b _ hb=>fV.2 hb
abbrev tG (nm:ByteArray) (a:Option Addr) (n c:Nat) (r:Int):Value:=.agg #[.string nm,.slice a n c,.int .i64 r]
def aIo (X:Nat->Prop) (nm:ByteArray) (xs:List Int) (r:Int) (w:World) (e:Ending) (w':World):Prop:=
 ∃a c,e = .returned (tG nm a xs.length c r)/\bJ bV.int (fZ X w') w' a xs.length xs/\xs.length<=c/\c<=maxLen/\Below w.heap.size w w'
theorem yV (nm:ByteArray) (a:Option Addr) (n c:Nat) (r:Int) (xs:List Int) (w:World) (hx:jP w a n xs) (hn:n<17592186044416) (hX:∀k,X k->k<w.heap.size) :
  Calls Tryz.prog 111 #[tG nm a n c r] w fun e w'=>aIo X nm xs r w e w':=by
 have hx':=hid hx;have lx:=hid hx.len;have wx:=hid (show WfI xs from hx.wf);clear hx;go_enter Tryz.func111,Tryz.ntmps111
 go_wp2_with fail
 have hb0:Below w.heap.size w ((w.alloc (.cells #[.string nm,.slice a n c,.int .i64 r] 114)).alloc (.cells #[.string ByteArray.empty,.slice none 0 0,.int .i64 0] 114)):=(bD).alloc (by simp) _;have hb0':=hid hb0;refine(vN a n c xs _ (hx'.out.below hb0 aB) hn).mono ?_;rintro e w1 ⟨a',c',rfl,ho,hb1⟩;obtain ⟨_,hs,hc1,hc2⟩:=yU (X:=X) ho wx.out (fun k hk=>by have:=hX k hk;simp;omega);have hs':=hid hs;have hb1':=hid hb1;have hc1':=hid hc1;have hc2':=hid hc2;have hz:=hb1.size;simp only [World.size_alloc] at hz;have H1:=(hb1.block w.heap.size (by simp;omega)).trans (dG w _ _);have H2:=(hb1.block (w.heap.size+1) (by simp)).trans (cY w _ _);have k10:w1.cell? ⟨w.heap.size,0,none⟩=some (.string nm):=aC H1 0;have k11:w1.cell? ⟨w.heap.size,1,none⟩=some (.slice a n c):=aC H1 1;have k12:w1.cell? ⟨w.heap.size,2,none⟩=some (.int .i64 r):=aC H1 2;have k20:w1.cell? ⟨w.heap.size+1,0,none⟩=some (.string ByteArray.empty):=aC H2 0;have k21:w1.cell? ⟨w.heap.size+1,1,none⟩=some (.slice none 0 0):=aC H2 1;have k22:w1.cell? ⟨w.heap.size+1,2,none⟩=some (.int .i64 0):=aC H2 2;have f11:=aY H1 1;have f20:=aY H2 0;have f21:=aY H2 1;have f22:=aY H2 2;have hN1:=hid (show ¬fZ X w1 w.heap.size from fun h=>cQ (by decide) h.2 ⟨_,_,H1⟩);have hN2:=hid (show ¬fZ X w1 (w.heap.size+1) from fun h=>cQ (by decide) h.2 ⟨_,_,H2⟩);clear ho hb1 hs hc1 hc2 hb0 H1 H2;go_wp2;refine bodyPost_ret (v:=tG nm a' n c' r) (by simp [results,Tryz.results111,go_sem, *]) rfl ?_;refine⟨a',c',by rw [lx.out],?_,by rw [lx.out];exact hc1'.out,hc2'.out,?_⟩
 ·rw [lx.out];exact(((hs'.out.intSet hN1.out).intSet (fun h=>hN2.out (fV.1 h))).intSet (fun h=>hN2.out (fV.1 (fV.1 h)))).intSet (fun h=>hN2.out (fV.1 (fV.1 (fV.1 h))))
 ·have b1:Below w.heap.size w w1:=hb0'.out.trans (hb1'.out.mono (by simp;omega));exact(((b1.setCell aB _).setCell (by simp) _).setCell (by simp) _).setCell (by simp) _
def nQ (a b:ByteArray):Bool:=a.toList == b.toList
theorem aBj (nm s:ByteArray) (a:Option Addr) (n c x:Nat) (r:Int) (w:World) (hx:w.cell? ⟨x,0,none⟩=some (.string s)) :
  Calls Tryz.prog 190 #[tG nm a n c r,.pointer (some ⟨x,0,none⟩)] w fun e w'=>e = .returned (.bool (nQ nm s))/\Below w.heap.size w w':=by
 have hd:=@hid (nQ nm s=(nm.toList == s.toList)) rfl;have hlt:=World.block_lt_of_cell? w _ hx;go_enter Tryz.func190,Tryz.ntmps190
 go_wp2;go_ret;exact⟨aQ hd.out.symm,bD⟩
def oO {α:Type} (p:α->Bool):List α->Nat->Int
 | [],_=>-1
 | x :: xs,i=>if p x then i else oO p xs (i+1)
theorem rH {α:Type} {p:α->Bool}:∀ {xs:List α} {k i:Nat},(∀j x,j<k->xs[j]? = some x->p x=false)->k<=xs.length->oO p xs i=oO p (xs.drop k) (i+k)
 | xs,0,i,_,_=>by simp
 | [],k+1,i,_,hk=>by simp at hk
 |
  x :: xs,k+1,i,h,hk=>by
  have h0:=h 0 x (by omega) rfl;rw [cG,<-Nat.add_assoc,Nat.add_right_comm,<-rH (xs:=xs) (k:=k) (i:=i+1) (fun j y hj hy=>h (j+1) y (by omega) (by simpa using hy)) (by simpa using hk)];show(if p x=true then(i:Int) else oO p xs (i+1))=_;rw [h0];rfl
theorem mW {α:Type} {p:α->Bool} {xs:List α} {k:Nat} {x:α} (h:∀j x,j<k->xs[j]? = some x->p x=false) (hk:xs[k]? = some x) (hx:p x=true):oO p xs 0=k:=by
 have hl:=(List.getElem?_eq_some_iff.1 hk).1;rw [rH h (by omega),Nat.zero_add,List.drop_eq_getElem_cons hl];have:xs[k]=x:=(List.getElem?_eq_some_iff.1 hk).2;unfold oO;rw [this,if_pos hx]
theorem nR {α:Type} {p:α->Bool} {xs:List α} (h:∀j x,j<xs.length->xs[j]? = some x->p x=false):oO p xs 0 = -1:=by
 rw [rH h aB,List.drop_length];rfl
theorem kO {α:Type} {p:α->Bool}:∀(xs:List α) (i:Nat),match xs.find? p with
  | none=>oO p xs i = -1
  | some x=>∃k:Nat,oO p xs i=((i+k:Nat):Int)/\xs[k]? = some x
 | [],i=>rfl
 |
  x :: xs,i=>by
  rw [List.find?_cons];cases hx:p x with
  | true=>exact⟨0,by unfold oO;rw [if_pos hx];rfl,rfl⟩
  |
   false=>
   have:=kO (p:=p) xs (i+1);have e:oO p (x :: xs) i=oO p xs (i+1):=by show(if p x=true then _ else _)=_;rw [hx];rfl
   cases hf:xs.find? p with
   | none=>rw [hf] at this;dsimp only at this ⊢;rw [e];exact this
   |
    some y=>
    rw [hf] at this;obtain ⟨k,h1,h2⟩:=this;exact⟨k+1,by rw [e,h1];congr 1;omega,by simpa using h2⟩
theorem bJ.funAt {S:Nat->Prop} {w:World} {a:Option Addr} {n:Nat} {fs:List gX} (h:bJ kP S w a n fs) {k:Nat} {f:gX} (hf:fs[k]? = some f) :
  ∃b o a' c',a=some ⟨b,o,none⟩/\w.cell? ⟨b,o+k * 3,none⟩=some (.string f.name)/\w.cell? ⟨b,o+k * 3+1,none⟩=some (.slice a' f.args.length c')/\w.cell? ⟨b,o+k * 3+2,none⟩=some (.int .i64 f.res)/\bJ bV.int S w a' f.args.length f.args/\fG f.res/\f.args.length<=c'/\c'<=maxLen:=by
 obtain ⟨b,o,cs,ha,_,hr,hc⟩:=h.at hf;obtain ⟨a',n',c',rfl,h1,h2,h3,h4⟩:=kZ.1 hr;obtain rfl:n'=f.args.length:=h3.1.symm;rw [aKm] at hc;exact⟨b,o,a',c',ha,hc 0 _ rfl,hc 1 _ rfl,hc 2 _ rfl,h3,h4,h1,h2⟩
theorem uW {S:Nat->Prop} (a:Option Addr) (n c x:Nat) (fs:List gX) (s:ByteArray) (w:World) (h:bJ kP S w a n fs) (hn:n<1099511627776) (hx:w.cell? ⟨x,0,none⟩=some (.string s)) :
  Calls Tryz.prog 189 #[.slice a n c,.func (.func 190) #[] #[.pointer (some ⟨x,0,none⟩)]] w fun e w'=>
   e = .returned (.int .i64 (oO (fun f:gX=>nQ f.name s) fs 0))/\Below w.heap.size w w':=by
 have h':=hid h;have lx:=hid h.1;have hx':=hid hx;have hlt:=World.block_lt_of_cell? w _ hx;clear h hx;go_enter Tryz.func189,Tryz.ntmps189
 go_wp2
 go_loopw [4,5,8] (fun _ _ i wr=>∃k:Nat,k<=n/\i = .int .i64 k/\Hid (∀j f,j<k->fs[j]? = some f->nQ f.name s=false)/\Hid (Below w.heap.size w wr)) (fun _ _ i _=>n - (intOf i).toNat)
 case atStart=>exact⟨0,aV,rfl,fun j f hj=>absurd hj (Nat.not_lt_zero _),Below.refl _ _⟩
 case round=>
  obtain ⟨k,hk,rfl,hne,hB⟩:=hrel;by_cases hlt2:k<n
  ·have hkx:k<fs.length:=by rw [lx.out];exact hlt2
   have hf:=List.getElem?_eq_getElem hkx;obtain ⟨b,o,a',c',rfl,k0,k1,k2,_⟩:=(h'.out.below hB.out aB).funAt hf;have hxr:wr.cell? ⟨x,0,none⟩=some (.string s):=by rw [hB.out.cell (p:=⟨x,0,none⟩) hlt];exact hx'.out
   have hcl:=hid (aBj fs[k].name s a' fs[k].args.length c' x fs[k].res wr hxr);have hf':=hid hf;clear hf hxr;cases he:nQ fs[k].name s
   case true=>
    have hv:=hid (mW (p:=fun f:gX=>nQ f.name s) (fun j f hj hf=>hne.out j f hj hf) hf'.out he);rw [he] at hcl;generalize fs[k]=f at *;clear he
    go_wp2_with fail
    refine hcl.out.mono ?_;rintro e w1 ⟨rfl,hb⟩;have hb':=hid (aI hB hb);clear hb;go_wp2;go_ret;exact⟨jL hv.out.symm,hb'.out⟩
   case false=>
    have hs:=@hid (∀j f,j<k+1->fs[j]? = some f->nQ f.name s=false) (fun j f hj hf=>by
     by_cases hjk:j<k
     ·exact hne.out j f hjk hf
     ·obtain rfl:j=k:=by omega
      rw [hf'.out] at hf;cases hf;exact he)
    rw [he] at hcl;generalize fs[k]=f at *;clear he
    go_wp2_with fail
    refine hcl.out.mono ?_;rintro e w1 ⟨rfl,hb⟩;have hb':=hid (aI hB hb);clear hb;go_wp2
    go_roundw
    case rel=>exact⟨k+1,by omega,by go_num,hs.out,hb'.out⟩
    case measure=>simp [intOf];omega
  ·have hv:=hid (nR (p:=fun f:gX=>nQ f.name s) (xs:=fs) (fun j f hj hf=>hne.out j f (by have:=lx.out;omega) hf));go_wp2;go_ret;exact⟨jL hv.out.symm,hB.out⟩
variable {X : Nat -> Prop}
def gO (T:fA) (s:ByteArray):Option gX:=T.funs.find? fun f=>nQ f.name s
def oS:gX:=⟨ByteArray.empty,[],0⟩
def fH (T:fA) (s:ByteArray):gX:=(gO T s).getD oS
structure qD (T:fA):Prop where
 s:T.sorts.length<1099511627776
 f:T.funs.length<1099511627776
 m:T.marks.length<1099511627776
 a:∀f∈T.funs,f.args.length<1099511627776
def aJ5 (X:Nat->Prop) (f:gX) (ok:Bool) (w:World) (e:Ending) (w':World):Prop:=
 ∃a c,e = .returned (.tuple #[tG f.name a f.args.length c f.res,.bool ok])/\bJ bV.int (fZ X w') w' a f.args.length f.args/\f.args.length<=c/\c<=maxLen/\Below w.heap.size w w'
theorem yW (B p:Nat) (T:fA) (s:ByteArray) (w:World) (h:gJ X B p T w) (hs:qD T) :
  Calls Tryz.prog 156 #[.pointer (some ⟨p,0,none⟩),.string s] w fun e w'=>aJ5 X (fH T s) (gO T s).isSome w e w':=by
 have h':=hid h;have hs':=hid hs;have hplt:=h.plt;have hfl:=hs.f;have hd:=@hid (gO T s=T.funs.find? fun f=>nQ f.name s) rfl;have hB0:Below w.heap.size w ((w.alloc (.cells #[.string s] 9)).alloc (.cells #[.string ByteArray.empty,.slice none 0 0,.int .i64 0] 114)):=(bD).alloc (by simp) _;have hB0':=hid hB0;have h2:=h.all hB0;have hb1:=(Below.heap_alloc _ (.cells #[.string ByteArray.empty,.slice none 0 0,.int .i64 0] 114) _ (by simp)).trans (heap_alloc_new w (.cells #[.string s] 9));have hx:((w.alloc (.cells #[.string s] 9)).alloc (.cells #[.string ByteArray.empty,.slice none 0 0,.int .i64 0] 114)).cell? ⟨w.heap.size,0,none⟩=some (.string s):=aC hb1 0;obtain ⟨a1,c1,a2,c2,a3,c3,hblk,_,o2,_⟩:=h2.look;have k1:=aC hblk 1;simp only [dA,dB,cW] at k1;have hrd:=o2.read (S':=fun _=>True) (fun _ _ _=>trivial) (fun _ _=>trivial);have hrd':=hid hrd;have hi:=hid (uW a2 T.funs.length c2 w.heap.size T.funs s _ hrd hfl hx);have hkw:w.cell? ⟨p,1,none⟩=some (.slice a2 T.funs.length c2):=by rw [<-hB0.cell (p:=⟨p,1,none⟩) hplt];exact k1
 clear h h2 hB0 hb1 hx hblk o2 hrd k1;have hidx:=kO (p:=fun f:gX=>nQ f.name s) T.funs 0;rw [<-hd.out] at hidx;cases hf:gO T s with
 |
  none=>
  rw [hf] at hidx;dsimp only at hidx;rw [hidx] at hi;have hl:=@hid (fH T s=oS) (by unfold fH;rw [hf];rfl);clear hidx hf hd;go_enter Tryz.func156,Tryz.ntmps156
  go_wp2_with fail
  refine hi.out.mono ?_;rintro e w1 ⟨rfl,hb⟩;have hz:=hb.size;simp only [World.size_alloc] at hz;have H2:=(hb.block (w.heap.size+1) (by simp)).trans (cY w _ _);have k20:w1.cell? ⟨w.heap.size+1,0,none⟩=some (.string ByteArray.empty):=aC H2 0;have k21:w1.cell? ⟨w.heap.size+1,1,none⟩=some (.slice none 0 0):=aC H2 1;have k22:w1.cell? ⟨w.heap.size+1,2,none⟩=some (.int .i64 0):=aC H2 2;have f20:=aY H2 0;have f21:=aY H2 1;have f22:=aY H2 2;have hb':=hid (hB0'.out.trans (hb.mono (by simp;omega)));clear hb H2 hi;go_wp2;refine bodyPost_ret (v:=.tuple #[tG ⟨#[]⟩ none 0 0 0,.bool false]) (by simp [results,Tryz.results156,go_sem, *]) rfl ?_;refine⟨none,0,by rw [hl.out];rfl,by rw [hl.out];exact bJ.nil _ _ _ _,by rw [hl.out];exact aB,aV,?_⟩;exact((hb'.out.setCell (by simp) _).setCell (by simp) _).setCell (by simp) _
 |
  some f=>
  rw [hf] at hidx;dsimp only at hidx;obtain ⟨k,hk1,hk2⟩:=hidx;rw [Nat.zero_add] at hk1;rw [hk1] at hi;have hkl:=(List.getElem?_eq_some_iff.1 hk2).1;have hl:=@hid (fH T s=f) (by unfold fH;rw [hf];rfl);have hfa:=hs'.out.a f (List.mem_of_getElem? hk2);have hk2':=hid hk2;clear hk1 hf hd hk2;go_enter Tryz.func156,Tryz.ntmps156
  go_wp2_with fail
  refine hi.out.mono ?_;rintro e w1 ⟨rfl,hb⟩;have hz:=hb.size;simp only [World.size_alloc] at hz;have H2:=(hb.block (w.heap.size+1) (by simp)).trans (cY w _ _);have H2':=hid H2;have hb0:=hB0'.out.trans (hb.mono (by simp;omega));have hb':=hid hb0;have kp:w1.cell? ⟨p,1,none⟩=some (.slice a2 T.funs.length c2):=by rw [hb0.cell (p:=⟨p,1,none⟩) hplt];exact hkw
  obtain ⟨b,o,a',c',rfl,q0,q1,q2,q3,_⟩:=(hrd'.out.below hb aB).funAt hk2'.out;have hown:=hid (yV f.name a' f.args.length c' f.res f.args w1 q3.toI (by omega) (fun k hk=>bN (h'.out.xlt k hk) hb0.size));clear hb hi hb0 q3 H2 hkw
  go_wp2_with fail
  refine hown.out.mono ?_;rintro e w2 ⟨a4,c4,rfl,hs4,hc4,hc5,hb4⟩;have H3:=(hb4.block (w.heap.size+1) (by omega)).trans H2'.out;have k20:w2.cell? ⟨w.heap.size+1,0,none⟩=some (.string ByteArray.empty):=aC H3 0;have k21:w2.cell? ⟨w.heap.size+1,1,none⟩=some (.slice none 0 0):=aC H3 1;have k22:w2.cell? ⟨w.heap.size+1,2,none⟩=some (.int .i64 0):=aC H3 2;have f20:=aY H3 0;have f21:=aY H3 1;have f22:=aY H3 2;have hN:=hid (show ¬fZ X w2 (w.heap.size+1) from fun h=>cQ (by decide) h.2 ⟨_,_,H3⟩);have hs4':=hid hs4;have hc4':=hid hc4;have hc5':=hid hc5;have hb4':=hid (hb'.out.trans (hb4.mono hb'.out.size));clear hb4 H3 hs4 hc4 hc5 kp q0 q1 q2 hown;go_wp2;refine bodyPost_ret (v:=.tuple #[tG f.name a4 f.args.length c4 f.res,.bool true]) (by simp [results,Tryz.results156,go_sem, *]) rfl ?_;refine⟨a4,c4,by rw [hl.out];rfl,by rw [hl.out];exact((hs4'.out.intSet hN.out).intSet (fun h=>hN.out (fV.1 h))).intSet (fun h=>hN.out (fV.1 (fV.1 h))),by rw [hl.out];exact hc4'.out,hc5'.out,?_⟩;exact((hb4'.out.setCell (by simp) _).setCell (by simp) _).setCell (by simp) _
def jM (T:fA) (s:ByteArray):Bool:=iT s && !(gO T s).isSome
theorem aBk (B p:Nat) (T:fA) (s:ByteArray) (w:World) (h:gJ X B p T w) (hs:qD T) (hE:Env w) :
  Calls Tryz.prog 109 #[.pointer (some ⟨p,0,none⟩),.string s] w fun e w'=>e = .returned (.bool (jM T s))/\Below w.heap.size w w':=by
 have hc:=hid (yW B p T s w h hs);have hd:=@hid (jM T s=(iT s && !(gO T s).isSome)) rfl;have hE':=hid hE;generalize fH T s=f at *;generalize (gO T s).isSome=ok at *;clear h hs hE;go_enter Tryz.func109,Tryz.ntmps109
 go_wp2_with fail
 refine hc.out.mono ?_;rintro e w1 ⟨a,c,rfl,_,_,_,hb⟩;have hb':=hid hb;have hB1:=hb.trans (((Below.refl w1.heap.size w1).alloc aB (.cells #[.string f.name,.slice a f.args.length c,.int .i64 f.res] 114)).mono hb.size);have hE1:=hid (hE'.out.all hB1);have hB1':=hid hB1;clear hb hB1;have hm:=hid (aCy s _ hE1.out);cases hmy:iT s
 case false=>
  have hv:=@hid (false=jM T s) (by rw [hd.out,hmy];rfl);rw [hmy] at hm;clear hmy
  go_wp2_with fail
  refine hm.out.mono ?_;rintro e w2 ⟨rfl,hb2⟩;have hb2':=hid (hB1'.out.trans (hb2.mono hB1'.out.size));clear hb2;go_wp2;go_ret;exact⟨aQ hv.out,hb2'.out⟩
 case true=>
  have hv:=@hid ((!ok)=jM T s) (by rw [hd.out,hmy];rfl);rw [hmy] at hm;clear hmy
  go_wp2_with fail
  refine hm.out.mono ?_;rintro e w2 ⟨rfl,hb2⟩;have hb2':=hid (hB1'.out.trans (hb2.mono hB1'.out.size));clear hb2;go_wp2;go_ret;exact⟨aQ hv.out,hb2'.out⟩
def gD (T:fA) (s:ByteArray):Int × Bool:=
 if s.toList == [66,111,111,108] then(0,true) else if s.toList == [82,101,97,108] then(1,true) else if Lib.idxOfS T.sorts s<0 then(0,false) else(2+Lib.idxOfS T.sorts s,true)
variable {X : Nat -> Prop}
theorem jD {v v':Value} {w:World} {o:Obj} (h:v'.ownBlock=v.ownBlock\/∀k,v'.ownBlock=some k->(w.alloc o).heap.size<=k):v'.ownBlock=v.ownBlock\/∀k,v'.ownBlock=some k->w.heap.size<=k:=
 h.imp id fun hh k hk=>by have:=hh k hk;rw [World.size_alloc] at this;omega
theorem cell_grown {w W:World} {row:Option Nat} {p j:Nat} (h:w.grownBy W row) (hp:p<w.heap.size) (hr:row≠some p):W.cell? ⟨p,j,none⟩=w.cell? ⟨p,j,none⟩:=World.cell?_of_block (a:=⟨p,j,none⟩) (h.block p hp (Ne.symm hr))
theorem xB {w W:World} {row:Option Nat} {p j:Nat} (h:w.grownBy W row) (hp:p<w.heap.size) (hr:row≠some p):W.frozen? ⟨p,j,none⟩=w.frozen? ⟨p,j,none⟩:=World.frozen?_of_block (a:=⟨p,j,none⟩) (h.block p hp (Ne.symm hr))
theorem bW.drew {w:World} {base:Nat} {e:TypeId} {size n:Nat} {v:Value} {xs:List Value} (h:bW w base e size v n xs):bW w.drew base e size v n xs:=h
variable {X : Nat -> Prop}
def iH (n:Nat) (s:Int):Bool:=s == 0 || !vM n s
def eD (T:fA) (f:gX):Int:=
 if !jM T f.name then 1 else if decide (64<f.args.length) then 1 else if !vM T.sorts.length f.res then 1 else if f.args.any (iH T.sorts.length) then 1 else if decide (1000<=T.funs.length) then 4 else 0
def mX (T:fA) (f:gX):fA:=if eD T f=0 then { T with funs:=T.funs ++ [f] } else T
def kI (X:Nat->Prop) (B p:Nat) (T:fA) (f:gX) (w:World) (e:Ending) (w':World):Prop:=
 e = .returned (.int .i64 (eD T f))/\gJ X B p (mX T f) w'/\eX p w w'
theorem kI.no {B p:Nat} {T:fA} {f:gX} {w w':World} {z:Int} (h:gJ X B p T w) (hb:Below w.heap.size w w') (hz:eD T f=z) (h0:z≠0):kI X B p T f w (.returned (.int .i64 z)) w':=by
 refine⟨by rw [hz],?_,.of_below h.plt hb⟩;unfold mX;rw [hz,if_neg h0];exact h.all hb
theorem bK.allI {B:Nat} {w w':World} {v:Value} {fs:List gX} (h:bK kP (fZ X w) w B 114 v fs) (hb:Below w.heap.size w w'):bK kP (fZ X w') w' B 114 v fs:=
 h.keepI (fun k hk=>hb.block k hk.lt) (fun k hk=>hb.block k (h.lt k hk).2) hb.size
theorem yX {B:Nat} {w w':World} (h:Below B w.drew w'):Below B w w':=⟨h.os,h.tape,h.output,h.size,h.block⟩
theorem aBl (x y z:Value) (w:World) (e:TypeId):∀j u,[x,y,z][j]? = some u->(w.alloc (.cells #[x,y,z] e)).cell? ⟨w.heap.size,j,none⟩=some u:=by
 intro j u hu;rw [World.cell?_alloc_new]
 simpa using hu
theorem mB {s:ByteArray} {a:Option Addr} {n c:Nat} {y:Int}:∀u ∈ [Value.string s,.slice a n c,.int .i64 y],u.oneCell'=true:=by intro u hu;simp at hu;rcases hu with rfl | rfl | rfl <;> rfl
theorem sD {xs:List Int} {p:Int->Bool} (h:∀j,j<xs.length->p (nth xs j)=false):xs.any p=false:=by
 rw [List.any_eq_false];intro x hx;obtain ⟨j,hj,rfl⟩:=List.getElem_of_mem hx;have:=h j hj;rw [cK hj] at this;simp [this]
theorem aFd {xs:List Int} {p:Int->Bool} {j:Nat} (hj:j<xs.length) (h:p (nth xs j)=true):xs.any p=true:=List.any_eq_true.2 ⟨_,fF hj,h⟩
theorem aIp (B p:Nat) (T:fA) (f:gX) (a:Option Addr) (c:Nat) (w:World) (h:gJ X B p T w) (hs:qD T) (hE:Env w) (hx:jP w a f.args.length f.args) (hn:f.args.length<1099511627776) :
  Calls Tryz.prog 60 #[.pointer (some ⟨p,0,none⟩),tG f.name a f.args.length c f.res] w fun e w'=>kI X B p T f w e w':=by
 have h':=hid h;have hs':=hid hs;have hx':=hid hx;have hd:=@hid (eD T f=if !jM T f.name then 1 else if decide (64<f.args.length) then 1 else if !vM T.sorts.length f.res then 1 else if f.args.any (iH T.sorts.length) then 1 else if decide (1000<=T.funs.length) then 4 else 0) rfl;have hB0:Below w.heap.size w (w.alloc (.cells #[.string f.name,.slice a f.args.length c,.int .i64 f.res] 114)):=bD;have hB0':=hid hB0;have hm:=hid (aBk B p T f.name _ (h.all hB0) hs (hE.all hB0));have hplt:=h.plt;have hsl:=hs.s;have hfl:=hs.f;clear h hs hx hE hB0;obtain ⟨nm,args,r⟩:=f;dsimp only at *;cases hmy:jM T nm
 case false=>
  have hv:=@hid (eD T ⟨nm,args,r⟩=1) (by rw [hd.out,hmy];rfl);rw [hmy] at hm;clear hmy;go_enter Tryz.func60,Tryz.ntmps60
  go_wp2_with fail
  refine hm.out.mono ?_;rintro e w1 ⟨rfl,hb⟩;have hb':=hid (hB0'.out.trans (hb.mono (by simp)));clear hb;go_wp2;go_ret;exact kI.no h'.out hb'.out hv.out (by decide)
 case true=>
 rw [hmy] at hm;by_cases h64:64<args.length
 ·have hv:=@hid (eD T ⟨nm,args,r⟩=1) (by rw [hd.out,hmy];simp [h64]);have h64i:(64:Int)<args.length:=by omega
  clear hmy;go_enter Tryz.func60,Tryz.ntmps60
  go_wp2_with fail
  refine hm.out.mono ?_;rintro e w1 ⟨rfl,hb⟩;have hz:=hb.size;simp only [World.size_alloc] at hz;have H1:=(hb.block w.heap.size (by simp)).trans (heap_alloc_new w _);have k0:=aC H1 0;have k1:w1.cell? ⟨w.heap.size,1,none⟩=some (.slice a args.length c):=aC H1 1;have hb':=hid (hB0'.out.trans (hb.mono (by simp)));clear hb H1 k0;go_wp2;go_ret;exact kI.no h'.out hb'.out hv.out (by decide)
 cases hir:vM T.sorts.length r
 case false=>
  have hv:=@hid (eD T ⟨nm,args,r⟩=1) (by rw [hd.out,hmy,hir];simp);clear hmy;go_enter Tryz.func60,Tryz.ntmps60
  go_wp2_with fail
  refine hm.out.mono ?_;rintro e w1 ⟨rfl,hb⟩;have hz:=hb.size;simp only [World.size_alloc] at hz;have H1:=(hb.block w.heap.size (by simp)).trans (heap_alloc_new w _);have k1:w1.cell? ⟨w.heap.size,1,none⟩=some (.slice a args.length c):=aC H1 1;have k2:w1.cell? ⟨w.heap.size,2,none⟩=some (.int .i64 r):=aC H1 2;have hb':=hid (hB0'.out.trans (hb.mono (by simp)));have his:=hid (aBi B p T r w1 (h'.out.all hb'.out) hsl);rw [hir] at his;clear hb H1 hir
  go_wp2_with fail
  refine his.out.mono ?_;rintro e w' ⟨rfl,rfl⟩;go_wp2;go_ret;exact kI.no h'.out hb'.out hv.out (by decide)
 case true=>
 have hd2:=@hid (eD T ⟨nm,args,r⟩=if args.any (iH T.sorts.length) then 1 else if decide (1000<=T.funs.length) then 4 else 0) (by rw [hd.out,hmy,hir];simp [h64]);have hrb:fG r:=by unfold vM at hir;simp at hir;unfold fG;omega
 have hrb':=hid hrb;clear hmy hd hrb;obtain ⟨i0,hi,hz0,hz1,hz2⟩:=info_parts yT;go_enter Tryz.func60,Tryz.ntmps60
 go_wp2_with fail
 refine hm.out.mono ?_;rintro e w1 ⟨rfl,hb⟩;have hz:=hb.size;simp only [World.size_alloc] at hz;have H1:=(hb.block w.heap.size (by simp)).trans (heap_alloc_new w _);have k0:w1.cell? ⟨w.heap.size,0,none⟩=some (.string nm):=aC H1 0;have k1:w1.cell? ⟨w.heap.size,1,none⟩=some (.slice a args.length c):=aC H1 1;have k2:w1.cell? ⟨w.heap.size,2,none⟩=some (.int .i64 r):=aC H1 2;have hb':=hid (hB0'.out.trans (hb.mono (by simp)));have t1:=h'.out.all hb'.out;have T1:=hid t1;have his:=hid (aBi B p T r w1 t1 hsl);rw [hir] at his;have hia:=hid (fun s=>aBi B p T s w1 T1.out hsl);obtain ⟨a1,c1,a2,c2,a3,c3,hblk,o1,o2,o3⟩:=t1.look;have q1:w1.cell? ⟨p,1,none⟩=some (.slice a2 T.funs.length c2):=aC hblk 1;have g1:w1.frozen? ⟨p,1,none⟩=false:=aY hblk 1;have hblk':=hid hblk;have O2:=hid o2;have X1:=hid (hx'.out.below hb'.out aB);have hp2:=hid (show Value.ownBlock (.slice a2 T.funs.length c2)≠some p from fun e=>cQ (by decide) (o2.ty p e) ⟨_,_,hblk⟩);clear hb H1 hir t1 hblk o1 o2 o3 hm hB0'
 go_wp2_with fail
 refine his.out.mono ?_;rintro e w' ⟨rfl,rfl⟩;go_wp2
 go_loopw [4,6,28] (fun _ _ i wr=>∃k:Nat,k<=args.length/\i = .int .i64 k/\wr=w1/\Hid (∀j,j<k->iH T.sorts.length (nth args j)=false)) (fun _ _ i _=>args.length - (intOf i).toNat)
 case atStart=>exact⟨0,aV,rfl,rfl,fun j hj=>absurd hj (Nat.not_lt_zero _)⟩
 case round=>
  obtain ⟨k,hk,rfl,rfl,hok⟩:=hrel;by_cases hlt:k<args.length
  ·obtain ⟨b,o,rfl,h1⟩:=X1.out.at k hlt;have hyes:=hid (fun hb=>aFd (p:=iH T.sorts.length) hlt hb);have hnext:=hid (fun hb:iH T.sorts.length (nth args k)=false=>show ∀j,j<k+1->iH T.sorts.length (nth args j)=false from fun j hj=>by
    by_cases e:j=k
    ·subst e;exact hb
    ·exact hok.out j (by omega))
   have hab:=@hid (iH T.sorts.length (nth args k)=(nth args k == 0 || !vM T.sorts.length (nth args k))) rfl;generalize nth args k=x at *;by_cases hx0:x=0
   ·have hv:=@hid (eD T ⟨nm,args,r⟩=1) (by rw [hd2.out,hyes.out (by rw [hab.out,hx0];rfl)];rfl);subst hx0;go_wp2;go_ret;exact kI.no h'.out hb'.out hv.out (by decide)
   have hx0':(x == 0)=false:=by simpa using hx0
   have hia1:=hid (hia.out x);cases hix:vM T.sorts.length x
   case false=>
    have hv:=@hid (eD T ⟨nm,args,r⟩=1) (by rw [hd2.out,hyes.out (by rw [hab.out,hix];simp)];rfl);rw [hix] at hia1;clear hix
    go_wp2_with fail
    refine hia1.out.mono ?_;rintro e w' ⟨rfl,rfl⟩;go_wp2;go_ret;exact kI.no h'.out hb'.out hv.out (by decide)
   case true=>
    have hv:=hid (hnext.out (by rw [hab.out,hix,hx0'];rfl));rw [hix] at hia1;clear hix
    go_wp2_with fail
    refine hia1.out.mono ?_;rintro e w' ⟨rfl,rfl⟩;go_wp2
    go_roundw
    case rel=>exact⟨k+1,by omega,by go_num,by trivial,hv.out⟩
    case measure=>simp [intOf];omega
  ·obtain rfl:k=args.length:=by omega
   have hno:=hid (sD (fun j hj=>hok.out j hj));by_cases h1000:1000<=T.funs.length
   ·have hv:=@hid (eD T ⟨nm,args,r⟩=4) (by rw [hd2.out,hno.out];simp [h1000]);have h1000i:(1000:Int)<=T.funs.length:=by omega
    go_wp2;go_ret;exact kI.no h'.out hb'.out hv.out (by decide)
   ·have hv:=@hid (eD T ⟨nm,args,r⟩=0) (by rw [hd2.out,hno.out];simp [h1000]);have h1000i:(T.funs.length:Int)<1000:=by omega
    have hown:=hid (yV nm a args.length c r args wr.drew X1.out.drew (by omega) T1.out.xlt);have hpw:=T1.out.plt;have hBw:=aK T1.out.bp (Nat.le_of_lt hpw);clear hok hno hd2 his hia;go_wp2
    go_region_law ((first
     | (
      refine cH (by rfl) (.tmp 51) (.tmp 54) (by rfl) Tryz.underlying104 hi hz0 hz1 hz2 rfl (by decide) (by rfl) (by rfl) (OC.out.alloc _) (Src.one (b:=w2.heap.size) (news:=[.string nm,.slice a4 args.length c4,.int .i64 r]) rfl (aBl _ _ _ w2 _)) mB (by unfold maxLen;omega) (by omega) (by simp;omega) ?_;intro v' w3 ho3 hg3 hl3;obtain ⟨a',c',rfl,_,_⟩:=ho3.slice;have G3:=hid (bU hg3);have L3:=hid (jD hl3);have O3:=hid (bK.push (R:=kP) (S:=fZ X w2) (x:=⟨nm,args,r⟩) OL.out OE.out (kZ.2 ⟨a4,_,c4,rfl,C4.out,C5.out,S4.out,hrb'.out⟩) ho3 (fun b hlt hb=>(bU hg3).block b hlt (fun e=>cQ (by decide) (OC.out.ty b e.symm) hb.2)) (bU hg3).size);have q3:=(cell_grown (j:=1) G3.out (bN hpw hsz2) hp2.out).trans q2;have g3:=(xB (j:=1) G3.out (bN hpw hsz2) hp2.out).trans g2;clear ho3 hg3 hl3)
     | (
      go_simp
      go_at_call 111
      refine hown.out.mono ?_;rintro e w2 ⟨a4,c4,rfl,hs4,hc4,hc5,hb4⟩;have hb5:=yX hb4;have B5:=hid hb5;have T2:=hid (T1.out.all hb5);have S4:=hid hs4;have C4:=hid hc4;have C5:=hid hc5;obtain ⟨css,oc,ol,oe⟩:=O2.out.allI hb5;have OC:=hid oc;have OL:=hid ol;have OE:=hid oe;have hsz2:wr.heap.size<=w2.heap.size:=hb5.size;have hpw2:p<w2.heap.size:=bN hpw hsz2;have hblk2:=hid ((hb5.block p hpw).trans hblk'.out);have q2:w2.cell? ⟨p,1,none⟩=some (.slice a2 T.funs.length c2):=aC hblk2.out 1;have g2:w2.frozen? ⟨p,1,none⟩=false:=aY hblk2.out 1;clear hs4 hc4 hc5 hb4 hb5 oc ol oe;dsimp only)))
    all_goals
     go_wp2;go_ret;have hI:∀b,b<w3.heap.size->fZ X w2 b->fZ X w3 b:=fun b _ hb=>hb.same (G3.out.block b hb.lt (fun e=>cQ (by decide) (OC.out.ty b e.symm) hb.2))
     obtain ⟨t2,s2⟩:=T2.out.setFuns hblk2.out G3.out L3.out (O3.out.mono hI);refine⟨by rw [hv.out] <;> rfl,?_,((eX.of_below h'.out.plt hb'.out).trans (eX.of_below T1.out.plt B5.out)).trans s2⟩;unfold mX;rw [hv.out,if_pos rfl];exact t2
end Go.Proofs.YtgoojkiccdjplaaGreatDoor
namespace Go
section
variable {P : Program} {ops : Array Oper} {Q : Exit -> Act -> World -> Prop} {md : Region.Mode} {S : World -> Prop}
def tH (P:Program) (md:Region.Mode) (ops:Array Oper) (Q:Exit->Act->World->Prop) (S:World->Prop) (n g:Nat):Nat->Array Bool->Act->World->Prop
 | 0,listed,a,w=>Region.seqB md ops g n listed=true/\wpList P ops Q (ops.toList.drop n) a w
 | f+1,listed,a,w=>Region.ready md ops listed ≠ []/\∀i∈Region.ready md ops listed,i<n/\wpOp P ops Q i (fun a' w'=>S w'/\tH P md ops Q S n g f (listed.setIfInBounds i true) a' w') a w
theorem tI {n g:Nat} (hg:(ops.toList.drop n).length=g):∀(f:Nat) (listed:Array Bool) (a:Act) (w:World),tH P md ops Q S n g f listed a w->wpAny P md ops Q (f+g) listed a w
 |
  0,listed,a,w,h=>by
  rw [Nat.zero_add];have:=wpAny_of_seq (P:=P) (md:=md) (Q':=Q) (ops.toList.drop n) n listed a w (fun j=>by simp [List.getElem?_drop]) (by rw [hg];exact h.1) h.2
  rwa [hg] at this
 |
  f+1,listed,a,w,h=>by
  rw [show f+1+g=(f+g)+1 by omega];exact⟨fun h0=>absurd h0 h.1,fun i hi=>wpOp_mono (fun a' w' h'=>tI hg f _ a' w' h'.2) (h.2 i hi).2⟩
theorem xC {n g i:Nat} {oi:Oper} {v:Value} (hi:ops[i]? = some oi) (hsel:∀(j:Nat) (o:Oper) cs b,ops[j]? = some o->o.op ≠ .select cs b)
  (hQ:∀c a w,Q (.panic c) (a.put oi.dst v) w->Q (.panic c) a w) (hs:Region.sinkB md ops n=true) (hc:Region.chainB md ops n=true) (hn:n<ops.size) (hin:i<n) :
  ∀(f:Nat) (listed:Array Bool) (a:Act) (w:World),HeadInv md ops n listed ->
   (∀j oj,ops[j]? = some oj->j≠i->listed.getD j true=false->(∀e∈oj.after,Region.binds md e=true->e.on≠i)->oi.apart ops oj=true) ->
   i∈Region.ready md ops listed->YieldsIf P ops S oi v a->S w ->
   tH P md ops Q S n g f (listed.setIfInBounds i true) (a.put oi.dst v) w->tH P md ops Q S n g (f+1) listed a w:=by
 intro f
 induction f with
 |
  zero=>
  intro listed a w inv _ hr hy hS H;have hun:=(mem_ready.1 hr).1;refine⟨fun h=>(by rw [h] at hr;cases hr),fun j hj=>?_⟩;have hjn:j<n:=by
   rcases Nat.lt_or_ge j n with h | h
   ·exact h
   ·exact absurd hj (tail_waits hs hc hn inv _ i rfl hin hun j h)
  refine⟨hjn,?_⟩;by_cases hji:j=i
  ·subst hji;exact hy.wpOp hi hS ⟨hS,H⟩
  ·have:=seqB_ready H.1 j (ready_mono hj hji);omega
 |
  succ f ih=>
  intro listed a w inv hfree hr hy hS H;have hun:=(mem_ready.1 hr).1;refine⟨fun h=>(by rw [h] at hr;cases hr),fun j hj=>?_⟩;have hjn:j<n:=by
   rcases Nat.lt_or_ge j n with h | h
   ·exact h
   ·exact absurd hj (tail_waits hs hc hn inv _ i rfl hin hun j h)
  refine⟨hjn,?_⟩;by_cases hji:j=i
  ·subst hji;exact hy.wpOp hi hS ⟨hS,H⟩
  ·have h1:=(H.2 j (ready_mono hj hji)).2;obtain ⟨hjun,oj,hoj,hall⟩:=mem_ready.1 hj;have hnot:∀e∈oj.after,Region.binds md e=true->e.on≠i:=fun e he hb heq=>by
    have h1:=hall e he hb;rw [heq,getD_both hun] at h1;cases h1
   have h2:=wpOp_putIf hoj (hfree j oj hoj hji hjun hnot) (fun cs b=>hsel i oi cs b hi) (fun cs b=>hsel j oj cs b hoj) hQ hy h1;have hfree':∀k ok,ops[k]? = some ok->k≠i->(listed.setIfInBounds j true).getD k true=false ->
     (∀e∈ok.after,Region.binds md e=true->e.on≠i)->oi.apart ops ok=true:=fun k ok hk hki hun hno=>by
    refine hfree k ok hk hki ?_ hno;by_cases hjk:j=k
    ·subst hjk;exact hjun
    ·rw [getD_set_ne true hjk] at hun;exact hun
   refine wpOp_mono (fun a' w' h3=>⟨h3.2.1,ih (listed.setIfInBounds j true) a' w' (inv.set hj hjn) hfree' (ready_mono hr (Ne.symm hji)) h3.1 h3.2.1 ?_⟩) h2;rw [Array.setIfInBounds_comm _ _ hji];exact h3.2.2
def xD (md:Region.Mode) (ops:Array Oper) (n:Nat):Bool:=Region.noSelect ops && decide (n<ops.size) && Region.sinkB md ops n && Region.chainB md ops n
def TT (P:Program) (md:Region.Mode) (ops:Array Oper) (Q:Exit->Act->World->Prop) (S:World->Prop) (n g f:Nat) (listed:Array Bool) (a:Act) (w:World):Prop:=
 xD md ops n=true->HeadInv md ops n listed->tH P md ops Q S n g f listed a w
theorem aFe {n:Nat} (h:xD md ops n=true):Region.noSelect ops=true/\n<ops.size/\Region.sinkB md ops n=true/\Region.chainB md ops n=true:=by
 simp only [xD,Bool.and_eq_true,decide_eq_true_eq] at h;exact⟨h.1.1.1,h.1.1.2,h.1.2,h.2⟩
section
variable {n g f i : Nat} {listed : Array Bool} {a : Act} {w : World}
theorem aIq {oi:Oper} {v:Value} (hi:ops.toList[i]? = some oi) (hB:(decide (i<n) && Region.free md ops listed i && (Region.ready md ops listed).contains i)=true)
  (hQ:∀c a w,Q (.panic c) (a.put oi.dst v) w->Q (.panic c) a w) (hy:YieldsIf P ops S oi v a) (hS:S w)
  (h:TT P md ops Q S n g f (listed.setIfInBounds i true) (a.put oi.dst v) w):TT P md ops Q S n g (f+1) listed a w:=fun hT inv=>by
 obtain ⟨h1,h2,h3,h4⟩:=aFe hT;simp only [Bool.and_eq_true,decide_eq_true_eq] at hB;have hr:i∈Region.ready md ops listed:=by simpa using hB.2
 have hi':ops[i]? = some oi:=by simpa using hi
 exact xC hi' (Region.noSelect_spec h1) hQ h3 h4 h2 hB.1.1 f listed a w inv (Region.free_spec hi' hB.1.2) hr hy hS (h hT (inv.set hr hB.1.1))
theorem aE (i:Nat) {oi:Oper} {v:Value} {a':Act} (h:TT P md ops Q S n g f (listed.setIfInBounds i true) a' w) (hi:ops.toList[i]? = some oi:=by rfl) (hB:(decide (i<n) && Region.free md ops listed i && (Region.ready md ops listed).contains i)=true:=by decide +kernel)
  (hQ:∀c a w,Q (.panic c) (a.put oi.dst v) w->Q (.panic c) a w:=by exact fun _ _ _ h=>h) (hy:YieldsIf P ops S oi v a:=by first | exact Or.inl ⟨by rfl,by(intro W hSw;(try dsimp only at hSw);go_simp <;> with_reducible rfl)⟩ | exact Or.inr ⟨by rfl,rfl⟩) (hS:S w:=by assumption)
  (ha:a.put oi.dst v=a':=by first | (simp only [Act.put,sA,sB,sC];done) | (simp only [Act.put,sA,sB,sC];rfl) | rfl):TT P md ops Q S n g (f+1) listed a w:=aIq hi hB hQ hy hS (by rw [ha];exact h)
def aIr (P:Program) (md:Region.Mode) (ops:Array Oper) (Q:Exit->Act->World->Prop) (S:World->Prop) (n g f:Nat) (listed:Array Bool) (a:Act) (w:World) (rs:List Nat):Prop:=
 ∀i∈rs,wpOp P ops Q i (fun a' w'=>S w'/\TT P md ops Q S n g f (listed.setIfInBounds i true) a' w') a w
theorem eM:aIr P md ops Q S n g f listed a w []:=fun _ h=>by cases h
theorem bS {o:Oper} {rs:List Nat} (ho:ops.toList[i]? = some o)
  (h:∀K':Act->World->Prop,Shut (∀a w,S w->(S w->TT P md ops Q S n g f (listed.setIfInBounds i true) a w)->K' a w)->if Region.wanted o (yielded ops a.tmps)=true then Oper.wp P o a w K' Q else K' (a.put o.dst undef) w)
  (hs:aIr P md ops Q S n g f listed a w rs):aIr P md ops Q S n g f listed a w (i :: rs):=fun j hj=>by
 rcases List.mem_cons.1 hj with rfl | hj
 ·exact wpOp_step (by simpa using ho) (fun K' hK=>h K' (fun a w hS hW=>hK a w ⟨hS,hW hS⟩))
 ·exact hs j hj
theorem eN {rs:List Nat} (hr:(decide (Region.ready md ops listed=rs) && rs.all (fun i=>decide (i<n)) && !rs.isEmpty)=true) (h:aIr P md ops Q S n g f listed a w rs):TT P md ops Q S n g (f+1) listed a w:=fun hT inv=>by
 simp only [Bool.and_eq_true,decide_eq_true_eq,List.all_eq_true,Bool.not_eq_true'] at hr;obtain ⟨⟨h1,h2⟩,h3⟩:=hr;refine⟨fun h0=>(by rw [<-h1,h0] at h3;cases h3),fun j hj=>?_⟩;have hj':j∈rs:=by rw [<-h1];exact hj
 exact⟨h2 j hj',wpOp_mono (fun a' w' h'=>⟨h'.1,h'.2 hT (inv.set hj (h2 j hj'))⟩) (h j hj')⟩
theorem aIs {ops:Array Oper} {R:World->Prop} {oi:Oper} {v:Value} (k:∀W,S W->R W) (h:YieldsIf P ops R oi v a):YieldsIf P ops S oi v a:=h.imp (fun h=>⟨h.1,fun W hW=>h.2 W (k W hW)⟩) id
theorem aN (i:Nat) {o:Oper} {a0:Act} (h:∀K':Act->World->Prop,Shut (∀a w,S w->(S w->TT P md ops Q S n g f (listed.setIfInBounds i true) a w)->K' a w)->if Region.wanted o (yielded ops a.tmps)=true then Oper.wp P o a w K' Q else K' (a.put o.dst undef) w)
  (hr:(decide (Region.ready md ops listed = [i]) && [i].all (fun i=>decide (i<n)) && ![i].isEmpty)=true:=by decide +kernel) (ho:ops.toList[i]? = some o:=by rfl) (ha:a0=a:=by first | (simp only [Act.put,sA,sB,sC];done) | (simp only [Act.put,sA,sB,sC];rfl) | rfl):TT P md ops Q S n g (f+1) listed a0 w:=by rw [ha];exact eN (rs:=[i]) hr (bS ho h eM)
theorem cJ (i:Nat) {oi:Oper} {v:Value} {a':Act} {R:World->Prop} (k:∀W,S W->R W) (h:TT P md ops Q S n g f (listed.setIfInBounds i true) a' w) (hi:ops.toList[i]? = some oi:=by rfl) (hB:(decide (i<n) && Region.free md ops listed i && (Region.ready md ops listed).contains i)=true:=by decide +kernel)
  (hQ:∀c a w,Q (.panic c) (a.put oi.dst v) w->Q (.panic c) a w:=by exact fun _ _ _ h=>h) (hy:YieldsIf P ops R oi v a:=by exact Or.inl ⟨by rfl,by(intro W hq;(try dsimp only at hq);go_simp <;> with_reducible rfl)⟩) (hS:S w:=by assumption)
  (ha:a.put oi.dst v=a':=by first | (simp only [Act.put,sA,sB,sC];done) | (simp only [Act.put,sA,sB,sC];rfl) | rfl):TT P md ops Q S n g (f+1) listed a w:=aE i h hi hB hQ (aIs k hy) hS ha
theorem bH (hB:Region.seqB md ops g n listed=true) (h:wpList P ops Q (ops.toList.drop n) a w):TT P md ops Q S n g 0 listed a w:=fun _ _=>⟨hB,h⟩
end
theorem aW {id:Nat} {l:List Oper} {a:Act} {w:World} (n:Nat) (hm:P.follows .mixedOrders=true) (hB:xD .any l.toArray n=true) (hS:S w.drew)
  (h:S w.drew->TT P .any l.toArray Q S n (l.length - n) n (Array.replicate l.length false) a w.drew):(Code.region id l.toArray true).wp P Q a w:=by
 obtain ⟨_,hn,_,_⟩:=aFe hB;have hn':n<l.length:=by simpa using hn
 have inv0:HeadInv .any l.toArray n (Array.replicate l.length false):=
  ⟨by simp,fun j oj _ hl=>(by rw [getD_replicate_false] at hl;cases hl),fun t _ ht=>getD_in (by simpa using ht) (getD_replicate_false _ _)⟩
 refine wp_region_any hm ?_;have:=tI (P:=P) (S:=S) (g:=l.length - n) (by simp) _ _ _ _ (h hS hB inv0);rw [show n+(l.length - n)=l.length by omega] at this
 simpa using this
end
end Go
namespace Go.Proofs.YtgoojkiccdjplaaGreatDoor
open Go.RowKit Go.Lib
section
variable {w W W' w0 : World} {base base' g size n : Nat} {e : TypeId} {v : Value} {xs us : List Value}
theorem bW.lit0 (hg:g=w.heap.size) (hb:base<=w.heap.size):bW (w.alloc (.cells #[] e)) base e size (.slice (some ⟨g,0,none⟩) 0 0) 0 []:=by
 subst hg;refine⟨by simp,.inr ⟨w.heap.size,0,#[],rfl,hb,?_,aB,aV,by simp,by simp⟩⟩;show(w.heap.push _)[w.heap.size]? = _;simp
theorem bW.lower (h:bW w base e size v n xs) (hb:base'<=base):bW w base' e size v n xs:=
 ⟨h.1,h.2.imp id fun⟨g,cap,cur,h1,h2,h3⟩=>⟨g,cap,cur,h1,aK hb h2,h3⟩⟩
def iC (w:World) (s:Nat) (us:List Value):Prop:=∀(j:Nat) (u:Value),us[j]? = some u->w.cell? ⟨s,j,none⟩=some u
theorem iC.lit {s:Nat} (hs:s=w.heap.size):iC (w.alloc (.cells us.toArray e)) s us:=fun j u hu=>by
 subst hs;rw [World.cell?_alloc_new];simpa using hu
theorem iC.lit1 {s:Nat} {u:Value} (hs:s=w.heap.size):iC (w.alloc (.cells #[u] e)) s [u]:=iC.lit (us:=[u]) hs
theorem Src.lit {s:Nat} (h:iC w s us) (hl:us.length=size):Src w size (some ⟨s,0,none⟩) 1 us:=Src.one hl h
theorem aG (w0:World):Below w0.heap.size w0 w0.drew:=⟨rfl,rfl,rfl,aB,fun _ _=>rfl⟩
theorem fM (h:Below w0.heap.size w0 W) (o:Obj):Below w0.heap.size w0 (W.alloc o):=h.alloc h.size o
theorem fW {row:Option Nat} (h:Below w0.heap.size w0 W) (hg:W.grownBy W' row) (hr:∀k,row=some k->w0.heap.size<=k):Below w0.heap.size w0 W':=h.grown hg h.size hr
theorem aD {p:Addr} {u:Value} (h:Below w0.heap.size w0 W) (hc:w0.cell? p=some u):W.cell? p=some u:=by
 rw [h.cell (p:=p) (World.block_lt_of_cell? w0 _ hc)];exact hc
end
theorem Src.keep {w0 W:World} {size m:Nat} {A:Option Addr} {news:List Value} (h:Src w0 size A m news) (hb:Below w0.heap.size w0 W):Src W size A m news:=
 ⟨h.1,fun hm=>by
  obtain ⟨ad,ha,hc⟩:=h.2 hm;exact⟨ad,ha,fun j u hu=>aD hb (hc j u hu)⟩⟩
section
variable {P : Program} {t e : TypeId} {a : Option Addr} {n c k s : Nat}
theorem rI (ht:P.underlying t=some (.slice e)) (hsz:∀w,(sizeOf e).run P w = .ok s w) (hk:k<=n) (hc:n<=c) (W:World) :
  (Instr.slice t (.slice a n c) none (some (.int .i64 k)) none).run P W = .ok (.slice a k c) W:=by
 have e0:(if c=0 then a else a.map (·.add (0 * s)))=a:=by
  split
  ·rfl
  ·cases a <;> simp [Addr.add]
 simp only [Nat.zero_mul] at e0;have hkc:k<=c:=by omega
 simp [Instr.slice,Instr.sliceBounds,Instr.sliceBound,run_underlying ht,hsz,hkc,asIntOf]
 simpa using e0
def gM (a:Option Addr) (c k s:Nat):Option Addr:=if c=k then a else a.map (·.add (k * s))
theorem rJ (ht:P.underlying t=some (.slice e)) (hsz:∀w,(sizeOf e).run P w = .ok s w) (hk:k<=n) (hc:n<=c) (W:World) :
  (Instr.slice t (.slice a n c) (some (.int .i64 k)) none none).run P W = .ok (.slice (gM a c k s) (n - k) (c - k)) W:=by
 have hkc:k<=c:=by omega
 unfold gM;simp [Instr.slice,Instr.sliceBounds,Instr.sliceBound,run_underlying ht,hsz,hk,asIntOf]
end
section
variable {α : Type} {R : bV α} {S : Nat -> Prop} {w : World} {a : Option Addr} {n : Nat} {xs : List α}
theorem bJ.css (h:bJ R S w a n xs):∃css:List (List Value),css.length=n/\(∀(j:Nat) (x:α),xs[j]? = some x->∃cs,css[j]? = some cs/\R.rd S w x cs)/\∀q,q<=n->∀m,q+m<=n->∀c,n<=c->Src w R.k (gM a c q R.k) m ((css.drop q).take m).flatten:=by
 obtain ⟨hl,hc⟩:=h;rcases Nat.eq_zero_or_pos n with h0 | h0
 ·subst h0;have:xs = []:=List.eq_nil_of_length_eq_zero hl;subst this;exact⟨[],rfl,by simp,fun q hq m hm c _=>by
   obtain rfl:m=0:=by omega
   simpa using Src.nothing (w:=w) (size:=R.k)⟩
 ·obtain ⟨b,o,ha,hlt,hS,hc⟩:=hc h0;have hall:∀i,i<n->∃cs:List Value,∃x,xs[i]? = some x/\R.rd S w x cs/\∀j u,cs[j]? = some u->w.cell? ⟨b,o+i * R.k+j,none⟩=some u:=fun i hi=>by
   obtain ⟨cs,h1,h2⟩:=hc i _ (List.getElem?_eq_getElem (by omega:i<xs.length));exact⟨cs,_,List.getElem?_eq_getElem (by omega),h1,h2⟩
  have hlist:∀m,m<=n->∃css:List (List Value),css.length=m/\∀j cs,css[j]? = some cs->∃x,xs[j]? = some x/\R.rd S w x cs/\∀i u,cs[i]? = some u->w.cell? ⟨b,o+j * R.k+i,none⟩=some u:=by
   intro m
   induction m with
   | zero=>exact fun _=>⟨[],rfl,by simp⟩
   |
    succ m ih=>
    intro hm;obtain ⟨css,h1,h2⟩:=ih (by omega);obtain ⟨cs,h3⟩:=hall m (by omega);refine⟨css ++ [cs],by simp [h1],fun j ds hj=>?_⟩;by_cases hjm:j<css.length
    ·rw [List.getElem?_append_left hjm] at hj;exact h2 j ds hj
    ·have hl2:=(List.getElem?_eq_some_iff.1 hj).1;rw [List.length_append,List.length_singleton] at hl2;obtain rfl:j=m:=by omega
     rw [<-h1,List.getElem?_concat_length] at hj;cases hj;exact h3
  obtain ⟨css,h1,h2⟩:=hlist n aB;have hcl:∀cs∈css,cs.length=R.k:=fun cs hcs=>by
   obtain ⟨j,hj,rfl⟩:=List.getElem_of_mem hcs;obtain ⟨x,_,h3,_⟩:=h2 j _ (List.getElem?_eq_getElem hj);exact R.len h3
  refine⟨css,h1,fun j x hx=>?_,fun q hq m hm c hcap=>?_⟩
  ·have hj:j<css.length:=by have:=(List.getElem?_eq_some_iff.1 hx).1;omega
   obtain ⟨y,h3,h4,_⟩:=h2 j _ (List.getElem?_eq_getElem hj);rw [hx] at h3;cases h3;exact⟨_,List.getElem?_eq_getElem hj,h4⟩
  ·have hfl:∀(l:List (List Value)),(∀cs∈l,cs.length=R.k)->l.flatten.length=l.length * R.k:=by
    intro l
    induction l with
    | nil=>intro _;simp
    | cons d l ih=>intro hl;rw [List.flatten_cons,List.length_append,hl d (by simp),ih (fun cs h=>hl cs (by simp [h])),List.length_cons,Nat.succ_mul];omega
   have hmem:∀cs∈(css.drop q).take m,cs.length=R.k:=fun cs h=>hcl cs (List.mem_of_mem_drop (List.mem_of_mem_take h))
   have hlen:((css.drop q).take m).length=m:=by rw [List.length_take,List.length_drop];omega
   refine⟨by rw [hfl _ hmem,hlen],fun hm0=>?_⟩;have hne:c≠q:=by omega
   refine⟨⟨b,o+q * R.k,none⟩,by unfold gM;rw [if_neg hne,ha];simp [Addr.add_lit],fun j u hu=>?_⟩;rw [Addr.add_lit];have hkpos:0<R.k:=by
    rcases Nat.eq_zero_or_pos R.k with hk | hk
    ·have:=(List.getElem?_eq_some_iff.1 hu).1;rw [hfl _ hmem,hk] at this;omega
    ·exact hk
   have hjm:j<m * R.k:=by have:=(List.getElem?_eq_some_iff.1 hu).1;rwa [hfl _ hmem,hlen] at this
   have hdm:=Nat.div_add_mod j R.k;have hq2:j / R.k<m:=Nat.div_lt_of_lt_mul (by rw [Nat.mul_comm];exact hjm);have hmod:=Nat.mod_lt j hkpos;have hg:((css.drop q).take m)[j / R.k]? = css[q+j / R.k]?:=by rw [List.getElem?_take_of_lt hq2,List.getElem?_drop]
   have hcs:q+j / R.k<css.length:=by omega
   obtain ⟨x,_,hrd,hcell⟩:=h2 (q+j / R.k) _ (List.getElem?_eq_getElem hcs);have hl3:=R.len hrd;have hu2:=mA hmem (hg.trans (List.getElem?_eq_getElem hcs)) (List.getElem?_eq_getElem (show j % R.k<_ by rw [hl3];exact hmod));have hj':j / R.k * R.k+j % R.k=j:=by rw [Nat.mul_comm];exact hdm
   rw [hj'] at hu2;rw [hu] at hu2;cases hu2;have:=hcell (j % R.k) _ (List.getElem?_eq_getElem (by rw [hl3];exact hmod));rw [<-this]
   congr 2
   rw [Nat.add_mul];omega
end
theorem aBm {a:Option Addr} {c s:Nat}:gM a c 0 s=a:=by
 unfold gM
 split
 ·rfl
 ·cases a <;> simp [Addr.add]
theorem jP.srcs {w:World} {a:Option Addr} {n c q:Nat} {xs:List Int} (h:jP w a n xs) (hq:q<=n) (hc:n<=c):Src w 1 a q ((xs.take q).map (Value.int .i64))/\Src w 1 (gM a c q 1) (n - q) ((xs.drop q).map (Value.int .i64)):=by
 have hl:=h.len;refine⟨⟨by simp;omega,fun h0=>?_⟩,⟨by simp;omega,fun h0=>?_⟩⟩
 ·obtain ⟨b,o,rfl,_,hcc⟩:=h.cells (by omega);refine⟨_,rfl,fun j u hu=>?_⟩;have hj:=(List.getElem?_eq_some_iff.1 hu).1;simp at hj;rw [Addr.add_lit,hcc j (by omega)];rw [List.getElem?_map,List.getElem?_take_of_lt (by omega),List.getElem?_eq_getElem (by omega:j<xs.length)] at hu;simp at hu;rw [<-hu,cK (by omega)]
 ·obtain ⟨b,o,rfl,_,hcc⟩:=h.cells (by omega);have hne:c≠q:=by omega
  refine⟨⟨b,o+q,none⟩,by unfold gM;rw [if_neg hne];simp [Addr.add_lit],fun j u hu=>?_⟩;have hj:=(List.getElem?_eq_some_iff.1 hu).1;simp at hj;rw [Addr.add_lit,Nat.add_assoc,hcc (q+j) (by omega)];rw [List.getElem?_map,List.getElem?_drop,List.getElem?_eq_getElem (by omega:q+j<xs.length)] at hu;simp at hu;rw [<-hu,cK (by omega)]
theorem bW.rdI {w:World} {base n:Nat} {e:TypeId} {a:Option Addr} {m c:Nat} {xs:List Int} (h:bW w base e 1 (.slice a m c) n (xs.map (Value.int .i64))) (hwf:∀x∈xs,-9223372036854775808<=x/\x<=9223372036854775807):m=n/\jP w a n xs/\(∀y,a=some y->base<=y.block):=by
 have hl:xs.length=n:=by simpa using h.1
 have hv:=h.2;rcases hv with ⟨hv,rfl⟩ | ⟨g,cap,cur,hv,hg,hh,_⟩
 ·cases hv;exact⟨rfl,⟨hl,hwf,by omega⟩,by simp⟩
 ·cases hv;refine⟨rfl,⟨hl,hwf,fun _=>⟨g,0,rfl,(bQ hh).1,fun j hj=>?_⟩⟩,by rintro y ⟨⟩;exact hg⟩;have:=h.cells (g:=g) rfl j (.int .i64 (nth xs j)) (by rw [List.getElem?_map,List.getElem?_eq_getElem (by omega),cK (by omega)];rfl);rw [Nat.zero_add];exact this
section
variable {α : Type} {R : bV α} {S : Nat -> Prop} {w W : World} {xs ys : List α} {css dss : List (List Value)}
def gE (R:bV α) (S:Nat->Prop) (w:World) (xs:List α) (css:List (List Value)):Prop:=css.length=xs.length/\∀(j:Nat) (x:α),xs[j]? = some x->∃cs,css[j]? = some cs/\R.rd S w x cs
theorem gE.one {x:α} {cs:List Value} (h:R.rd S w x cs):gE R S w [x] [cs]:=⟨rfl,fun j y hy=>by
 cases j with
 | zero=>simp at hy;subst hy;exact⟨cs,rfl,h⟩
 | succ j=>simp at hy⟩
theorem gE.append (h:gE R S w xs css) (h':gE R S w ys dss):gE R S w (xs++ys) (css++dss):=⟨by rw [List.length_append,List.length_append,h.1,h'.1],fun j x hx=>by
 by_cases hj:j<xs.length
 ·rw [List.getElem?_append_left hj] at hx;rw [List.getElem?_append_left (by rw [h.1];exact hj)];exact h.2 j x hx
 ·rw [List.getElem?_append_right (by omega)] at hx;rw [List.getElem?_append_right (by rw [h.1];omega),h.1];exact h'.2 _ x hx⟩
theorem gE.at (h:gE R S w xs css) {cs:List Value} (hc:cs∈css):∃x,R.rd S w x cs:=by
 obtain ⟨j,hj,rfl⟩:=List.getElem_of_mem hc;obtain ⟨ds,h1,h2⟩:=h.2 j _ (List.getElem?_eq_getElem (by rw [<-h.1];exact hj));rw [List.getElem?_eq_getElem hj] at h1;cases h1;exact⟨_,h2⟩
theorem gE.ones (h:gE R S w xs css):∀u∈css.flatten,u.oneCell'=true:=fun u hu=>by
 obtain ⟨cs,hc,hu⟩:=List.mem_flatten.1 hu;obtain ⟨x,hx⟩:=h.at hc;exact R.one hx u hu
theorem gE.keep (h:gE R S w xs css) (hk:∀b,b<w.heap.size->S b->W.heap[b]? = w.heap[b]?) (hs:w.heap.size<=W.heap.size):gE R S W xs css:=⟨h.1,fun j x hx=>by
 obtain ⟨cs,h1,h2⟩:=h.2 j x hx;exact⟨cs,h1,R.keep h2 hk hs⟩⟩
theorem gE.below (h:gE R S w xs css) (hb:Below w.heap.size w W):gE R S W xs css:=h.keep (fun b hlt _=>hb.block b hlt) hb.size
theorem gE.own {base n:Nat} {e:TypeId} {v:Value} (h:gE R S w xs css) (ho:bW w base e R.k v n css.flatten) (hn:n=xs.length):bK R S w base e v xs:=by
 subst hn;exact⟨css,ho,h.1,h.2⟩
theorem bK.pairs {base:Nat} {e:TypeId} {v:Value} (h:bK R S w base e v xs):∃css,bW w base e R.k v xs.length css.flatten/\gE R S w xs css:=by
 obtain ⟨css,h1,h2,h3⟩:=h;exact⟨css,h1,h2,h3⟩
theorem bJ.pairs {a:Option Addr} {n:Nat} (h:bJ R S w a n xs):∃css,gE R S w xs css/\(∀q,q<=n->Src w R.k a q (css.take q).flatten)/\∀q,q<=n->∀c,n<=c->Src w R.k (gM a c q R.k) (n - q) (css.drop q).flatten:=by
 obtain ⟨css,h1,h2,h3⟩:=h.css;refine⟨css,⟨by rw [h1,h.1],h2⟩,fun q hq=>?_,fun q hq c hc=>?_⟩
 ·have:=h3 0 aV q (by omega) n aB;rw [aBm,bT] at this;exact this
 ·have:=h3 q hq (n - q) (by omega) c hc
  rwa [List.take_of_length_le (by rw [List.length_drop,h1];exact aB)] at this
end
end Go.Proofs.YtgoojkiccdjplaaGreatDoor
namespace Go.Proofs.YtgoojkiccdjplaaGreatDoor
open Go.RowKit Go.Maps
def qE (v:Value):Option (DataW Value × List MemPlace):=some (.held v,[])
def sM (x:ByteArray):Lit:=.string x.data.toList
def okS (x:ByteArray):Prop:=x.size<=maxLen
theorem yY (x:ByteArray):WideAt.IsKeyLit (sM x):=by simp [sM,WideAt.IsKeyLit]
theorem aCz {x y:ByteArray} (h:x≠y):sM x≠sM y:=fun e=>h (by
 have e2:x.data.toList=y.data.toList:=by simpa [sM] using e
 obtain ⟨a⟩:=x;obtain ⟨b⟩:=y;simp at e2;rw [e2])
def kW (P:Program) (k:TypeId) (b n:Nat) (F:ByteArray->Option Value) (w:World):Prop:=
 ∃D:DataW Value,w.ownsMap P k qE b n D/\Maps.size D=n/\∀x,Maps.has D (sM x)=(F x).isSome/\∀z,D.atKey (sM x) (.held z) = .held ((F x).getD z)
def tJ (F:ByteArray->Option Value) (x:ByteArray) (v:Option Value):ByteArray->Option Value:=fun y=>if y=x then v else F y
theorem aDp (F:ByteArray->Option Value) (x:ByteArray) (v:Option Value):tJ F x v x=v:=by simp [tJ]
theorem aBn (F:ByteArray->Option Value) {x y:ByteArray} (v:Option Value) (h:y≠x):tJ F x v y=F y:=by simp [tJ,h]
variable {P : Program} {k t e : TypeId} {b n : Nat} {F : ByteArray -> Option Value} {w w' : World}
theorem kW.lt (h:kW P k b n F w):b<w.heap.size:=by obtain ⟨D,h,_⟩:=h;exact h.lt
theorem kW.made (w:World):kW P k w.heap.size 0 (fun _=>none) (w.alloc (.map #[] 0)):=
 ⟨.map [],World.ownsMap_made w P k qE,rfl,fun _=>⟨rfl,fun _=>rfl⟩⟩
theorem kW.same (h:kW P k b n F w) (hb:w'.heap[b]? = w.heap[b]?):kW P k b n F w':=by
 obtain ⟨D,⟨es,clock,hb',r⟩,h2⟩:=h;exact⟨D,⟨es,clock,hb.trans hb',r⟩,h2⟩
theorem kW.look (h:kW P k b n F w) (hk:P.underlying k=some .string) (ht:P.underlying t=some (.map k e)) {z:Value} (hz:(zeroValue e).run P w = .ok z w) {x:ByteArray} (hx:okS x) :
  (Instr.lookup t (.map (some b)) (.string x) false).run P w = .ok ((F x).getD z) w:=by
 obtain ⟨D,h1,h2,h3⟩:=h;obtain ⟨v,ps,hrun,hv⟩:=h1.lookup (string_keyed hk) ht hz (zd:=.held z) (zp:=[]) rfl (WideMaps.keyOf_string_mk hk hx);have e1:=(h3 x).2 z;unfold sM at e1;rw [e1] at hv;simp only [qE,Option.some.injEq,Prod.mk.injEq,DataW.held.injEq] at hv;rw [hrun,hv.1]
theorem kW.look_ok (h:kW P k b n F w) (hk:P.underlying k=some .string) (ht:P.underlying t=some (.map k e)) {z:Value} (hz:(zeroValue e).run P w = .ok z w) {x:ByteArray} (hx:okS x) :
  (Instr.lookup t (.map (some b)) (.string x) true).run P w = .ok (.tuple #[(F x).getD z,.bool (F x).isSome]) w:=by
 obtain ⟨D,h1,h2,h3⟩:=h;obtain ⟨v,ps,hrun,hv⟩:=h1.look_ok (string_keyed hk) ht hz (zd:=.held z) (zp:=[]) rfl (WideMaps.keyOf_string_mk hk hx);have e1:=(h3 x).2 z;have e2:=(h3 x).1;unfold sM at e1 e2;rw [e1] at hv;rw [e2] at hrun;simp only [qE,Option.some.injEq,Prod.mk.injEq,DataW.held.injEq] at hv;rw [hrun,hv.1]
theorem kW.store (h:kW P k b n F w) (hk:P.underlying k=some .string) (ht:P.underlying t=some (.map k e)) (hn:n<maxLen) {x:ByteArray} (hx:okS x) (v:Value) :
  ∃w',(Instr.mapUpdate t (.map (some b)) (.string x) v).run P w = .ok () w'/\kW P k b (if (F x).isSome then n else n+1) (tJ F x (some v)) w'/\w.mapTurned w' b:=by
 obtain ⟨D,h1,h2,h3⟩:=h;obtain ⟨w',hrun,ho,hg⟩:=h1.store (string_keyed hk) ht hn (WideMaps.keyOf_string_mk hk hx) (d:=.held v) (ps:=[]) (val:=v) rfl;have hs:=size_put (h1.tidy (string_keyed hk)) (k:=sM x) (.held v);rw [(h3 x).1,h2] at hs;refine⟨w',hrun,⟨D.put (sM x) (.held v),?_,hs,fun y=>?_⟩,hg⟩
 ·obtain ⟨es,clock,a1,a2,a3,a4⟩:=ho;refine⟨es,clock,a1,a2,?_,a4⟩;have e1:Maps.size (D.put (sM x) (.held v))=es.size:=by
   show Maps.size (D.put (.string x.data.toList) (.held v))=es.size;rw [a4];simp [Maps.size,length_sorted]
  rw [<-e1,hs];exact aB
 ·by_cases hy:y=x
  ·subst hy;rw [aDp];exact⟨has_put_same h1.isMap (yY y) _,fun z=>by rw [atKey_put_same h1.isMap (yY y)];rfl⟩
  ·rw [aBn F _ hy];exact⟨by rw [has_put_other (aCz hy)];exact(h3 y).1,fun z=>by rw [atKey_put_other (aCz hy)];exact(h3 y).2 z⟩
structure cE where
 neg:Bool
 num:List Int
 den:List Int
structure bY where
 op:Int
 name:ByteArray
 val:cE
 args:List Int
 sort:Int
def uX (x:Int):Prop:=0<=x/\x<=18446744073709551615
def bV.u64:bV Int where
 k:=1
 rd _ _ x cs:=cs = [.int .u64 x]/\uX x
 len h:=by rw [h.1];rfl
 one h:=by rw [h.1];intro u hu;simp at hu;subst hu;rfl
 keep h _ _:=h
 mono h _:=h
def aKp:bV cE:=bV.map (fun r=>(r.neg,r.num,r.den)) (.prod .bool (.prod (.slice .u64) (.slice .u64)))
def uY:bV bY:=bV.map (fun n=>(n.op,n.name,n.val,n.args,n.sort)) (.prod .int (.prod .str (.prod aKp (.prod (.slice .int) .int))))
def uZ:bV (Bool × Bool):=.prod .bool .bool
theorem aKq:uY.k=7:=rfl
theorem aKr:uZ.k=2:=rfl
theorem tA {S:Nat->Prop} {w:World} {r:cE} {cs:List Value}:aKp.rd S w r cs↔∃a n c b m d,cs = [.bool r.neg,.slice a n c,.slice b m d]/\n<=c/\c<=maxLen/\bJ bV.u64 S w a n r.num/\m<=d/\d<=maxLen/\bJ bV.u64 S w b m r.den:=by
 constructor
 ·rintro ⟨x,y,rfl,h1,x',y',rfl,⟨a,n,c,h2,h3,h4,h5⟩,⟨b,m,d,h6,h7,h8,h9⟩⟩;have h1':x = [.bool r.neg]:=h1;subst h1' h2 h6;exact⟨a,n,c,b,m,d,rfl,h3,h4,h5,h7,h8,h9⟩
 ·rintro ⟨a,n,c,b,m,d,rfl,h3,h4,h5,h7,h8,h9⟩;exact⟨[.bool r.neg],_,rfl,rfl,[.slice a n c],_,rfl,⟨a,n,c,rfl,h3,h4,h5⟩,⟨b,m,d,rfl,h7,h8,h9⟩⟩
structure dR (S:Nat->Prop) (w:World) (x:bY) (a:Option Addr) (c:Nat) (b:Option Addr) (d:Nat) (g:Option Addr) (e:Nat):Prop where
 num:bJ bV.u64 S w a x.val.num.length x.val.num
 nc:x.val.num.length<=c/\c<=maxLen
 den:bJ bV.u64 S w b x.val.den.length x.val.den
 dc:x.val.den.length<=d/\d<=maxLen
 args:bJ bV.int S w g x.args.length x.args
 ac:x.args.length<=e/\e<=maxLen
 op:fG x.op
 sort:fG x.sort
def aJ6 (x:bY) (a:Option Addr) (c:Nat) (b:Option Addr) (d:Nat) (g:Option Addr) (e:Nat):List Value:=
 [.int .i64 x.op,.string x.name,.bool x.val.neg,.slice a x.val.num.length c,.slice b x.val.den.length d,.slice g x.args.length e,.int .i64 x.sort]
theorem tB {S:Nat->Prop} {w:World} {x:bY} {cs:List Value}:uY.rd S w x cs↔∃a c b d g e,cs=aJ6 x a c b d g e/\dR S w x a c b d g e:=by
 constructor
 ·rintro ⟨p,q,rfl,⟨h1,h1'⟩,p',q',rfl,h2,p2,q2,rfl,h3,p3,q3,rfl,⟨g,m,e,h4,h5,h6,h7⟩,h8,h8'⟩;obtain ⟨a,n,c,b,k,d,rfl,r1,r2,r3,r4,r5,r6⟩:=tA.1 h3;have h1':p = [.int .i64 x.op]:=h1;have h2':p' = [.string x.name]:=h2;have h8':q3 = [.int .i64 x.sort]:=h8;subst h1' h2' h8' h4;obtain rfl:n=x.val.num.length:=r3.1.symm;obtain rfl:k=x.val.den.length:=r6.1.symm;obtain rfl:m=x.args.length:=h7.1.symm;exact⟨a,c,b,d,g,e,rfl,r3,⟨r1,r2⟩,r6,⟨r4,r5⟩,h7,⟨h5,h6⟩,by assumption,by assumption⟩
 ·rintro ⟨a,c,b,d,g,e,rfl,h⟩;exact⟨[.int .i64 x.op],_,rfl,⟨rfl,h.op⟩,[.string x.name],_,rfl,rfl,[.bool x.val.neg,.slice a x.val.num.length c,.slice b x.val.den.length d],_,rfl,tA.2 ⟨a,_,c,b,_,d,rfl,h.nc.1,h.nc.2,h.num,h.dc.1,h.dc.2,h.den⟩,[.slice g x.args.length e],_,rfl,⟨g,_,e,rfl,h.ac.1,h.ac.2,h.args⟩,rfl,h.sort⟩
theorem tC {S:Nat->Prop} {w:World} {x:Bool × Bool} {cs:List Value}:uZ.rd S w x cs↔cs = [.bool x.1,.bool x.2]:=by
 constructor
 ·rintro ⟨p,q,rfl,h1,h2⟩;have h1':p = [.bool x.1]:=h1;have h2':q = [.bool x.2]:=h2;subst h1' h2';rfl
 ·rintro rfl;exact⟨[.bool x.1],[.bool x.2],rfl,rfl,rfl⟩
section
variable {S S' : Nat -> Prop} {w w' : World} {x : bY} {a b g : Option Addr} {c d e : Nat}
theorem dR.keep (h:dR S w x a c b d g e) (hk:∀y,y<w.heap.size->S y->w'.heap[y]? = w.heap[y]?) (hs:w.heap.size<=w'.heap.size):dR S w' x a c b d g e:=
 ⟨h.num.keep hk hs,h.nc,h.den.keep hk hs,h.dc,h.args.keep hk hs,h.ac,h.op,h.sort⟩
theorem dR.mono (h:dR S w x a c b d g e) (hk:∀y,y<w.heap.size->S y->S' y):dR S' w x a c b d g e:=
 ⟨h.num.mono hk,h.nc,h.den.mono hk,h.dc,h.args.mono hk,h.ac,h.op,h.sort⟩
theorem dR.below (h:dR S w x a c b d g e) (hb:Below w.heap.size w w'):dR S w' x a c b d g e:=h.keep (fun y hy _=>hb.block y hy) hb.size
end
def dO (w:World) (k:Nat):Prop:=∃cs f,w.heap[k]? = some (.cells cs 3 f)\/w.heap[k]? = some (.cells cs 177 f)
def lJ (X:Nat->Prop) (w:World) (k:Nat):Prop:=¬X k/\dO w k
theorem dO.lt {w:World} {k:Nat} (h:dO w k):k<w.heap.size:=by
 obtain ⟨cs,f,h | h⟩:=h
 ·exact(bQ h).1
 ·exact(bQ h).1
theorem dO.same {w w':World} {k:Nat} (h:dO w k) (hb:w'.heap[k]? = w.heap[k]?):dO w' k:=by obtain ⟨cs,f,h⟩:=h;exact⟨cs,f,by rw [hb];exact h⟩
theorem dO.ne {w:World} {k:Nat} {t:TypeId} (h:dO w k) (h1:t≠3) (h2:t≠177) (ht:∃cs f,w.heap[k]? = some (.cells cs t f)):False:=by
 obtain ⟨cs,f,h | h⟩:=h
 ·exact cQ h1 ht ⟨_,_,h⟩
 ·exact cQ h2 ht ⟨_,_,h⟩
def jY (p:Nat) (w:World) (k:Nat):Prop:=dQ w p k\/∃cs t f,w.heap[p]? = some (.cells cs t f)/\∃v∈cs.toList,v = .map (some k)
structure fB (p:Nat) (w w':World):Prop where
 os:w'.os=w.os
 tape:w'.tape=w.tape
 output:w'.output=w.output
 size:w.heap.size<=w'.heap.size
 block:∀k,k<w.heap.size->¬jY p w k->w'.heap[k]? = w.heap[k]? /\ ¬jY p w' k
section
variable {p : Nat} {w w' w'' : World}
theorem jY.same (h:w'.heap[p]? = w.heap[p]?) {k:Nat}:jY p w' k↔jY p w k:=by unfold jY;rw [dQ.same h,h]
theorem fB.trans (h:fB p w w') (k:fB p w' w''):fB p w w'':=
 ⟨k.os.trans h.os,k.tape.trans h.tape,k.output.trans h.output,aK h.size k.size,fun i hi hn=>by
  obtain ⟨e1,n1⟩:=h.block i hi hn;obtain ⟨e2,n2⟩:=k.block i (bN hi h.size) n1;exact⟨e2.trans e1,n2⟩⟩
theorem fB.of_below (hp:p<w.heap.size) (h:Below w.heap.size w w'):fB p w w':=
 ⟨h.os,h.tape,h.output,h.size,fun k hk hn=>⟨h.block k hk,fun e=>hn ((jY.same (h.block p hp)).1 e)⟩⟩
theorem fB.below {B:Nat} (h:fB p w w') (hB:B<=w.heap.size) (ho:∀k,jY p w k->B<=k):Below B w w':=
 ⟨h.os,h.tape,h.output,h.size,fun k hk=>(h.block k (by omega) (fun e=>by have:=ho k e;omega)).1⟩
end
end Go.Proofs.YtgoojkiccdjplaaGreatDoor
