/-
  Parts of this claim's texts, one behind the other: YK YL YM YN YO YP YQ AA AB AC AD BA BB BC BD BE BF BG. No condition.
-/
import Derived.Test.YtgoojkiccdjplaaGreatDoorQ1
import Derived.Lib.AppendIntMem
import Derived.Lib.BitFns
import Derived.Lib.ItoaNum
import Derived.Lib.EndianBits
import Derived.Laws.OwnMore
import Derived.Shelf.Spec.BitsCarry
set_option linter.unusedVariables false
set_option linter.unusedSimpArgs false
set_option maxRecDepth 100000
set_option maxHeartbeats 16000000
namespace Go.Proofs.YtgoojkiccdjplaaGreatDoor
open Go.RowKit Go.Sort Go.Lib Go.Proofs.Tryz
theorem aHs (B p:Nat) (T:aC) (nm:ByteArray) (a:Option Addr) (n c:Nat) (xs:List Int) (w:World) (d:rJ B p T a n c xs w) :
  Calls prog 87 #[.pointer (some ⟨p,0,none⟩),.int .i64 10,.string nm,.slice a n c] w fun e w'=>cG T 10 nm xs w e w':=by
 have hd:=@Z (aD T 10 nm xs=if n=3/\(nodeAt T (nth xs 0)).sort=0/\jV T (xs.drop 1)=true then((nodeAt T (nth xs 1)).sort,true) else(0,false)) (by show xM T xs=_;unfold xM;rw [d.hx.len]);have am:=d.hn;by_cases N:n=3
 case neg=>
  have k:=@Z (aD T 10 nm xs=(0,false)) (by rw [hd.o,if_neg (fun h=>N h.1)]);have aa:¬(n:Int)=3:=by omega
  have aj:decide ((n:Int)=3)=false:=by simpa using aa
  clear d hd;go_enter func87,ntmps87
  go_wp2
  go_quiet (fail)
  go_wp2;go_ret2;exact cG.of k.o ((aO _ _).drewN _)
 subst N;obtain ⟨b,o,rfl,C⟩:=d.hx.at 0 (by omega);rw [cU] at C;obtain ⟨ah,ap,I,K⟩:=d.hx.at 1 (by omega);cases I;have ao:=d.hx.len;obtain ⟨L,X⟩:=d.hi (nth xs 0) (cB (by omega));obtain ⟨M,Y⟩:=d.hi (nth xs 1) (cB (by omega));obtain ⟨i,O⟩:=fK L;obtain ⟨j,P⟩:=fK M;rw [O] at C X hd;rw [P] at K Y hd;have af:=Z d;obtain ⟨q,V,c1,ag,c2,m,D⟩:=d.h.look;have ab:i<T.nodes.length:=by omega
 have ad:j<T.nodes.length:=by omega
 have ak:(i:Int)<T.nodes.length:=by omega
 have al:(j:Int)<T.nodes.length:=by omega
 have F:w.cell? ⟨p,1,none⟩=some (.slice V T.nodes.length c1):=E D.blk 1;obtain ⟨ai,aq,rfl,J,_⟩:=D.sortCell ab;obtain ⟨b2,ar,I,U,_⟩:=D.sortCell ad;cases I;have Q:=d.hnc;have t:=Z (fun(G:World) (R:Below w.heap.size w G)=>xN B p T (kV (some ⟨b,o,none⟩) c 1 1) 2 (c - 1) (xs.drop 1) G (d.h.all R) ((d.hx.from1 (by omega) Q).below R aA) (by omega) (d.hi.drop 1));have ae:=fun W=>aFj (a:=some ⟨b,o,none⟩) (n:=3) (by omega) Q W
 clear d D L M O P;generalize (nodeAt T i).sort=y at *;generalize (nodeAt T j).sort=z at *;by_cases hy:y=0
 case neg=>
  have k:=@Z (aD T 10 nm xs=(0,false)) (by rw [hd.o,if_neg (fun h=>hy h.2.1)]);have an:decide (y=0)=false:=by simpa using hy
  clear hd t ae;go_enter func87,ntmps87
  go_wp2
  go_quiet (fail)
  go_wp2;go_ret2;exact cG.of k.o ((aO _ _).drewN _)
 subst hy;cases r:jV T (xs.drop 1)
 case false=>
  have k:=@Z (aD T 10 nm xs=(0,false)) (by rw [hd.o,r];simp);rw [r] at t;clear hd r;go_enter func87,ntmps87
  go_wp2_with fail
  refine bF (S:=fun W=>Below w.heap.size w W) 20 (by kernel_rfl) (by kernel_rfl) (aF w) (fun _=>?_);refine aE 0 ?_;refine aE 1 ?_;refine aE 2 ?_;refine aE 3 ?_;refine aE 4 ?_;refine aE 5 ?_;refine aE 6 ?_;refine aE 7 (hy:=(by first | exact Or.inl ⟨by rfl,by(intro W f;have A:=aB f F;go_simp <;> with_reducible rfl)⟩ | exact Or.inr ⟨by rfl,rfl⟩)) ?_;refine aE 8 ?_;refine aE 9 ?_;refine aE 10 (hy:=(by first | exact Or.inl ⟨by rfl,by(intro W f;have A:=aB f C;go_simp <;> with_reducible rfl)⟩ | exact Or.inr ⟨by rfl,rfl⟩)) ?_;refine aE 11 ?_;refine aE 12 ?_;refine aE 13 (hy:=(by first | exact Or.inl ⟨by rfl,by(intro W f;have A:=aB f J;go_simp <;> with_reducible rfl)⟩ | exact Or.inr ⟨by rfl,rfl⟩)) ?_;refine aE 14 ?_;refine aE 15 ?_;refine aE 16 ?_;refine aE 17 ?_;refine aE 18 ?_;refine aE 19 ?_;refine cF (by decide +kernel) ?_;simp only [dL,cW]
  go_wp2_with fail
  refine(t.o _ (by assumption)).mono ?_;rintro e G ⟨rfl,v⟩;have H:=Z ((aF w).trans (v.mono (aF w).size));clear v;go_wp2;go_ret2;exact cG.of k.o H.o
 case true=>
  have k:=@Z (aD T 10 nm xs=(z,true)) (by rw [hd.o,r];simp);rw [r] at t;clear hd r;go_enter func87,ntmps87
  go_wp2_with fail
  refine bF (S:=fun W=>Below w.heap.size w W) 20 (by kernel_rfl) (by kernel_rfl) (aF w) (fun _=>?_);refine aE 0 ?_;refine aE 1 ?_;refine aE 2 ?_;refine aE 3 ?_;refine aE 4 ?_;refine aE 5 ?_;refine aE 6 ?_;refine aE 7 (hy:=(by first | exact Or.inl ⟨by rfl,by(intro W f;have A:=aB f F;go_simp <;> with_reducible rfl)⟩ | exact Or.inr ⟨by rfl,rfl⟩)) ?_;refine aE 8 ?_;refine aE 9 ?_;refine aE 10 (hy:=(by first | exact Or.inl ⟨by rfl,by(intro W f;have A:=aB f C;go_simp <;> with_reducible rfl)⟩ | exact Or.inr ⟨by rfl,rfl⟩)) ?_;refine aE 11 ?_;refine aE 12 ?_;refine aE 13 (hy:=(by first | exact Or.inl ⟨by rfl,by(intro W f;have A:=aB f J;go_simp <;> with_reducible rfl)⟩ | exact Or.inr ⟨by rfl,rfl⟩)) ?_;refine aE 14 ?_;refine aE 15 ?_;refine aE 16 ?_;refine aE 17 ?_;refine aE 18 ?_;refine aE 19 ?_;refine cF (by decide +kernel) ?_;simp only [dL,cW]
  go_wp2_with fail
  refine(t.o _ (by assumption)).mono ?_;rintro e G ⟨rfl,v⟩;have x:=(aF w).trans (v.mono (aF w).size);have H:=Z x;have au:=aB x F;have aw:=aB x K;have av:=aB x U;clear v x C F J U K;go_wp2
  go_quiet (fail)
  go_wp2;go_ret2;exact cG.of k.o (H.o.drewN _)
theorem xO (B p:Nat) (T:aC) (op:Int) (nm:ByteArray) (a:Option Addr) (n c:Nat) (xs:List Int) (w:World) (b:rJ B p T a n c xs w) (d:1<=op) (f:op<=20) :
  Calls prog 87 #[.pointer (some ⟨p,0,none⟩),.int .i64 op,.string nm,.slice a n c] w fun e w'=>cG T op nm xs w e w':=by
 have:op=1\/op=2\/op=3\/op=4\/op=5\/op=6\/op=7\/op=8\/op=9\/op=10\/op=11\/op=12\/op=13\/op=14\/op=15\/op=16\/op=17\/op=18\/op=19\/op=20:=by omega
 rcases this with rfl | rfl | rfl | rfl | rfl | rfl | rfl | rfl | rfl | rfl | rfl | rfl | rfl | rfl | rfl | rfl | rfl | rfl | rfl | rfl
 ·exact aI2 B p T nm a n c xs w b
 ·exact aI3 B p T nm a n c xs w b
 ·exact aI4 B p T nm a n c xs w b
 ·exact aI5 B p T nm a n c xs w b
 ·exact aI6 B p T nm a n c xs w b
 ·exact aI7 B p T nm a n c xs w b
 ·exact aI8 B p T nm a n c xs w b
 ·exact aI9 B p T nm a n c xs w b
 ·exact aJa B p T nm a n c xs w b
 ·exact aHs B p T nm a n c xs w b
 ·exact aHi B p T nm a n c xs w b
 ·exact aHj B p T nm a n c xs w b
 ·exact aHo B p T nm a n c xs w b
 ·exact aHp B p T nm a n c xs w b
 ·exact aHq B p T nm a n c xs w b
 ·exact aHr B p T nm a n c xs w b
 ·exact aHk B p T nm a n c xs w b
 ·exact aHl B p T nm a n c xs w b
 ·exact aHm B p T nm a n c xs w b
 ·exact aHn B p T nm a n c xs w b
abbrev lI (x:aZ) (a:Option Addr) (c:Nat) (b:Option Addr) (d:Nat) (g:Option Addr) (e:Nat):Value:=
 .agg #[.int .i64 x.op,.string x.name,.bool x.val.neg,.slice a x.val.num.length c,.slice b x.val.den.length d,.slice g x.args.length e,.int .i64 x.sort]
def aFk (p:Nat) (T:aC) (w:World):Prop:=∃(Bn:Nat) (a:Option Addr) (c:Nat),w.cell? ⟨p,2,none⟩=some (.slice a T.nums.length c)/\cA aE3 (fun _=>False) w Bn 190 (.slice a T.nums.length c) T.nums/\p<w.heap.size
theorem aFk.plt {p:Nat} {T:aC} {w:World} (h:aFk p T w):p<w.heap.size:=by obtain ⟨_,_,_,_,_,h⟩:=h;exact h
theorem aFk.all {p:Nat} {T:aC} {w w':World} (h:aFk p T w) (b:Below w.heap.size w w'):aFk p T w':=by
 obtain ⟨d,a,c,e,f,j⟩:=h;exact⟨d,a,c,aB b e,f.below b aA,bG j b.size⟩
theorem aDg {T:aC} {w:World} {d:Nat} {a:Option Addr} {n c:Nat} (h:cA aE3 (fun _=>False) w d 190 (.slice a n c) T.nums) {k:Nat} (e:k<T.nums.length):∃b o,a=some ⟨b,o,none⟩/\w.cell? ⟨b,o+k * 2,none⟩=some (.bool (numAt T k).1)/\w.cell? ⟨b,o+k * 2+1,none⟩=some (.bool (numAt T k).2):=
 (h.read (S':=fun _=>True) (fun _ _ _=>trivial) (fun _ _=>trivial)).numAt (aFh e)
def xP (T:aC) (xs:List Int) (k:Nat):Prop:=∀j,j<k->(numAt T (nth xs j)).1=true
theorem aAw {T:aC} {xs:List Int} (h:xP T xs xs.length):dB T xs=true:=by
 unfold dB;rw [oV];intro x b;obtain ⟨j,a,rfl⟩:=gU b;rw [<-cE a];exact h j a
theorem xQ {T:aC} {xs:List Int} {k:Nat} (a:k<xs.length) (h:(numAt T (nth xs k)).1=false):dB T xs=false:=by
 unfold dB;rw [List.all_eq_false];exact⟨nth xs k,cB a,by rw [h];decide⟩
def aUp (T:aC) (x:aZ) (w:World) (e:Ending) (w':World):Prop:=e = .returned (.agg #[.bool (dJ T x).1,.bool (dJ T x).2])/\Below w.heap.size w w'
theorem aXh (n:Nat):((n:Int) == 0)=decide (n=0):=by
 cases n with
 | zero=>rfl
 | succ n=>rw [aR (by omega)];simp;omega
theorem cV (w:World) (a b:Obj):Below w.heap.size w ((w.alloc a).alloc b):=(bJ).alloc (by simp) _
def pF (w wr:World) (x y:Bool):Prop:=Below w.heap.size w wr/\wr.heap[w.heap.size+1]? = some (.cells #[.bool x,.bool y] 190 (0,0))
theorem pF.start (w:World) (o:Obj) (x y:Bool):pF w ((w.alloc o).alloc (.cells #[.bool x,.bool y] 190)) x y:=⟨cV w _ _,eV w _ _⟩
theorem pF.set {w wr:World} {x y x' y':Bool} (h:pF w wr x y):pF w ((wr.setCell ⟨w.heap.size+1,0,none⟩ (.bool x')).setCell ⟨w.heap.size+1,1,none⟩ (.bool y')) x' y':=by
 refine⟨(h.1.setCell (by simp) _).setCell (by simp) _,?_⟩;unfold World.setCell;rw [iN,if_pos rfl,iN,if_pos rfl,h.2];rfl
theorem pF.drew {w wr:World} {x y:Bool} (h:pF w wr x y):pF w wr.drew x y:=⟨h.1.drewN 1,h.2⟩
theorem xR (p:Nat) (T:aC) (x:aZ) (a b g:Option Addr) (c d e:Nat) (w:World) (h:aFk p T w) (aL:jQ w g x.args.length x.args) (an:InT T x.args) (ba:x.args.length<1099511627776) (G:x.op=16->1<=x.args.length) (aK:T.nums.length=T.nodes.length) :
  Calls prog 137 #[.pointer (some ⟨p,0,none⟩),lI x a c b d g e] w fun e w'=>aUp T x w e w':=by
 have hd:=@Z (dJ T x=if x.op=11 then(true,decide (x.val.num.length=0)) else if x.op=14\/x.op=16 then(if dB T x.args then(if x.op=16\/x.args.length=1 then numAt T (nth x.args 0) else(false,false)) else(false,false)) else(false,false)) rfl;have ao:=Z an;have X:=Z aK;clear aK;obtain ⟨op,nm,⟨t,m,q⟩,args,z⟩:=x;dsimp only at *;have aE:Below w.heap.size w ((w.alloc (.cells #[.int .i64 op,.string nm,.bool t,.slice a m.length c,.slice b q.length d,.slice g args.length e,.int .i64 z] 38)).alloc (.cells #[.bool false,.bool false] 190)):=(bJ).alloc (by simp) _;have aX:=Z aE;have a9:=Z h;have aq:=Z aL;have bc:=Z h.plt;obtain ⟨a7,ag,c2,aU,O,_⟩:=h.all aE;have a6:((w.alloc (.cells #[.int .i64 op,.string nm,.bool t,.slice a m.length c,.slice b q.length d,.slice g args.length e,.int .i64 z] 38)).alloc (.cells #[.bool false,.bool false] 190)).cell? ⟨p,2,none⟩=some (.slice ag T.nums.length c2):=aU;have a4:=Z O;clear h an aE aL O;by_cases a3:op=11
 ·subst a3;have A:=@Z (dJ T ⟨11,nm,⟨t,m,q⟩,args,z⟩=(true,decide (m.length=0))) (by rw [hd.o];rfl);go_enter func137,ntmps137
  go_wp2;refine bodyPost_ret (v:=.agg #[.bool true,.bool ((m.length:Int) == 0)]) (by simp [results,results137,go_sem, *]) rfl ?_;exact⟨by rw [A.o,<-aXh],cV w _ _⟩
 by_cases V:op=14\/op=16
 case neg=>
  have A:=@Z (dJ T ⟨op,nm,⟨t,m,q⟩,args,z⟩=(false,false)) (by rw [hd.o,if_neg a3,if_neg V]);have bd:¬op=14:=fun e=>V (.inl e)
  have be:¬op=16:=fun e=>V (.inr e)
  clear V;go_enter func137,ntmps137
  go_wp2;refine bodyPost_ret (v:=.agg #[.bool false,.bool false]) (by simp [results,results137,go_sem, *]) rfl ?_;exact⟨by rw [A.o],cV w _ _⟩
 have ae:=@Z (dJ T ⟨op,nm,⟨t,m,q⟩,args,z⟩=(if dB T args then(if op=16\/args.length=1 then numAt T (nth args 0) else(false,false)) else(false,false))) (by rw [hd.o,if_neg a3,if_pos V]);clear hd a3;by_cases ah:op=16\/args.length=1
 case neg=>
  have a8:op=14:=by rcases V with e | e;exact e;exact absurd (.inl e) ah
  have aF:¬(args.length:Int)=1:=fun e=>ah (.inr (by omega))
  have aY:decide ((args.length:Int)=1)=false:=by simpa using aF
  have ai:=Z (pF.start w (.cells #[.int .i64 op,.string nm,.bool t,.slice a m.length c,.slice b q.length d,.slice g args.length e,.int .i64 z] 38) false false);clear V;subst a8;have ae:=@Z (dJ T ⟨14,nm,⟨t,m,q⟩,args,z⟩=(if dB T args then(false,false) else(false,false))) (by rw [ae.o,if_neg ah]);go_enter func137,ntmps137
  go_wp2
  go_loopw [6,42] (fun _ i wr=>∃k:Nat,k<=args.length/\i = .int .i64 k/\Hid (xP T args k)/\Hid (pF w wr false false)) (fun _ i _=>args.length - (intOf i).toNat)
  case atStart=>exact⟨0,aN,rfl,fun j f=>absurd f (oX _),ai.o⟩
  case round=>
   obtain ⟨k,aJ,rfl,G,ad⟩:=hrel;obtain ⟨C,I⟩:=ad.o;obtain ⟨aP,aR⟩:=kE I;obtain ⟨a1,a2⟩:=kX I;have ab:=Z C;by_cases P:k<args.length
   ·obtain ⟨aI,aO,am,H⟩:=(aq.o.below C aA).at k P;cases am;obtain ⟨J,N⟩:=ao.o (nth args k) (cB P);obtain ⟨j,f⟩:=fK J;obtain ⟨a7,ag,c2,av,O,_⟩:=a9.o.all C;have aa:j<T.nums.length:=by have:=X.o;omega
    have a5:(j:Int)<T.nums.length:=by have:=X.o;omega
    have aM:wr.cell? ⟨p,2,none⟩=some (.slice ag T.nums.length c2):=av;obtain ⟨U,Y,rfl,K,_⟩:=aDg O aa;have S:=@Z ((numAt T j).1=true->xP T args (k+1)) (fun e i an=>by
     by_cases ap:i<k
     ·exact G.o i ap
     ·obtain rfl:i=k:=by omega
      rw [f];exact e)
    have Q:=@Z ((numAt T j).1=false->dB T args=false) (fun e=>xQ P (by rw [f];exact e));rw [f] at H;clear O J N f G C I;cases B:(numAt T j).1
    case true=>
     have A:=Z (S.o B);rw [B] at K;clear Q S B;go_wp2
     go_roundw
     case rel=>exact⟨k+1,by omega,by go_num,A.o,ad.o⟩
     case measure=>simp [intOf];omega
    case false=>
     have A:=@Z (dJ T ⟨14,nm,⟨t,m,q⟩,args,z⟩=(false,false)) (by rw [ae.o,Q.o B];rfl);rw [B] at K;clear Q S B;go_wp2;refine bodyPost_ret (v:=.agg #[.bool false,.bool false]) (by simp [results,results137,go_sem, *]) rfl ?_;exact⟨by rw [A.o],(ab.o.setCell (by simp) _).setCell (by simp) _⟩
   ·have af:k=args.length:=by omega
    have A:=@Z (dJ T ⟨14,nm,⟨t,m,q⟩,args,z⟩=(false,false)) (by rw [ae.o,aAw (af ▸ G.o)] <;> rfl);clear af C I;go_wp2;refine bodyPost_ret (v:=.agg #[.bool false,.bool false]) (by simp [results,results137,go_sem, *]) rfl ?_;exact⟨by rw [A.o],(ab.o.setCell (by simp) _).setCell (by simp) _⟩
 by_cases aD:op=16
 case pos=>
  subst aD;have bb:=G rfl;clear V G;obtain ⟨b2,D,rfl,H⟩:=aq.o.at 0 (by omega);obtain ⟨J,N⟩:=ao.o (nth args 0) (cB (by omega));obtain ⟨j,f⟩:=fK J;rw [f] at H N;rw [cU] at H;have aa:j<T.nums.length:=by have:=X.o;omega
  have a5:(j:Int)<T.nums.length:=by have:=X.o;omega
  have aT:0<args.length:=by omega
  obtain ⟨U,Y,rfl,K,ax⟩:=aDg a4.o aa;have al:=@Z (dJ T ⟨16,nm,⟨t,m,q⟩,args,z⟩=(if dB T args then numAt T j else(false,false))) (by rw [ae.o,if_pos ah,f]);clear ae;generalize numAt T j=r at *;obtain ⟨L,M⟩:=r;have aj:=pF.start w (.cells #[.int .i64 16,.string nm,.bool t,.slice a m.length c,.slice b q.length d,.slice (some ⟨b2,D,none⟩) args.length e,.int .i64 z] 38) false false;have az:((w.alloc (.cells #[.int .i64 16,.string nm,.bool t,.slice a m.length c,.slice b q.length d,.slice (some ⟨b2,D,none⟩) args.length e,.int .i64 z] 38)).alloc (.cells #[.bool false,.bool false] 190)).cell? ⟨w.heap.size,5,none⟩=some (.slice (some ⟨b2,D,none⟩) args.length e):=E (fI w (Obj.cells #[.int .i64 16,.string nm,.bool t,.slice a m.length c,.slice b q.length d,.slice (some ⟨b2,D,none⟩) args.length e,.int .i64 z] 38) (Obj.cells #[.bool false,.bool false] 190)) 5;have a0:=Z az;have au:=Z a6;have aw:=Z K;have ar:=Z (aB (cV w (.cells #[.int .i64 16,.string nm,.bool t,.slice a m.length c,.slice b q.length d,.slice (some ⟨b2,D,none⟩) args.length e,.int .i64 z] 38) (.cells #[.bool false,.bool false] 190)) H);have ay:=Z ax;have ak:=Z aj;clear H a6 K ax az aj J N f a4;go_enter func137,ntmps137
  go_wp2;refine zG 10 (by kernel_rfl) (by kernel_rfl) ?_;intro W F;have aV:W.cell? ⟨b2,D,none⟩=some (.int .i64 j):=by rw [F];exact ar.o
  have m1:W.cell? ⟨p,2,none⟩=some (.slice (some ⟨U,Y,none⟩) T.nums.length c2):=by rw [F];exact au.o
  have m2:W.cell? ⟨w.heap.size,5,none⟩=some (.slice (some ⟨b2,D,none⟩) args.length e):=by rw [F];exact a0.o
  have m4:W.cell? ⟨U,Y+j * 2,none⟩=some (.bool L):=by rw [F];exact aw.o
  have m5:W.cell? ⟨U,Y+j * 2+1,none⟩=some (.bool M):=by rw [F];exact ay.o
  have R:pF w W false false:=by rw [F];exact ak.o.drew
  have aG:=E R.2 0;have aH:=E R.2 1;have a1:=aQ R.2 0;have a2:=aQ R.2 1;simp only [dW,fF,dS] at aG aH;have ai:=Z (R.set (x':=L) (y':=M));clear F ar au aw ay a0 ak R;simp only [yO,vQ,dL,cW]
  repeat still_step
  refine wpStill_nil ?_;have aW:((W.setCell ⟨w.heap.size+1,0,none⟩ (.bool L)).setCell ⟨w.heap.size+1,1,none⟩ (.bool M)).cell? ⟨w.heap.size,5,none⟩=some (.slice (some ⟨b2,D,none⟩) args.length e):=by
   rw [aCd _ _ _ _ (by simp),aCd _ _ _ _ (by simp)];exact m2
  go_wp2
  go_loopw [6,42] (fun _ i wr=>∃k:Nat,k<=args.length/\i = .int .i64 k/\Hid (xP T args k)/\Hid (pF w wr L M)) (fun _ i _=>args.length - (intOf i).toNat)
  case atStart=>exact⟨0,aN,rfl,fun j f=>absurd f (oX _),ai.o⟩
  case round=>
   obtain ⟨k,aJ,rfl,G,ad⟩:=hrel;obtain ⟨C,I⟩:=ad.o;obtain ⟨aP,aR⟩:=kE I;obtain ⟨a1,a2⟩:=kX I;have ab:=Z C;by_cases P:k<args.length
   ·obtain ⟨aI,aO,am,H⟩:=(aq.o.below C aA).at k P;cases am;obtain ⟨J,N⟩:=ao.o (nth args k) (cB P);obtain ⟨j,f⟩:=fK J;obtain ⟨a7,ag,c2,av,O,_⟩:=a9.o.all C;have aa:j<T.nums.length:=by have:=X.o;omega
    have a5:(j:Int)<T.nums.length:=by have:=X.o;omega
    have aM:wr.cell? ⟨p,2,none⟩=some (.slice ag T.nums.length c2):=av;obtain ⟨U,Y,rfl,K,_⟩:=aDg O aa;have S:=@Z ((numAt T j).1=true->xP T args (k+1)) (fun e i an=>by
     by_cases ap:i<k
     ·exact G.o i ap
     ·obtain rfl:i=k:=by omega
      rw [f];exact e)
    have Q:=@Z ((numAt T j).1=false->dB T args=false) (fun e=>xQ P (by rw [f];exact e));rw [f] at H;clear O J N f G C I;cases B:(numAt T j).1
    case true=>
     have A:=Z (S.o B);rw [B] at K;clear Q S B;go_wp2
     go_roundw
     case rel=>exact⟨k+1,by omega,by go_num,A.o,ad.o⟩
     case measure=>simp [intOf];omega
    case false=>
     have A:=@Z (dJ T ⟨16,nm,⟨t,m,q⟩,args,z⟩=(false,false)) (by rw [al.o,Q.o B];rfl);rw [B] at K;clear Q S B;go_wp2;refine bodyPost_ret (v:=.agg #[.bool false,.bool false]) (by simp [results,results137,go_sem, *]) rfl ?_;exact⟨by rw [A.o],(ab.o.setCell (by simp) _).setCell (by simp) _⟩
   ·have af:k=args.length:=by omega
    have A:=@Z (dJ T ⟨16,nm,⟨t,m,q⟩,args,z⟩=(L,M)) (by rw [al.o,aAw (af ▸ G.o)] <;> rfl);clear af C I;go_wp2;refine bodyPost_ret (v:=.agg #[.bool L,.bool M]) (by simp [results,results137,go_sem, *]) rfl ?_;exact⟨by rw [A.o],(ab.o.setCell (by simp) _).setCell (by simp) _⟩
 case neg=>
  have a8:op=14:=by rcases V with e | e;exact e;exact absurd e aD
  have aF:args.length=1:=by rcases ah with e | e;exact absurd e aD;exact e
  have aS:(args.length:Int)=1:=by omega
  subst a8;clear V G;obtain ⟨b2,D,rfl,H⟩:=aq.o.at 0 (by omega);obtain ⟨J,N⟩:=ao.o (nth args 0) (cB (by omega));obtain ⟨j,f⟩:=fK J;rw [f] at H N;rw [cU] at H;have aa:j<T.nums.length:=by have:=X.o;omega
  have a5:(j:Int)<T.nums.length:=by have:=X.o;omega
  have aT:0<args.length:=by omega
  obtain ⟨U,Y,rfl,K,ax⟩:=aDg a4.o aa;have al:=@Z (dJ T ⟨14,nm,⟨t,m,q⟩,args,z⟩=(if dB T args then numAt T j else(false,false))) (by rw [ae.o,if_pos ah,f]);clear ae;generalize numAt T j=r at *;obtain ⟨L,M⟩:=r;have aj:=pF.start w (.cells #[.int .i64 14,.string nm,.bool t,.slice a m.length c,.slice b q.length d,.slice (some ⟨b2,D,none⟩) args.length e,.int .i64 z] 38) false false;have az:((w.alloc (.cells #[.int .i64 14,.string nm,.bool t,.slice a m.length c,.slice b q.length d,.slice (some ⟨b2,D,none⟩) args.length e,.int .i64 z] 38)).alloc (.cells #[.bool false,.bool false] 190)).cell? ⟨w.heap.size,5,none⟩=some (.slice (some ⟨b2,D,none⟩) args.length e):=E (fI w (Obj.cells #[.int .i64 14,.string nm,.bool t,.slice a m.length c,.slice b q.length d,.slice (some ⟨b2,D,none⟩) args.length e,.int .i64 z] 38) (Obj.cells #[.bool false,.bool false] 190)) 5;have a0:=Z az;have au:=Z a6;have aw:=Z K;have ar:=Z (aB (cV w (.cells #[.int .i64 14,.string nm,.bool t,.slice a m.length c,.slice b q.length d,.slice (some ⟨b2,D,none⟩) args.length e,.int .i64 z] 38) (.cells #[.bool false,.bool false] 190)) H);have ay:=Z ax;have ak:=Z aj;clear H a6 K ax az aj J N f a4;clear aF;go_enter func137,ntmps137
  go_wp2;refine zG 10 (by kernel_rfl) (by kernel_rfl) ?_;intro W F;have aV:W.cell? ⟨b2,D,none⟩=some (.int .i64 j):=by rw [F];exact ar.o
  have m1:W.cell? ⟨p,2,none⟩=some (.slice (some ⟨U,Y,none⟩) T.nums.length c2):=by rw [F];exact au.o
  have m2:W.cell? ⟨w.heap.size,5,none⟩=some (.slice (some ⟨b2,D,none⟩) args.length e):=by rw [F];exact a0.o
  have m4:W.cell? ⟨U,Y+j * 2,none⟩=some (.bool L):=by rw [F];exact aw.o
  have m5:W.cell? ⟨U,Y+j * 2+1,none⟩=some (.bool M):=by rw [F];exact ay.o
  have R:pF w W false false:=by rw [F];exact ak.o.drew
  have aG:=E R.2 0;have aH:=E R.2 1;have a1:=aQ R.2 0;have a2:=aQ R.2 1;simp only [dW,fF,dS] at aG aH;have ai:=Z (R.set (x':=L) (y':=M));clear F ar au aw ay a0 ak R;simp only [yO,vQ,dL,cW]
  repeat still_step
  refine wpStill_nil ?_;clear aS;have aW:((W.setCell ⟨w.heap.size+1,0,none⟩ (.bool L)).setCell ⟨w.heap.size+1,1,none⟩ (.bool M)).cell? ⟨w.heap.size,5,none⟩=some (.slice (some ⟨b2,D,none⟩) args.length e):=by
   rw [aCd _ _ _ _ (by simp),aCd _ _ _ _ (by simp)];exact m2
  go_wp2
  go_loopw [6,42] (fun _ i wr=>∃k:Nat,k<=args.length/\i = .int .i64 k/\Hid (xP T args k)/\Hid (pF w wr L M)) (fun _ i _=>args.length - (intOf i).toNat)
  case atStart=>exact⟨0,aN,rfl,fun j f=>absurd f (oX _),ai.o⟩
  case round=>
   obtain ⟨k,aJ,rfl,G,ad⟩:=hrel;obtain ⟨C,I⟩:=ad.o;obtain ⟨aP,aR⟩:=kE I;obtain ⟨a1,a2⟩:=kX I;have ab:=Z C;by_cases P:k<args.length
   ·obtain ⟨aI,aO,am,H⟩:=(aq.o.below C aA).at k P;cases am;obtain ⟨J,N⟩:=ao.o (nth args k) (cB P);obtain ⟨j,f⟩:=fK J;obtain ⟨a7,ag,c2,av,O,_⟩:=a9.o.all C;have aa:j<T.nums.length:=by have:=X.o;omega
    have a5:(j:Int)<T.nums.length:=by have:=X.o;omega
    have aM:wr.cell? ⟨p,2,none⟩=some (.slice ag T.nums.length c2):=av;obtain ⟨U,Y,rfl,K,_⟩:=aDg O aa;have S:=@Z ((numAt T j).1=true->xP T args (k+1)) (fun e i an=>by
     by_cases ap:i<k
     ·exact G.o i ap
     ·obtain rfl:i=k:=by omega
      rw [f];exact e)
    have Q:=@Z ((numAt T j).1=false->dB T args=false) (fun e=>xQ P (by rw [f];exact e));rw [f] at H;clear O J N f G C I;cases B:(numAt T j).1
    case true=>
     have A:=Z (S.o B);rw [B] at K;clear Q S B;go_wp2
     go_roundw
     case rel=>exact⟨k+1,by omega,by go_num,A.o,ad.o⟩
     case measure=>simp [intOf];omega
    case false=>
     have A:=@Z (dJ T ⟨14,nm,⟨t,m,q⟩,args,z⟩=(false,false)) (by rw [al.o,Q.o B];rfl);rw [B] at K;clear Q S B;go_wp2;refine bodyPost_ret (v:=.agg #[.bool false,.bool false]) (by simp [results,results137,go_sem, *]) rfl ?_;exact⟨by rw [A.o],(ab.o.setCell (by simp) _).setCell (by simp) _⟩
   ·have af:k=args.length:=by omega
    have A:=@Z (dJ T ⟨14,nm,⟨t,m,q⟩,args,z⟩=(L,M)) (by rw [al.o,aAw (af ▸ G.o)] <;> rfl);clear af C I;go_wp2;refine bodyPost_ret (v:=.agg #[.bool L,.bool M]) (by simp [results,results137,go_sem, *]) rfl ?_;exact⟨by rw [A.o],(ab.o.setCell (by simp) _).setCell (by simp) _⟩
def fH (n:Nat) (w:World) (k:Nat):Prop:=dU w k/\n<=k
theorem bT.move {e:Type} {R:cH e} {n:Nat} {w w':World} {a:Option Addr} {m:Nat} {xs:List e} (h:bT R (fH n w) w a m xs) (d:∀k,dU w k->w'.heap[k]? = w.heap[k]?) (f:w.heap.size<=w'.heap.size):bT R (fH n w') w' a m xs:=
 (h.keep (fun b _ c=>d b c.1) f).mono fun b _ c=>⟨c.1.same (d b c.1),c.2⟩
theorem eD.move {n:Nat} {w w':World} {x:aZ} {a b g:Option Addr} {c d e:Nat} (h:eD (fH n w) w x a c b d g e) (f:∀k,dU w k->w'.heap[k]? = w.heap[k]?) (j:w.heap.size<=w'.heap.size):eD (fH n w') w' x a c b d g e:=
 ⟨h.num.move f j,h.nc,h.den.move f j,h.dc,h.args.move f j,h.ac,h.op,h.sort⟩
structure rW (w wr:World) (cs zs:Array Value):Prop where
 b:Below w.heap.size w wr
 n:wr.heap[w.heap.size]? = some (.cells cs 38 (0,0))
 r:wr.heap[w.heap.size+1]? = some (.cells zs 38 (0,0))
section
variable {w wr w' : World} {cs zs : Array Value}
theorem rW.lt (h:rW w wr cs zs):w.heap.size+1<wr.heap.size:=(bH h.r).1
theorem rW.all (h:rW w wr cs zs) (a:Below wr.heap.size wr w'):rW w w' cs zs:=
 ⟨h.b.trans (a.mono h.b.size),(a.block _ (by have:=h.lt;omega)).trans h.n,(a.block _ h.lt).trans h.r⟩
theorem rW.setN (h:rW w wr cs zs) (i:Nat) (v:Value):rW w (wr.setCell ⟨w.heap.size,i,none⟩ v) (cs.setIfInBounds i v) zs:=by
 refine⟨h.b.setCell aA _,?_,?_⟩
 ·unfold World.setCell;rw [iN,if_pos rfl,h.n];rfl
 ·rw [dZ _ _ _ _ (by simp)];exact h.r
theorem rW.setR (h:rW w wr cs zs) (i:Nat) (v:Value):rW w (wr.setCell ⟨w.heap.size+1,i,none⟩ v) cs (zs.setIfInBounds i v):=by
 refine⟨h.b.setCell (by simp) _,?_,?_⟩
 ·rw [dZ _ _ _ _ (by simp)];exact h.n
 ·unfold World.setCell;rw [iN,if_pos rfl,h.r];rfl
theorem rW.dat (h:rW w wr cs zs) {k:Nat} (a:dU wr k):k≠w.heap.size/\k≠w.heap.size+1:=
 ⟨fun e=>by subst e;exact dU.ne a (by decide) (by decide) ⟨_,_,h.n⟩,fun e=>by subst e;exact dU.ne a (by decide) (by decide) ⟨_,_,h.r⟩⟩
theorem rW.keepN (h:rW w wr cs zs) (i:Nat) (v:Value):∀k,dU wr k->(wr.setCell ⟨w.heap.size,i,none⟩ v).heap[k]? = wr.heap[k]?:=fun _ a=>dZ _ _ _ _ (fun e=>(h.dat a).1 e)
theorem rW.keepR (h:rW w wr cs zs) (i:Nat) (v:Value):∀k,dU wr k->(wr.setCell ⟨w.heap.size+1,i,none⟩ v).heap[k]? = wr.heap[k]?:=fun _ a=>dZ _ _ _ _ (fun e=>(h.dat a).2 e)
end
theorem Below.dat {w w':World} (a:Below w.heap.size w w'):∀k,dU w k->w'.heap[k]? = w.heap[k]?:=fun k b=>a.block k b.lt
theorem eX {w:World} {p:Addr} {v:Value}:(w.setCell p v).heap.size=w.heap.size:=by simp [World.setCell]
theorem cA.datF {w:World} {base n:Nat} {a:Option Addr} {m c:Nat} {xs:List Int} (h:cA cH.u64 (fun _=>False) w base 177 (.slice a m c) xs) (j:n<=base):bT cH.u64 (fH n w) w a m xs:=
 h.read (fun _ _ e=>e.elim) fun k b=>by
  obtain ⟨cs,f,d⟩:=h.ty k b;exact⟨⟨cs,f,.inr d⟩,aH j (h.lt k b).1⟩
theorem OwnRow.datF {w:World} {base n:Nat} {a:Option Addr} {m c:Nat} {xs:List Int} (h:w.ownsRow base 3 1 (.slice a m c) m (xs.map (Value.int .i64))) (t:WfI xs) (r:n<=base):bT cH.int (fH n w) w a m xs/\m<=c/\c<=maxLen:=by
 obtain ⟨_,e,j⟩:=aIt (X:=fun k=>k<n) h t (fun k q=>bG q r);exact⟨e.mono fun b _ d=>⟨by obtain ⟨_,cs,f,p⟩:=d;exact⟨cs,f,.inl p⟩,Nat.le_of_not_lt d.1⟩,j⟩
def aDh (n:Nat) (w:World) (k:Nat):Prop:=(∃cs f,w.heap[k]? = some (.cells cs 177 f))/\n<=k
structure aL3 (n:Nat) (w:World) (x:aZ) (a:Option Addr) (c:Nat) (b:Option Addr) (d:Nat) (g:Option Addr) (e:Nat):Prop where
 ow:aW w n 3 1 (.slice g x.args.length e) x.args.length (x.args.map (Value.int .i64))
 num:bT cH.u64 (aDh n w) w a x.val.num.length x.val.num
 den:bT cH.u64 (aDh n w) w b x.val.den.length x.val.den
theorem aDh.dat {n:Nat} {w:World} {k:Nat} (h:aDh n w k):dU w k:=by obtain ⟨⟨cs,f,h⟩,_⟩:=h;exact⟨cs,f,.inr h⟩
theorem aDh.same {n:Nat} {w w':World} {k:Nat} (h:aDh n w k) (b:w'.heap[k]? = w.heap[k]?):aDh n w' k:=by obtain ⟨⟨cs,f,h⟩,a⟩:=h;exact⟨⟨cs,f,by rw [b];exact h⟩,a⟩
theorem bT.moveU {n:Nat} {w w':World} {a:Option Addr} {m:Nat} {xs:List Int} (h:bT cH.u64 (aDh n w) w a m xs) (d:∀k,dU w k->w'.heap[k]? = w.heap[k]?) (e:w.heap.size<=w'.heap.size):bT cH.u64 (aDh n w') w' a m xs:=
 (h.keep (fun b _ c=>d b c.dat) e).mono fun b _ c=>c.same (d b c.dat)
theorem aW.dat {w:World} {n s m:Nat} {v:Value} {xs:List Value} (h:aW w n 3 s v m xs):∀k,v.ownBlock=some k->dU w k:=fun k b=>by obtain ⟨cs,f,a⟩:=h.ty k b;exact⟨cs,f,.inl a⟩
theorem aL3.move {n:Nat} {w w':World} {x:aZ} {a b g:Option Addr} {c d e:Nat} (h:aL3 n w x a c b d g e) (f:∀k,dU w k->w'.heap[k]? = w.heap[k]?) (j:w.heap.size<=w'.heap.size):aL3 n w' x a c b d g e:=
 ⟨h.ow.same fun k m=>f k (h.ow.dat k m),h.num.moveU f j,h.den.moveU f j⟩
theorem cA.datU {w:World} {base n:Nat} {a:Option Addr} {m c:Nat} {xs:List Int} (h:cA cH.u64 (fun _=>False) w base 177 (.slice a m c) xs) (j:n<=base):bT cH.u64 (aDh n w) w a m xs:=
 h.read (fun _ _ e=>e.elim) fun k b=>by
  obtain ⟨cs,f,d⟩:=h.ty k b;exact⟨⟨cs,f,d⟩,aH j (h.lt k b).1⟩
def aXi (x:aZ) (w:World) (e:Ending) (w':World):Prop:=
 ∃a c b d g h,e = .returned (lI x a c b d g h)/\eD (fH w.heap.size w') w' x a c b d g h/\aL3 w.heap.size w' x a c b d g h/\Below w.heap.size w w'
def aYi (x:aZ) (w:World) (e:Ending) (w':World):Prop:=
 ∃a c b d g h,e = .returned (lI x a c b d g h)/\eD (fH w.heap.size w') w' x a c b d g h/\Below w.heap.size w w'
theorem aJb {S:Nat->Prop} (x:aZ) (a b g:Option Addr) (c d e:Nat) (w:World) (K:eD S w x a c b d g e) (aO:x.val.num.length<17592186044416) (aP:x.val.den.length<17592186044416) (aR:x.args.length<17592186044416) :
  Calls prog 70 #[lI x a c b d g e] w fun e w'=>aXi x w e w':=by
 have ak:=Z K;have aU:=Z (show WfI x.args from K.args.toI.wf);have aS:=Z K.op;have aT:=Z K.sort;obtain ⟨op,nm,⟨D,p,m⟩,args,F⟩:=x;dsimp only at *;have V:rW w ((w.alloc (.cells #[.int .i64 op,.string nm,.bool D,.slice a p.length c,.slice b m.length d,.slice g args.length e,.int .i64 F] 38)).alloc (.cells #[.int .i64 0,.string ByteArray.empty,.bool false,.slice none 0 0,.slice none 0 0,.slice none 0 0,.int .i64 0] 38)) _ _:=⟨cV w _ _,fI w _ _,eV w _ _⟩;have ad:=Z V;have ag:=Z (aFg g args.length e args _ (K.args.toI.below V.b aA) aR);clear K V;go_enter func70,ntmps70
 go_wp2_with fail
 refine ag.o.mono ?_;rintro bm ab ⟨A,z,rfl,aa,ae⟩;obtain ⟨aj,ah,ai⟩:=OwnRow.datF (n:=w.heap.size) aa aU.o (by simp;omega);have L:=Z (ad.o.all ae);have ay:=Z aj;have P1:=Z ((aW.of aa).lower (base':=w.heap.size) (by simp;omega));have Q:=E L.o.n 5;have aJ:=aQ L.o.n 5;simp only [dW,fF,dS] at Q;have ao:=Z ah;have ap:=Z ai;clear aa ae aj ag ad ah ai;go_wp2;have G:=Z (L.o.setN 5 (.slice A args.length z));have az:=Z (ay.o.move (L.o.keepN 5 _) (cD eX.symm) (w':=ab.setCell ⟨w.heap.size,5,none⟩ (.slice A args.length z)));have P2:=Z (P1.o.same (w':=ab.setCell ⟨w.heap.size,5,none⟩ (.slice A args.length z)) fun k Y=>L.o.keepN 5 _ k (P1.o.dat k Y));generalize aL:ab.setCell ⟨w.heap.size,5,none⟩ (.slice A args.length z)=q at *;have al:q.cell? ⟨w.heap.size,3,none⟩=some (.slice a p.length c):=E G.o.n 3;have am:q.cell? ⟨w.heap.size,4,none⟩=some (.slice b m.length d):=E G.o.n 4;have aM:=Z (fun(W:World) (X:Below q.heap.size q W)=>eF a p.length c p W (ak.o.num.below (G.o.b.trans (X.mono G.o.b.size)) aA) aO);have aN:=Z (fun(W:World) (X:Below q.heap.size q W)=>eF b m.length d m W (ak.o.den.below (G.o.b.trans (X.mono G.o.b.size)) aA) aP);have P:=G.o.b.size;clear aL Q aJ;refine bF (S:=fun W=>Below q.heap.size q W) 10 (by kernel_rfl) (by kernel_rfl) (aF q) (fun _=>?_);refine aE 0 ?_;refine aE 1 ?_;refine dF 2 (fun W h=>aB h al) ?_;refine aE 4 ?_;refine aE 5 ?_;refine dF 6 (fun W h=>aB h am) ?_;refine aV 3 fun T M=>?_;go_simp
 go_at_call 120
 refine(aM.o _ (by assumption)).mono ?_;rintro bn bl ⟨B,c3,rfl,N,af⟩;have H:Below q.heap.size q bl:=(aF q).trans (af.mono (aF q).size);have au:=Z (N.datF (n:=w.heap.size) (by exact P));have a4:=Z (N.datU (n:=w.heap.size) (by exact P));have aq:=Z N.slice;clear N af;dsimp only;refine M.out _ _ (by(exact H)) (fun hHeld2=>?_);clear M T;(try simp only [Act.put,sA,sB,sC]);refine aE 8 ?_;refine aE 9 ?_;refine aV 7 fun T M=>?_;go_simp
 go_at_call 120
 refine(aN.o _ H).mono ?_;rintro bo R ⟨C,c4,rfl,O,J⟩;have I:Below q.heap.size q R:=H.trans (J.mono H.size);have aw:=Z (O.datF (n:=w.heap.size) (aH P H.size));have av:=Z (au.o.move (Below.dat J) J.size);have a6:=Z (O.datU (n:=w.heap.size) (aH P H.size));have a5:=Z (a4.o.moveU (Below.dat J) J.size);have ar:=Z O.slice;clear O J;dsimp only;refine M.out _ _ (by(exact I)) (fun hHeld3=>?_);clear M T;(try simp only [Act.put,sA,sB,sC]);refine cF (by decide +kernel) ?_;simp only [dL,cW];have f:=Z (G.o.all I);have a0:=Z (az.o.move (Below.dat I) I.size);have ax:=Z (P2.o.same fun k Y=>Below.dat I k (P2.o.dat k Y));clear H I al am;have aX:=E f.o.n 0;have aY:=E f.o.n 1;have ba:=E f.o.n 2;have bb:=E f.o.n 3;have bc:=E f.o.n 4;have Q:=E f.o.n 5;have bd:=E f.o.n 6;have be:=E f.o.r 0;have bf:=E f.o.r 1;have bg:=E f.o.r 2;have bh:=E f.o.r 3;have bi:=E f.o.r 4;have bj:=E f.o.r 5;have bk:=E f.o.r 6;have bp:=aQ f.o.n 3;have bq:=aQ f.o.n 4;have br:=aQ f.o.r 0;have bs:=aQ f.o.r 1;have bt:=aQ f.o.r 2;have bu:=aQ f.o.r 3;have bv:=aQ f.o.r 4;have bw:=aQ f.o.r 5;have bx:=aQ f.o.r 6;simp only [List.size_toArray,fQ,aCs,xH,dW,fF,dS,Nat.reduceEqDiff,if_false,if_true,Nat.reduceLT,Nat.reduceAdd] at aX aY ba bb bc Q bd be bf bg bh bi bj bk;go_wp2;refine bodyPost_ret (v:=lI ⟨op,nm,⟨D,p,m⟩,args,F⟩ B c3 C c4 A z) (by simp [results,results70,go_sem, *]) rfl ?_;have U:=f.o.setN 3 (.slice B p.length c3);have aC:=U.setN 4 (.slice C m.length c4);have a1:eD (fH w.heap.size R) R ⟨op,nm,⟨D,p,m⟩,args,F⟩ B c3 C c4 A z:=⟨av.o,by obtain ⟨_,_,e,h⟩:=aq.o;cases e;exact h,aw.o,by obtain ⟨_,_,e,h⟩:=ar.o;cases e;exact h,a0.o,⟨ao.o,ap.o⟩,aS.o,aT.o⟩;have a7:aL3 w.heap.size R ⟨op,nm,⟨D,p,m⟩,args,F⟩ B c3 C c4 A z:=⟨ax.o,a5.o,a6.o⟩;have a2:=a1.move (f.o.keepN 3 (.slice B p.length c3)) (cD eX.symm);have a8:=a7.move (f.o.keepN 3 (.slice B p.length c3)) (cD eX.symm);have a3:=a2.move (U.keepN 4 (.slice C m.length c4)) (cD eX.symm);have a9:=a8.move (U.keepN 4 (.slice C m.length c4)) (cD eX.symm);have aK:∀(l:List (Nat × Value)) (W:World) (cs zs:Array Value),rW w W cs zs->eD (fH w.heap.size W) W ⟨op,nm,⟨D,p,m⟩,args,F⟩ B c3 C c4 A z->aL3 w.heap.size W ⟨op,nm,⟨D,p,m⟩,args,F⟩ B c3 C c4 A z->∃an,rW w (l.foldl (fun W j=>W.setCell ⟨w.heap.size+1,j.1,none⟩ j.2) W) cs an/\eD (fH w.heap.size (l.foldl (fun W j=>W.setCell ⟨w.heap.size+1,j.1,none⟩ j.2) W)) (l.foldl (fun W j=>W.setCell ⟨w.heap.size+1,j.1,none⟩ j.2) W) ⟨op,nm,⟨D,p,m⟩,args,F⟩ B c3 C c4 A z/\aL3 w.heap.size (l.foldl (fun W j=>W.setCell ⟨w.heap.size+1,j.1,none⟩ j.2) W) ⟨op,nm,⟨D,p,m⟩,args,F⟩ B c3 C c4 A z:=by
  intro l
  induction l with
  | nil=>exact fun W cs zs h t v=>⟨zs,h,t,v⟩
  | cons j l ih=>exact fun W cs zs h t v=>ih _ cs _ (h.setR j.1 j.2) (t.move (h.keepR j.1 j.2) (cD eX.symm)) (v.move (h.keepR j.1 j.2) (cD eX.symm))
 obtain ⟨an,aD,aG,aI⟩:=aK [(0,.int .i64 op),(1,.string nm),(2,.bool D),(3,.slice B p.length c3),(4,.slice C m.length c4),(5,.slice A args.length z),(6,.int .i64 F)] _ _ _ aC a3 a9;exact⟨B,c3,C,c4,A,z,rfl,aG,aI,aD.b⟩
theorem aOe {S:Nat->Prop} (x:aZ) (a b g:Option Addr) (c d e:Nat) (w:World) (r:eD S w x a c b d g e) (m:x.val.num.length<17592186044416) (p:x.val.den.length<17592186044416) (q:x.args.length<17592186044416) :
  Calls prog 70 #[lI x a c b d g e] w fun e w'=>aYi x w e w':=
 (aJb x a b g c d e w r m p q).mono fun _ _ h=>by obtain ⟨a,c,b,d,g,h,f,j,_,k⟩:=h;exact⟨a,c,b,d,g,h,f,j,k⟩
theorem aDi (B b:Nat) (bs:List Value) (w:World) (h:IsB B b bs w) :
  Calls prog 206 #[.pointer (some ⟨b,0,none⟩)] w fun e w'=>e = .returned (.tuple #[])/\(BAt B b (.pointer (some ⟨b,0,none⟩)) bs w'/\Below B w w'/\∀k,k≠b->w'.heap[k]? = w.heap[k]?):=by
 rcases h with h | h
 ·refine(aB4 b w h.cell0 h.shape h.frozen0).mono ?_;rintro e w' ⟨rfl,rfl⟩;exact⟨rfl,h.used _,(aO B w).setCell (p:=⟨b,0,none⟩) h.1 _,fun k a=>dZ _ _ _ _ (fun e=>a e)⟩
 ·refine(aDd b w h.cell0).mono ?_;rintro e w' ⟨rfl,rfl⟩;exact⟨rfl,h,aO B _,fun _ _=>rfl⟩
def aRf (w w':World):Prop:=∀(k:Nat) (cs:Array Value) (t:TypeId) (f:Nat × Nat),w.heap[k]? = some (Obj.cells cs t f)->t≠216->t≠5->w'.heap[k]? = w.heap[k]?
theorem aL4 (B b:Nat) (bs:List Value) (s:ByteArray) (w:World) (h:IsB B b bs w) (ag:bs.length+s.size<=140737488355328) (af:B<=w.heap.size) :
  Calls prog 175 #[.pointer (some ⟨b,0,none⟩),.string s] w fun e w'=>e = .returned (.tuple #[.int .i64 s.size,.nilIface])/\(BAt B b (.pointer (some ⟨b,0,none⟩)) (bs++Lib.strCells s) w'/\Below B w w'/\aRf w w'):=by
 obtain ⟨X,N,U,V,W⟩:=info_parts aUo;go_enter func175,ntmps175
 go_wp2_with fail
 refine(aDi B b bs _ h).mono ?_;rintro e a ⟨rfl,L,A,P⟩;obtain ⟨H,v,j,E,S⟩:=L;have aa:a.cell? ⟨b,0,none⟩=some (.pointer (some ⟨b,0,none⟩)):=by rw [aCr j];rfl
 have c1:a.cell? ⟨b,1,none⟩=some v:=by rw [aCr j];rfl
 go_wp2_with (at_builtin;refine Lib.wpList_append_own_string _ rfl _ _ 214 9 rfl B 5 X underlying214 underlying9 N U V W _ _ _ rfl E s rfl ?c3 ?c4 ?c5 ?_)
 case c3=>unfold maxLen;omega
 case c4=>omega
 case c5=>have:=A.size;omega
 intro v' m J D _;have R:b<a.heap.size:=by
  rcases nZ b a.heap.size with x | x
  ·exact x
  ·simp [aGn x] at j
 have d:m.heap[b]? = some (.cells #[.pointer (some ⟨b,0,none⟩),v] 216 (0,0)):=by
  rw [D.block b R (fun e=>S e.symm)];exact j
 have ab:m.cell? ⟨b,0,none⟩=some (.pointer (some ⟨b,0,none⟩)):=by rw [aCr d];rfl
 have ad:m.cell? ⟨b,1,none⟩=some v:=by rw [aCr d];rfl
 have ae:m.frozen? ⟨b,1,none⟩=false:=Lib.frozen_of_heap d 1;obtain ⟨G,K,r,rfl⟩:∃G K r,v' = .slice G K r:=by
  rcases J.2 with ⟨F,_⟩ | ⟨g,r,cur,F,_⟩
  ·exact⟨_,_,_,F⟩
  ·exact⟨_,_,_,F⟩
 go_wp2;go_ret2;refine⟨rfl,?_,?_,fun k cs t f C Y Z=>?_⟩
 ·exact Lib.BuilderAt.put (T:=216) (e:=5) H d (bs':=bs++Lib.strCells s) (by simpa [Lib.strCells_length] using J) (by decide)
 ·exact(A.grown D (by have:=A.size;omega) (fun k O=>(E.lt k O).1)).setCell (p:=⟨b,1,none⟩) H _
 ·have I:k≠b:=fun e=>by
   subst e;obtain ⟨q,ah,M⟩:∃p v,w.heap[k]? = some (.cells #[p,v] 216 (0,0)):=by
    rcases h with h | h
    ·obtain ⟨_,v,z,_⟩:=h;exact⟨_,v,z⟩
    ·obtain ⟨_,v,z,_⟩:=h;exact⟨_,v,z⟩
   have e:=M.symm.trans C;injection e with e
   injection e with _ e2
   exact Y e2.symm
  have c:=P k I;have Q:k<a.heap.size:=by
   rw [C] at c;exact(bH c).1
  rw [dZ _ _ _ _ (fun e=>I e),D.block k Q (fun e=>?_),c];exact vP E (c.trans C) Z e.symm
def iK (n:Int):ByteArray:=⟨(Lib.itoa n).toArray⟩
theorem aDj (n:Int) (a:eI n) (w:World) (b:lF w):Calls prog 122 #[.int .i64 n] w fun e w'=>e = .returned (.string (iK n))/\Below w.heap.size w w':=by
 refine(Tryz.strconv_Itoa n a.1 a.2 w b.pow).mono ?_;rintro e w' ⟨rfl,k,os,rfl⟩;exact⟨rfl,Lib.below_grow _ w aA k os⟩
theorem aPa (s:ByteArray) (b:s.size<=1000000) (w:World) (a:lF w):Calls prog 176 #[.string s] w fun e w'=>e = .returned (.string (strOfNums (Lib.quoteZ Lib.goPrintTabs s)))/\Below w.heap.size w w':=
 Tryz.strconv_Quote Lib.goPrintTabs s w (by omega) a.prt a.utf
theorem aFl (n:Nat):iK n=⟨(Lib.decDigits n).toArray⟩:=by unfold iK;rw [Lib.itoa_nonneg]
theorem aPb (n:Nat) (c:n<100) (w:World):Calls prog 209 #[.int .u64 n,.int .i64 10] w fun e w'=>e = .returned (.string (iK n))/\Below w.heap.size w w':=by
 have d:(n:Int)<100:=by omega
 have b:=Z (Tryz.internal_strconv_small n c w);have a:=Z (aFl n);go_enter func209,ntmps209
 go_wp2_with fail
 refine b.o.mono ?_;rintro e w' ⟨rfl,rfl⟩;go_wp2;go_ret;exact⟨by rw [a.o];rfl,aO _ _⟩
theorem aUq (u:Nat) (G:100<=u) (p:u<18446744073709551616) (w:World) (x:lF w):Calls prog 209 #[.int .u64 u,.int .i64 10] w fun e w'=>e = .returned (.string (iK u))/\Below w.heap.size w w':=by
 have D:1<=u:=by omega
 have H:Lib.nDigits u<=20:=Lib.nDigits_le20 u p;have q:Tryz.prog.arrayLen 262=24:=by kernel_rfl
 have I:∀W,(Instr.sliceAt 262 (.pointer (some ⟨w.heap.size,0,none⟩)) none (some (.int .i64 (Lib.nDigits u:Int))) none).run prog W = .ok (.slice (some ⟨w.heap.size,0,none⟩) (Lib.nDigits u) 24) W:=fun W=>by
  rw [run_sliceAt_array_h W 262 ⟨w.heap.size,0,none⟩ (by kernel_rfl) .i64 (Lib.nDigits u:Int) (by omega) (by rw [q];omega)];go_simp
 have d:=Lib.holds_zero0 w 262 (Lib.nDigits u) (by omega);have f:=Tryz.internal_strconv_formatBase10 w.heap.size 0 24 u (Array.replicate (Lib.nDigits u) 0) (w.alloc (.cells Lib.zeros24 262)) d (by rw [aCi];exact Lib.lt_pow_nDigits u) p (by rw [aCi];omega);rw [aCi] at f;have r:=Z d;have C:=Z (Tryz.internal_strconv_numDigits u D p (w.alloc (.cells Lib.zeros24 262)) (Lib.tabIs_alloc x.pow _));have B:=Z f;have A:=Z (aFl u);have E:¬((u:Int)<100):=by omega
 have J:decide ((u:Int)<100)=false:=by simpa using E
 clear d q f;go_enter func209,ntmps209
 go_wp2_with fail
 refine C.o.mono ?_;rintro e w' ⟨rfl,rfl⟩
 go_wp2_with fail
 refine B.o.mono ?_;rintro e w' ⟨rfl,k,v',a,rfl,c⟩;have z:=@Z ((convert 214 9 (.slice (some ⟨w.heap.size,0,none⟩) (Lib.nDigits u) 24)).run prog ((putRow (fun(b:UInt8)=>Value.int .u8 (b.toNat:Int)) (w.alloc (.cells Lib.zeros24 262)) w.heap.size 0 a).drewN k) = .ok (.string ⟨(Lib.decDigits u).toArray⟩) ((putRow (fun(b:UInt8)=>Value.int .u8 (b.toNat:Int)) (w.alloc (.cells Lib.zeros24 262)) w.heap.size 0 a).drewN k)) (by
  have h:=run_convert_bytes_back (P:=prog) ((putRow (fun(b:UInt8)=>Value.int .u8 (b.toNat:Int)) (w.alloc (.cells Lib.zeros24 262)) w.heap.size 0 a).drewN k) 214 9 5 ⟨w.heap.size,0,none⟩ 24 (Lib.decDigits u) underlying214 underlying5 underlying9 (fun j m=>by
   rw [Lib.row_is_numeral c j m,Lib.add_plain,World.cell?_drewN];exact cell?_putRow (fun(b:UInt8)=>Value.int .u8 (b.toNat:Int)) _ w.heap.size 0 _ a r.o (by rw [c.size,aCi]) j (by rw [c.size];rw [aGu] at m;exact m))
  rw [aGu] at h;exact h)
 have v:=Z (show Below w.heap.size w ((putRow (fun(b:UInt8)=>Value.int .u8 (b.toNat:Int)) (w.alloc (.cells Lib.zeros24 262)) w.heap.size 0 a).drewN k) from by
  obtain ⟨os,t⟩:=Lib.fin_at w (.cells Lib.zeros24 262) a k 0;rw [t];exact Lib.below_grow _ w aA k os)
 clear c;generalize (putRow (fun(b:UInt8)=>Value.int .u8 (b.toNat:Int)) (w.alloc (.cells Lib.zeros24 262)) w.heap.size 0 a).drewN k=K at *;have F:=z.o;go_wp2;go_ret;exact⟨by rw [A.o];rfl,v.o⟩
theorem aWr (n:Nat) (b:n<18446744073709551616) (w:World) (a:lF w):Calls prog 209 #[.int .u64 n,.int .i64 10] w fun e w'=>e = .returned (.string (iK n))/\Below w.heap.size w w':=by
 by_cases h:n<100
 ·exact aPb n h w
 ·exact aUq n (by omega) b w a
theorem aUr (n:Nat) (f:n<18446744073709551616) (w:World) (a:lF w):Calls prog 178 #[.int .u64 n,.int .i64 10] w fun e w'=>e = .returned (.string (iK n))/\Below w.heap.size w w':=by
 have d:=Z (aWr n f w a);clear a;go_enter func178,ntmps178
 go_wp2_with fail
 refine d.o.mono ?_;rintro e w' ⟨rfl,b⟩;have c:=Z b;clear b;go_wp2;go_ret;exact⟨rfl,c.o⟩
structure uP (w wr:World) (cs:Array Value) (l:List UInt8):Prop where
 b:Below w.heap.size w wr
 n:wr.heap[w.heap.size]? = some (.cells cs 38 (0,0))
 k:IsB w.heap.size (w.heap.size+1) (Lib.byteCells l) wr
section
variable {w wr w' : World} {cs : Array Value} {l : List UInt8}
theorem BAt.all {B b:Nat} {p:Value} {bs:List Value} (h:BAt B b p bs wr) (d:Below wr.heap.size wr w'):BAt B b p bs w':=by
 obtain ⟨k,v,a,c,j⟩:=h;refine⟨k,v,(d.block b (bH a).1).trans a,⟨c.1,c.2.imp id fun⟨g,f,cur,m,q,e,r⟩=>⟨g,f,cur,m,q,(d.block g (bH e).1).trans e,r⟩⟩,j⟩
theorem uP.all (h:uP w wr cs l) (a:Below wr.heap.size wr w'):uP w w' cs l:=
 ⟨h.b.trans (a.mono h.b.size),(a.block _ (bH h.n).1).trans h.n,h.k.imp (fun h=>BAt.all h a) (fun h=>BAt.all h a)⟩
theorem uP.start (w:World) (cs:Array Value):uP w ((w.alloc (.cells cs 38)).alloc (.cells #[.pointer none,.slice none 0 0] 216)) cs []:=
 ⟨cV w _ _,fI w _ _,.inl ⟨tL _,.slice none 0 0,eV w _ _,yU _ _ _ _,by simp [Value.ownBlock]⟩⟩
theorem aDk (s:ByteArray) (h:uP w wr cs l) (f:l.length<=100000000) (j:s.size<=100000000):Calls prog 175 #[.pointer (some ⟨w.heap.size+1,0,none⟩),.string s] wr fun e w'=>e = .returned (.tuple #[.int .i64 s.size,.nilIface])/\uP w w' cs (l++s.data.toList)/\aRf wr w':=by
 refine(aL4 w.heap.size (w.heap.size+1) (Lib.byteCells l) s wr h.k (by simp [Lib.byteCells];omega) h.b.size).mono ?_;rintro e w' ⟨rfl,c,d,a⟩;refine⟨rfl,⟨h.b.trans d,a _ _ _ _ h.n (by decide) (by decide) |>.trans h.n,.inr ?_⟩,a⟩;have:Lib.byteCells (l++s.data.toList)=Lib.byteCells l++Lib.strCells s:=by simp [Lib.byteCells,Lib.strCells]
 rw [this];exact c
end
theorem gO (s:ByteArray):s.size=s.data.toList.length:=by simp
theorem nD {n:Int} (h:eI n):(Lib.itoa n).length<=21:=Lib.itoa_length_le n h.1 h.2
theorem aFm (s:ByteArray):(xL s).length<=10 * s.size+2:=by
 unfold xL;rw [<-gO,strOfNums_size];exact Lib.quoteZ_length_le _ s
theorem aL5 {xs:List Int} {k:Nat} (a:k<xs.length):kK (xs.take (k+1))=kK (xs.take k)++(32 :: Lib.itoa (nth xs k)):=by
 unfold kK;rw [jD a,List.flatMap_append,cE a];simp
theorem aJc {xs:List Int} {k:Nat} (a:k<xs.length):gG (xs.take (k+1))=gG (xs.take k)++(Lib.itoa (nth xs k) ++ [44]):=by
 unfold gG;rw [jD a,List.flatMap_append,cE a];simp
theorem aJd {xs:List Int} (h:∀x∈xs,eI x):(kK xs).length<=22 * xs.length:=by
 induction xs with
 | nil=>simp [kK]
 |
  cons x xs ih=>
  have a:=nD (h x (by simp));have b:=ih fun y hy=>h y (by simp [hy])
  unfold kK at *;rw [pY,dM,fQ,fQ];omega
theorem aJe {n:Int} (h:okU n):(Lib.itoa n).length<=21:=by
 obtain ⟨m,rfl⟩:=fK h.1;have a:=h.2;have:=Lib.nDigits_le20 m (by omega);rw [Lib.itoa_nonneg,aGu];omega
theorem vU {xs:List Int} (h:∀x∈xs,okU x):(gG xs).length<=22 * xs.length:=by
 induction xs with
 | nil=>simp [gG]
 |
  cons x xs ih=>
  have a:=aJe (h x (by simp));have b:=ih fun y hy=>h y (by simp [hy])
  unfold gG at *;simp only [pY,dM,fQ,aCs];omega
theorem aJf {x:aZ} (a:eI x.op) (b:eI x.sort) (c:x.name.size<=1000000):(aDe x).length<=10000100:=by
 have:=nD a;have:=nD b;have:=aFm x.name;unfold aDe;simp only [dM,fQ];omega
def aWs (xs:List Int):Prop:=∀x∈xs,okU x
structure aFn (x:aZ):Prop where
 name:x.name.size<=1000000
 num:x.val.num.length<=1000000
 den:x.val.den.length<=1000000
 args:x.args.length<=1000000
 low:x.op=11->aWs x.val.num/\aWs x.val.den
def aDl (l:List UInt8) (nu de:List Int):Nat->List UInt8
 | 0=>l
 | 1=>l++47 :: gG nu
 | _=>(l++47 :: gG nu)++47 :: gG de
theorem aUs {S:Nat->Prop} (x:aZ) (a b g:Option Addr) (c d e:Nat) (w:World) (t:eD S w x a c b d g e) (F:aFn x) (aG:lF w) :
  Calls prog 136 #[lI x a c b d g e] w fun e w'=>e = .returned (.string (kT x))/\Below w.heap.size w w':=by
 have bl:=Z t;have Y:=Z aG;have Q:=Z F;have ar:=Z t.args.toI;have be:=Z t.op;have bk:=Z t.sort;have aR:=Z (aJf t.op t.sort F.name);have bB:=@Z (aDe x=Lib.itoa x.op++32 :: (Lib.itoa x.sort++32 :: xL x.name)) rfl;have aW:=@Z (aHf x=aDe x++(kK x.args++aO8 x)) rfl;have bd:=@Z (aO8 x=if x.op=11 then 32 :: (Lib.formatBool x.val.neg++47 :: (gG x.val.num++47 :: gG x.val.den)) else []) rfl;have aT:=@Z (kT x=⟨(aHf x).toArray⟩) rfl;have co:=F.args;obtain ⟨op,nm,⟨q,m,p⟩,args,r⟩:=x;dsimp only at *;generalize b0:aDe ⟨op,nm,⟨q,m,p⟩,args,r⟩=v at *;generalize b6:aO8 ⟨op,nm,⟨q,m,p⟩,args,r⟩=N at *;generalize b3:aHf ⟨op,nm,⟨q,m,p⟩,args,r⟩=cd at *;generalize b1:kT ⟨op,nm,⟨q,m,p⟩,args,r⟩=ai at *;clear b0 b6 b3 b1;have K:=uP.start w #[.int .i64 op,.string nm,.bool q,.slice a m.length c,.slice b p.length d,.slice g args.length e,.int .i64 r];have L:=Z K;have az:=E K.n 0;have a1:=E K.n 6;have a0:=E K.n 1;simp only [dW,fF,dS] at az a1 a0;clear t F aG K;go_enter func136,ntmps136
 go_wp2_with fail
 generalize b8:(w.alloc (.cells #[.int .i64 op,.string nm,.bool q,.slice a m.length c,.slice b p.length d,.slice g args.length e,.int .i64 r] 38)).alloc (.cells #[.pointer none,.slice none 0 0] 216)=w0 at *;clear b8;have aq:=Z (fun(n:Int) (bJ:eI n) (W:World) (an:Below w0.heap.size w0 W)=>aDj n bJ W (Y.o.all (L.o.b.trans (an.mono L.o.b.size))));have bg:=Z (fun(W:World) (an:Below w0.heap.size w0 W)=>aPa nm Q.o.name W (Y.o.all (L.o.b.trans (an.mono L.o.b.size))));have cb:(iK op).size<=21:=by rw [gO];exact nD be.o
 have zs:(iK r).size<=21:=by rw [gO];exact nD bk.o
 have cc:(strOfNums (Lib.quoteZ Lib.goPrintTabs nm)).size<=10000002:=by rw [gO];have X:=aFm nm;have ak:=Q.o.name;dsimp only at ak;unfold xL at X;omega
 refine bF (S:=fun W=>Below w0.heap.size w0 W) 13 (by kernel_rfl) (by kernel_rfl) (aF w0) (fun _=>?_);refine aE 0 ?_;refine dF 1 (fun W h=>aB h az) ?_;refine aE 4 ?_;refine dF 5 (fun W h=>aB h a1) ?_;refine aE 9 ?_;refine dF 10 (fun W h=>aB h a0) ?_;refine aV 2 fun J f=>?_;go_simp
 go_at_call 122
 refine(aq.o op be.o _ (by assumption)).mono ?_;rintro cg bU ⟨rfl,aJ⟩;have H:Below w0.heap.size w0 bU:=(aF w0).trans (aJ.mono (aF w0).size);clear aJ;dsimp only;refine f.out _ _ (by(exact H)) (fun hHeld2=>?_);clear f J;(try simp only [Act.put,sA,sB,sC]);refine aE 3 (hy:=(Or.inl ⟨by rfl,by(intro W am;have C:¬9223372036854775807<(iK op).size+1:=(by omega);go_simp <;> with_reducible rfl)⟩)) ?_;refine aV 6 fun J f=>?_;go_simp
 go_at_call 122
 refine(aq.o r bk.o _ H).mono ?_;rintro ch bV ⟨rfl,aK⟩;have I:Below w0.heap.size w0 bV:=H.trans (aK.mono H.size);clear aK;dsimp only;refine f.out _ _ (by(exact I)) (fun hHeld3=>?_);clear f J;(try simp only [Act.put,sA,sB,sC]);refine aE 7 (hy:=(Or.inl ⟨by rfl,by(intro W am;have C:¬9223372036854775807<(iK op).size+1+(iK r).size:=(by omega);go_simp <;> with_reducible rfl)⟩)) ?_;refine aE 8 (hy:=(Or.inl ⟨by rfl,by(intro W am;have C:¬9223372036854775807<(iK op).size+1+(iK r).size+1:=(by omega);go_simp <;> with_reducible rfl)⟩)) ?_;refine aV 11 fun J f=>?_;go_simp
 go_at_call 176
 refine(bg.o _ I).mono ?_;rintro ci bW ⟨rfl,aL⟩;have af:Below w0.heap.size w0 bW:=I.trans (aL.mono I.size);clear aL;dsimp only;refine f.out _ _ (by(exact af)) (fun hHeld4=>?_);clear f J;(try simp only [Act.put,sA,sB,sC]);refine aE 12 (hy:=(Or.inl ⟨by rfl,by(intro W am;have C:¬9223372036854775807<(iK op).size+1+(iK r).size+1+(strOfNums (Lib.quoteZ Lib.goPrintTabs nm)).size:=(by omega);go_simp <;> with_reducible rfl)⟩)) ?_;refine cF (by decide +kernel) ?_;simp only [dL,cW];have a4:=Z (L.o.all af);clear H I af az a0 a1;generalize bj:iK op ++ { data:=#[32] }++iK r ++ { data:=#[32] }++strOfNums (Lib.quoteZ Lib.goPrintTabs nm)=a2 at *;have au:a2.data.toList=v:=by rw [<-bj,bB.o];simp [iK,xL]
 have bM:a2.size<=10000100:=by rw [gO,au];exact aR.o
 clear bj cb zs cc
 go_wp2_with fail
 refine(aDk a2 a4.o (by simp) (by omega)).mono ?_;rintro A cw ⟨rfl,ae,_⟩;rw [iE,au] at ae;have bu:=Z ae;have bR:=E ae.n 5;simp only [dW,fF,dS] at bR;clear ae au bM a4;go_wp2
 go_loopw [5,27] (fun _ i wr=>∃k:Nat,k<=args.length/\i = .int .i64 k/\Hid (uP w wr #[.int .i64 op,.string nm,.bool q,.slice a m.length c,.slice b p.length d,.slice g args.length e,.int .i64 r] (v++kK (args.take k)))) (fun _ i _=>args.length - (intOf i).toNat)
 case atStart=>exact⟨0,aN,rfl,by have aD:=bu.o;rw [<-lZ v] at aD;exact aD⟩
 case round=>
  obtain ⟨k,F,rfl,f⟩:=hrel;have aX:(v++kK (args.take k)).length<=32000200:=by
   have X:=aJd (xs:=args.take k) (fun x t=>ar.o.wf x (sY t));have ak:=aR.o;rw [dM];rw [eS] at X;omega
  have R:=Z aX;clear aX;by_cases T:k<args.length
  ·obtain ⟨b2,ct,rfl,cr⟩:=(ar.o.below f.o.b aA).at k T;have aw:eI (nth args k):=ar.o.wf _ (cB T);have bD:=Z (aDj (nth args k) aw wr (Y.o.all f.o.b));have U:=Z (aL5 T);have cy:(iK (nth args k)).size<=21:=by rw [gO];exact nD aw
   have zd:=@Z ((iK (nth args k)).data.toList=Lib.itoa (nth args k)) (by simp [iK]);clear aw;generalize nth args k=y at *;have C:¬9223372036854775807<1+(iK y).size:=by omega
   go_wp2_with fail
   refine bD.o.mono ?_;rintro A bX ⟨rfl,aM⟩;have bv:=Z (f.o.all aM);clear aM
   go_wp2_with fail
   refine(aDk (ByteArray.mk #[32]++iK y) bv.o (by have:=R.o;omega) (by rw [aCg];have:(ByteArray.mk #[32]).size=1:=rfl;omega)).mono ?_;rintro A G ⟨rfl,D,_⟩;have ah:=Z D;clear D;go_wp2
   go_roundw
   case rel=>
    refine⟨k+1,by omega,by go_num,?_⟩;rw [U.o];have:=ah.o;rw [aGr,aGw,zd.o,jM] at this;exact this
   case measure=>simp [intOf];omega
  ·have aU:args.take k=args:=fL (by omega);rw [aU] at f R;clear aU;have bP:=E f.o.n 0;have bQ:=E f.o.n 2;have ax:=E f.o.n 3;have ay:=E f.o.n 4;simp only [dW,fF,dS] at bP bQ ax ay;by_cases M:op=11
   case neg=>
    have av:=@Z (ai=⟨(v++kK args).toArray⟩) (by rw [aT.o,aW.o,bd.o,if_neg M,lZ])
    go_wp2_with fail
    refine(Tryz.Builder_String_any w.heap.size (w.heap.size+1) _ wr f.o.k f.o.b.size).mono ?_;rintro A bo ⟨rfl,P⟩;have ag:=Z (f.o.b.trans P);clear P;go_wp2;go_ret;exact⟨by rw [av.o];rfl,ag.o⟩
   case pos=>
    subst M;have av:=@Z (ai=⟨(v++(kK args++32 :: (Lib.formatBool q++47 :: (gG m++47 :: gG p)))).toArray⟩) (by rw [aT.o,aW.o,bd.o,if_pos rfl]);have aQ:=Z (Tryz.strconv_FormatBool q wr);have bY:(ByteArray.mk (Lib.formatBool q).toArray).size<=5:=by cases q <;> decide
    have bZ:=@Z ((ByteArray.mk (Lib.formatBool q).toArray).data.toList=Lib.formatBool q) (by simp);generalize bN:ByteArray.mk (Lib.formatBool q).toArray=sb at *;have C:¬9223372036854775807<1+sb.size:=by omega
    clear bN
    go_wp2_with fail
    refine aQ.o.mono ?_;rintro A bX ⟨rfl,rfl⟩
    go_wp2_with fail
    refine(aDk (ByteArray.mk #[32]++sb) f.o (by have:=R.o;omega) (by rw [aCg];have:(ByteArray.mk #[32]).size=1:=rfl;omega)).mono ?_;rintro A G ⟨rfl,D,_⟩;have aH:(v++kK args++(ByteArray.mk #[32]++sb).data.toList).length<=32000210:=by
     have X:=R.o;have ak:(ByteArray.mk #[32]++sb).data.toList.length<=6:=by rw [<-gO,aCg];have:(ByteArray.mk #[32]).size=1:=rfl;omega
     rw [dM];omega
    have b5:=@Z (v++kK args++(ByteArray.mk #[32]++sb).data.toList=v++(kK args++32 :: Lib.formatBool q)) (by rw [aGr,aGw,bZ.o,jM];rfl);generalize v++kK args++(ByteArray.mk #[32]++sb).data.toList=z at *;have ah:=Z (D.all ((aO _ _).alloc aA (.cells #[.slice a m.length c,.slice b p.length d] 34)));have bq:=Z (cC G (.cells #[.slice a m.length c,.slice b p.length d] 34));have ax:=E D.n 3;have ay:=E D.n 4;simp only [dW,fF,dS] at ax ay;have b4:=Z aH;clear D aH f aQ R bY C aq bg;go_wp2
    go_loopw [53] (fun i wr=>∃k:Nat,k<=2/\i = .int .i64 k/\Hid (uP w wr #[.int .i64 11,.string nm,.bool q,.slice a m.length c,.slice b p.length d,.slice g args.length e,.int .i64 r] (aDl z m p k))/\Hid (wr.heap[G.heap.size]? = some (.cells #[.slice a m.length c,.slice b p.length d] 34 (0,0)))) (fun i _=>2 - (intOf i).toNat)
    case atStart=>exact⟨0,by omega,rfl,ah.o,bq.o⟩
    case round=>
     obtain ⟨k,F,rfl,f,aa⟩:=hrel;by_cases T:k<2
     ·obtain ⟨aj,a8,xs,bA,bi,ba,cq,bf,cp⟩:∃(aj:Option Addr) (a8:Nat) (xs:List Int),wr.cell? ⟨G.heap.size,k,none⟩=some (.slice aj xs.length a8)/\bT cH.u64 S w aj xs.length xs/\aWs xs/\xs.length<=1000000/\aDl z m p (k+1)=aDl z m p k++47 :: gG xs/\(aDl z m p k).length<=54000300:=by
       have ad:=Q.o.low rfl;have a9:=Q.o.num;have aC:=Q.o.den;have bz:=vU ad.1;dsimp only at ad a9 aC bz;have cj:=b4.o
       match k,T with
       | 0,_=>exact⟨a,c,m,E aa.o 0,bl.o.num,ad.1,a9,rfl,by show z.length<=_;omega⟩
       | 1,_=>exact⟨b,d,p,E aa.o 1,bl.o.den,ad.2,aC,rfl,by show(z++47 :: gG m).length<=_;rw [dM,fQ];omega⟩
      have cn:(k:Int)<2:=by omega
      have bK:=Z bf;have bL:=Z bi;have bb:=Z ba;clear bf bi ba;generalize aI:aDl z m p (k+1)=ce at *;have b7:=Z aI;clear aI;generalize aDl z m p k=a5 at *
      go_wp2_with fail
      refine(aDk (ByteArray.mk #[47]) f.o (by omega) (by decide)).mono ?_;rintro A bo ⟨rfl,bn,a7⟩;have bw:=Z bn;have br:=Z ((a7 _ _ _ _ aa.o (by decide) (by decide)).trans aa.o);clear bn a7 bA;go_wp2
      go_loopw [60] (fun i wr=>∃j:Nat,j<=xs.length/\i = .int .i64 j/\Hid (uP w wr #[.int .i64 11,.string nm,.bool q,.slice a m.length c,.slice b p.length d,.slice g args.length e,.int .i64 r] (a5++47 :: gG (xs.take j)))/\Hid (wr.heap[G.heap.size]? = some (.cells #[.slice a m.length c,.slice b p.length d] 34 (0,0)))) (fun i _=>xs.length - (intOf i).toNat)
      case atStart=>exact⟨0,aN,rfl,bw.o,br.o⟩
      case round=>
       obtain ⟨j,cl,rfl,O,al⟩:=hrel;by_cases ab:j<xs.length
       ·obtain ⟨bx,bS,cf,b9,_,bh,aP⟩:=(bL.o.below O.o.b aA).at (cK ab);have V:=bb.o xs[j] (qS ab);have ap:=aP 0 (.int .u64 xs[j]) (by rw [bh.1];rfl);have U:=Z (aJc ab);have aY:=vU (xs:=xs.take j) (fun x t=>bb.o x (sY t));rw [eS] at aY;have bG:=@Z ((a5++47 :: gG (xs.take j)).length<=76000400) (by rw [dM,fQ];omega);rw [cE ab] at U;obtain ⟨B,bc⟩:=fK V.1;rw [bc] at ap U V;have bI:B<18446744073709551616:=by have:=V.2;omega
        have ck:wr.cell? ⟨bx,bS+j,none⟩=some (.int .u64 B):=by simpa [cH.u64] using ap
        subst b9;have bC:=Z (aUr B bI wr (Y.o.all O.o.b));have cm:(j:Int)<xs.length:=by omega
        have cx:(iK (B:Int)).size<=21:=by rw [gO];exact aJe V
        have ca:=@Z ((iK (B:Int)).data.toList=Lib.itoa (B:Int)) (by simp [iK]);have C:¬9223372036854775807<(iK (B:Int)).size+1:=by omega
        clear aP ap bh V bc aY
        go_wp2_with fail
        refine bC.o.mono ?_;rintro A cu ⟨rfl,ao⟩;have bs:=Z (O.o.all ao);have a3:=Z ((ao.block G.heap.size (bH al.o).1).trans al.o);clear ao
        go_wp2_with fail
        refine(aDk (iK (B:Int)++ByteArray.mk #[44]) bs.o (by have:=bG.o;omega) (by rw [aCg];have:(ByteArray.mk #[44]).size=1:=rfl;omega)).mono ?_;rintro A cv ⟨rfl,bm,a6⟩;have bt:=Z bm;have bp:=Z ((a6 _ _ _ _ a3.o (by decide) (by decide)).trans a3.o);clear bm a6;go_wp2
        go_roundw
        case rel=>
         refine⟨j+1,by omega,by go_num,?_,bp.o⟩;rw [U.o];have M:=bt.o;rw [aGr,aGw,ca.o,jM,tH] at M;exact M
        case measure=>simp [intOf];omega
       ·have aS:xs.take j=xs:=fL (by omega);rw [aS,<-bK.o] at O;clear aS;go_wp2
        go_roundw
        case rel=>exact⟨k+1,by omega,by go_num,by rw [b7.o];exact O.o,al.o⟩
        case measure=>simp [intOf];omega
     ·have bE:k=2:=by omega
      subst bE;have bO:=@Z (ai=⟨(aDl z m p 2).toArray⟩) (by rw [av.o];show _=ByteArray.mk ((z++47 :: gG m)++47 :: gG p).toArray;rw [b5.o];simp)
      go_wp2_with fail
      refine(Tryz.Builder_String_any w.heap.size (w.heap.size+1) _ wr f.o.k f.o.b.size).mono ?_;rintro A bo ⟨rfl,P⟩;have ag:=Z (f.o.b.trans P);clear P;go_wp2;go_ret;exact⟨by rw [bO.o];rfl,ag.o⟩
theorem qF (w:World):(zeroValue 3).run prog w = .ok (.int .i64 0) w:=by kernel_rfl
theorem aRg:(Tryz.prog.info? 190).map (fun i=>(i.zero,i.size,i.bytes))=some (some (.agg #[.bool false,.bool false]),2,2):=by kernel_rfl
theorem aUt {S:Nat->Prop} {w:World} {x:aZ} {a b g:Option Addr} {c d e:Nat} (j:eD S w x a c b d g e) (f:aFn x):(aHf x).length<=100000000:=by
 have m:=aJf j.op j.sort f.name;have p:=aJd j.args.toI.wf;have q:=f.args;unfold aHf aO8
 split
 ·rename_i k
  have r:=vU (f.low k).1;have t:=vU (f.low k).2;have v:=f.num;have z:=f.den;have A:(Lib.formatBool x.val.neg).length<=5:=by cases x.val.neg <;> decide
  simp only [dM,fQ];omega
 ·simp only [dM,aCs];omega
theorem aWt {S:Nat->Prop} {w:World} {x:aZ} {a b g:Option Addr} {c d e:Nat} (j:eD S w x a c b d g e) (f:aFn x):okS (kT x):=by
 have:=aUt j f;unfold okS kT maxLen;rw [gO];simp only;omega
theorem zM {op p:Int} {nm:ByteArray} {j:Bool} {a b g:Option Addr} {n c m d k e:Nat}:∀u ∈ [Value.int .i64 op,.string nm,.bool j,.slice a n c,.slice b m d,.slice g k e,.int .i64 p],u.oneCell'=true:=by
 intro u f;simp at f;rcases f with rfl | rfl | rfl | rfl | rfl | rfl | rfl <;> rfl
theorem aHt {x y:Bool}:∀u ∈ [Value.bool x,Value.bool y],u.oneCell'=true:=by
 intro u a;simp at a;rcases a with rfl | rfl <;> rfl
def zN (B p:Nat) (T:aC) (x:aZ) (w:World) (e:Ending) (w':World):Prop:=
 e = .returned (.tuple #[.int .i64 (eW T x).1.1,.int .i64 (eW T x).1.2])/\dG B p (eW T x).2 w'/\dA p w w'
theorem jX {T:aC} {x:aZ} {i:Int} (h:T.ids (kT x)=some i):eW T x=((i,0),T):=by unfold eW;rw [h]
theorem kM {T:aC} {x:aZ} (h:T.ids (kT x)=none) (a:16384<=T.nodes.length):eW T x=((0,4),T):=by unfold eW;rw [h];simp [a]
theorem aOf {T:aC} {x:aZ} (h:T.ids (kT x)=none) (a:¬16384<=T.nodes.length):eW T x=(((T.nodes.length:Int),0),{ T with nodes:=T.nodes ++ [x],nums:=T.nums ++ [dJ T x],ids:=fun k=>if k=kT x then some (T.nodes.length:Int) else T.ids k,cnt:=T.cnt+1 }):=by unfold eW;rw [h];simp [a]
theorem aC3 {S:Nat->Prop} (B p:Nat) (T:aC) (x:aZ) (a b g:Option Addr) (c d e:Nat) (w:World) (h:dG B p T w) (ci:eD S w x a c b d g e) (cU:bT cH.int (dU w) w g x.args.length x.args) (f:aFn x) (cP:SmT T) (cp:InT T x.args) (c0:x.op=16->1<=x.args.length) (cG:lF w) :
  Calls prog 88 #[.pointer (some ⟨p,0,none⟩),lI x a c b d g e] w fun e w'=>zN B p T x w e w':=by
 have da:=aT ci;have c6:=aT cU;clear cU;have b5:=aT f;have b1:=aT cP;have cq:=aT cp;have cX:=aT h;have cg:=aWt ci f;obtain ⟨op,nm,⟨L,M,J⟩,args,N⟩:=x;dsimp only at cp c0;obtain ⟨q,aq,c1,ar,c2,m,cK⟩:=h.look;have bM:=aT cK;have c5:=aT c0;have cd:Below w.heap.size w (w.alloc (.cells #[.int .i64 op,.string nm,.bool L,.slice a M.length c,.slice b J.length d,.slice g args.length e,.int .i64 N] 38)):=bJ;have cD:=aT cd;have cN:=aT (aUs ⟨op,nm,⟨L,M,J⟩,args,N⟩ a b g c d e _ (ci.below cd) f (cG.all cd));have cL:=aT (cC w (.cells #[.int .i64 op,.string nm,.bool L,.slice a M.length c,.slice b J.length d,.slice g args.length e,.int .i64 N] 38));have bR:=h.plt;have b6:=aT cg;generalize cI:kT ⟨op,nm,⟨L,M,J⟩,args,N⟩=O at *;have cf:=aT cI;clear h ci f cP cp cG cd cI cK c0;go_enter func88,ntmps88
 go_wp2_with fail
 refine cN.o.mono ?_;rintro ad bB ⟨rfl,cm⟩;have ca:=cD.o.trans (cm.mono cD.o.size);have cb:=aT ca;have ck:=aT (cX.o.all ca);have c9:=aT ((cm.block w.heap.size (by simp)).trans cL.o);have b3:=bM.o.all ca;have cJ:=aT b3;have db:bB.cell? ⟨p,1,none⟩=some (.slice aq T.nodes.length c1):=E b3.blk 1;have dc:bB.cell? ⟨p,3,none⟩=some (.map (some m)):=E b3.blk 3;have dd:bB.cell? ⟨p,5,none⟩=some (.int .i64 16384):=E b3.blk 5;have bP:=b3.ids.look_ok underlying9 underlying128 (qF bB) cg;clear cm ca cN cL b3;cases b4:T.ids O with
 |
  some i=>
  have au:=@Z (eW T ⟨op,nm,⟨L,M,J⟩,args,N⟩=((i,0),T)) (jX (by rw [cf.o];exact b4));have ad:mV T.ids O=some (.int .i64 i):=by unfold mV;rw [b4];rfl
  rw [ad] at bP;simp only [yW,Option.isSome_some] at bP;clear b4 ad cg;go_wp2;go_ret2;refine⟨by rw [au.o];rfl,by rw [au.o];exact ck.o,dA.of_below bR cb.o⟩
 |
  none=>
  have bO:=aT b4;have ad:mV T.ids O=none:=by unfold mV;rw [b4];rfl
  rw [ad] at bP;simp only [Option.getD_none,vL] at bP;clear b4 ad cg;by_cases cM:16384<=T.nodes.length
  case pos=>
   have au:=@Z (eW T ⟨op,nm,⟨L,M,J⟩,args,N⟩=((0,4),T)) (kM (by rw [cf.o];exact bO.o) cM);have co:(16384:Int)<=T.nodes.length:=by omega
   go_wp2
   go_quiet (fail)
   go_wp2;go_ret2;refine⟨by rw [au.o];rfl,by rw [au.o];exact ck.o.all ((aO _ _).drewN _),dA.of_below bR (cb.o.drewN _)⟩
  have au:=@Z (eW T ⟨op,nm,⟨L,M,J⟩,args,N⟩=(((T.nodes.length:Int),0),{ T with nodes:=T.nodes ++ [⟨op,nm,⟨L,M,J⟩,args,N⟩],nums:=T.nums ++ [dJ T ⟨op,nm,⟨L,M,J⟩,args,N⟩],ids:=fun k=>if k=O then some (T.nodes.length:Int) else T.ids k,cnt:=T.cnt+1 })) (by rw [<-cf.o];exact aOf (by rw [cf.o];exact bO.o) cM);have co:¬(16384:Int)<=T.nodes.length:=by omega
  have cY:decide ((16384:Int)<=T.nodes.length)=false:=by simpa using co
  go_wp2
  go_quiet (fail)
  have ap:=aT (cJ.o.all ((aO _ _).drewN nq));have b2:(bB.drewN nq).heap[w.heap.size]? = some (.cells #[.int .i64 op,.string nm,.bool L,.slice a M.length c,.slice b J.length d,.slice g args.length e,.int .i64 N] 38 (0,0)):=c9.o;have am:=aT (cb.o.drewN nq);clear db dc dd bP c9 ck cJ cb co cY
  go_wp2_with fail
  generalize bB.drewN nq=I at *;have ch:p<I.heap.size:=ap.o.plt;have ao:w.heap.size<I.heap.size:=(bH b2).1;have P2:=ap.o.blk;have bQ:=aT (aOe ⟨op,nm,⟨L,M,J⟩,args,N⟩ a b g c d e I.drew (da.o.keep (fun k aa _=>am.o.block k aa) am.o.size) (lW b5.o.num (by decide)) (lW b5.o.den (by decide)) (lW b5.o.args (by decide)));obtain ⟨dg,cw,cx,cy,cz⟩:=info_parts aFi;obtain ⟨df,cr,ct,cu,cv⟩:=info_parts aRg;have b7:=aT (show Value.ownBlock (.slice aq T.nodes.length c1)≠some p from fun e=>cO (by decide) (ap.o.nodes.ty p e) ⟨_,_,P2⟩);have b9:=aT (show Value.ownBlock (.slice ar T.nums.length c2)≠some p from fun e=>cO (by decide) (ap.o.nums.ty p e) ⟨_,_,P2⟩);have b8:=aT (show Value.ownBlock (.slice aq T.nodes.length c1)≠some w.heap.size from fun e=>by have:=(bM.o.nodes.lt _ e).2;omega);have bA:=aT (show Value.ownBlock (.slice ar T.nums.length c2)≠some w.heap.size from fun e=>by have:=(bM.o.nums.lt _ e).2;omega);have c7:I.drew.cell? ⟨p,1,none⟩=some (.slice aq T.nodes.length c1):=E (w:=I.drew) P2 1;have cZ:T.nodes.length<16384:=by omega
  have de:T.nums.length<16384:=by rw [b1.o.nn];exact cZ
  refine bF (S:=fun W=>W.cell? ⟨p,2,none⟩=some (.slice ar T.nums.length c2)/\W.heap[w.heap.size]? = I.heap[w.heap.size]?) 22 (by kernel_rfl) (by kernel_rfl) ⟨E (w:=I.drew) P2 2,rfl⟩ (fun cl=>?_);refine aE 0 ?_;refine aE 1 ?_;refine aE 2 ?_;refine aE 3 ?_;refine aE 4 ?_;refine aE 6 (hy:=(Or.inl ⟨by rfl,by(intro W bL;have ah:=bL.2.trans b2;have y0:=E ah 0;have y1:=E ah 1;have y2:=E ah 2;have y3:=E ah 3;have y4:=E ah 4;have y5:=E ah 5;have c8:=E ah 6;simp only [dW,fF,dS] at y0 y1 y2 y3 y4 y5 c8;go_simp <;> with_reducible rfl)⟩)) ?_;refine aE 10 ?_;refine aE 11 ?_;refine aE 12 ?_;refine aE 13 (hy:=(Or.inl ⟨by rfl,by(intro W bL;have ah:=bL.1;go_simp <;> with_reducible rfl)⟩)) ?_;refine aE 14 ?_;refine aE 15 (hy:=(Or.inl ⟨by rfl,by(intro W bL;have ah:=bL.2.trans b2;have y0:=E ah 0;have y1:=E ah 1;have y2:=E ah 2;have y3:=E ah 3;have y4:=E ah 4;have y5:=E ah 5;have c8:=E ah 6;simp only [dW,fF,dS] at y0 y1 y2 y3 y4 y5 c8;go_simp <;> with_reducible rfl)⟩)) ?_;refine gW (rs:=[5,7]) (by decide +kernel) (cQ (by rfl) (fun v r=>?_) (cQ (by rfl) (fun v r=>?_) gV))
  ·skip
   go_simp;refine r.out _ _ (by(assumption)) (fun hHeld2=>?_);clear r v;refine aV 7 fun v r=>?_;go_simp
   go_at_call 70
   refine bQ.o.mono ?_;rintro cc P ⟨bv,c3,bw,bx,b0,bz,rfl,a8,bN⟩;have t:Below I.heap.size I P:=(aF I).trans (bN.mono (aF I).size);have bs:=aT (a8.mono (S':=rI T.X P) (fun k _ f=>⟨fun e=>by have:=(bM.o.xlt k e).1;have:=am.o.size;have:=f.2;simp only [World.size_drew] at this;omega,f.1⟩));have G:=aT (ap.o.all t);obtain ⟨css,bW,bY,bX⟩:=G.o.nodes;have an:=aT bW;have bu:=aT bY;have bt:=aT bX;have ae:p<P.heap.size:=bG ch t.size;have ab:w.heap.size<P.heap.size:=bG ao t.size;have ce:B<=P.heap.size:=aH G.o.bp (gM ae);have V:=And.intro (t.block p ch) (t.block _ ao);have cj:P.cell? ⟨p,1,none⟩=some (.slice aq T.nodes.length c1):=E (V.1.trans P2) 1;clear a8 bN bW bY bX;dsimp only;refine r.out _ _ (by(exact⟨E (V.1.trans P2) 2,V.2⟩)) (fun hHeld3=>?_);clear r v;refine aV 8 fun v r=>?_;go_simp;refine r.out _ _ (by(exact⟨E ((fB _ _ _ ae).trans (V.1.trans P2)) 2,(fB _ _ _ ab).trans V.2⟩)) (fun hHeld4=>?_);clear r v;refine aV 9 fun v r=>?_;refine bZ (by rfl) (.tmp 37) (.tmp 40) (by rfl) underlying49 cw cx cy cz rfl (by decide) (by rfl) (by rfl) (an.o.alloc _) (Src.lit (kH.lit (us:=[.int .i64 op,.string nm,.bool L,.slice bv M.length c3,.slice bw J.length bx,.slice b0 args.length bz,.int .i64 N]) rfl) rfl) zM (by unfold maxLen;omega) (by omega) (by simp;omega) ?_;intro v' ag U K aa;have j:=aT (cT K);have aI:=aT (nR aa);have ay:=aT (cA.push (R:=uO) (S:=rI T.X P) (x:=⟨op,nm,⟨L,M,J⟩,args,N⟩) bu.o bt.o (vT.2 ⟨bv,c3,bw,bx,b0,bz,rfl,bs.o⟩) U (fun b a6 H=>(cT K).block b a6 (fun e=>dU.ne H.2 (by decide) (by decide) (an.o.ty b e.symm))) (cT K).size);obtain ⟨ak,c4,rfl,_,_⟩:=U.slice;have Y:ag.heap[p]? = I.heap[p]? /\ ag.heap[w.heap.size]? = I.heap[w.heap.size]?:=⟨(j.o.block p ae (fun e=>b7.o e.symm)).trans V.1,(j.o.block _ ab (fun e=>b8.o e.symm)).trans V.2⟩;have aG:=aT (fun(k:Nat) (f:dU w k)=>(j.o.block k (bG f.lt (aH (gM ao) t.size)) (fun e=>dU.ne (f.same ((t.block k (pK f.lt ao)).trans (am.o.block k f.lt))) (by decide) (by decide) (an.o.ty k e.symm))).trans ((t.block k (pK f.lt ao)).trans (am.o.block k f.lt)));have aw:=aT (G.o.nums.keep (w':=ag) (fun _ _ h=>h.elim) (fun k f=>j.o.block k (G.o.nums.lt k f).2 (fun e=>gZ G.o.nums G.o.nodes (by decide) f e.symm)) j.o.size);have bf:w.heap.size<=ag.heap.size:=aH (gM ab) j.o.size;have aR:=E (Y.1.trans P2) 2;have bd:=aT (xR p T ⟨op,nm,⟨L,M,J⟩,args,N⟩ a b g c d e ag ⟨B,ar,c2,aR,aw.o,bG ae j.o.size⟩ (c6.o.keep (fun k _ f=>aG.o k f) bf).toI cq.o (lW b5.o.args (by decide)) c5.o b1.o.nn);clear U K aa aR;refine r.out _ _ (by(exact⟨E (Y.1.trans P2) 2,Y.2⟩)) (fun hHeld5=>?_);clear r v;refine aV 16 fun v r=>?_;go_simp
   go_at_call 137
   refine bd.o.mono ?_;rintro cc br ⟨rfl,A⟩;generalize ba:dJ T ⟨op,nm,⟨L,M,J⟩,args,N⟩=R;have bK:=aT ba;clear ba;obtain ⟨a9,aB⟩:=R;have ax:=aT (aw.o.below A aA);have ai:=aT ((ay.o.keep (fun b a6 H=>A.block b a6) (fun k f=>A.block k (ay.o.lt k f).2) A.size));have z:=aT A;obtain ⟨cB,bk,bm,bl⟩:=ax.o;have aM:=aT bk;have aP:=aT bm;have aN:=aT bl;have cR:=aH bf A.size;have cE:B<=br.heap.size:=aH ce (aH j.o.size A.size);have be:p<br.heap.size:=bG ae (aH j.o.size A.size);have Q:=And.intro ((A.block p (bG ae j.o.size)).trans Y.1) ((A.block _ (bG ab j.o.size)).trans Y.2);clear A bk bm bl;dsimp only;refine r.out _ _ (by(exact⟨E (Q.1.trans P2) 2,Q.2⟩)) (fun hHeld6=>?_);clear r v;refine aV 17 fun v r=>?_;go_simp;refine r.out _ _ (by(exact⟨E ((fB _ _ _ be).trans (Q.1.trans P2)) 2,(fB _ _ _ (bG ab (aH j.o.size z.o.size))).trans Q.2⟩)) (fun hHeld7=>?_);clear r v;refine aV 18 fun v r=>?_;refine bZ (by rfl) (.tmp 45) (.tmp 49) (by rfl) underlying127 cr ct cu cv rfl (by decide) (by rfl) (by rfl) (aM.o.alloc _) (Src.lit (kH.lit (us:=[.bool a9,.bool aB]) rfl) rfl) aHt (by unfold maxLen;omega) (by omega) (by simp;omega) ?_;intro v' C U K aa;have D:=aT (cT K);have aJ:=aT (nR aa);have aL:=aT (cA.push (R:=aE3) (S:=fun _=>False) (x:=(a9,aB)) aP.o aN.o (aC1.2 rfl) U (fun _ _ h=>h.elim) (cT K).size);obtain ⟨a1,a2,rfl,_,_⟩:=U.slice;have F:C.heap[p]? = I.heap[p]? /\ C.heap[w.heap.size]? = I.heap[w.heap.size]?:=⟨(D.o.block p be (fun e=>b9.o e.symm)).trans Q.1,(D.o.block _ (bG ab (aH j.o.size z.o.size)) (fun e=>bA.o e.symm)).trans Q.2⟩;have bS:C.cell? ⟨p,1,none⟩=some (.slice aq T.nodes.length c1):=E (F.1.trans P2) 1;have bU:C.cell? ⟨p,2,none⟩=some (.slice ar T.nums.length c2):=E (F.1.trans P2) 2;have bI:C.frozen? ⟨p,2,none⟩=false:=aQ (F.1.trans P2) 2;have bE:C.frozen? ⟨p,1,none⟩=false:=aQ (F.1.trans P2) 1;clear U K aa;refine r.out _ _ (by(exact⟨E (F.1.trans P2) 2,F.2⟩)) (fun hHeld8=>?_);clear r v;(try simp only [Act.put,sA,sB,sC]);refine aE 19 ?_;refine aE 20 ?_;refine aV 21 fun v r=>?_;go_simp;refine r.out _ _ (by(exact⟨(aGj _ _ _ _ (show(⟨p,1,none⟩:Addr)≠⟨p,2,none⟩ by simp)).trans (E (F.1.trans P2) 2),by rw [dZ _ _ _ _ (by simp;omega)];exact F.2⟩)) (fun hHeld9=>?_);clear r v;(try simp only [Act.put,sA,sB,sC]);refine cF (by decide +kernel) ?_;simp only [dL,cW];have a3:=aT (fun(k:Nat) (f:k<P.heap.size) (ad:Value.ownBlock (.slice aq T.nodes.length c1)≠some k) (af:Value.ownBlock (.slice ar T.nums.length c2)≠some k)=>((D.o.block k (bG f (aH j.o.size z.o.size)) (fun e=>af e.symm)).trans ((z.o.block k (bG f j.o.size)).trans (j.o.block k f (fun e=>ad e.symm))):C.heap[k]? = P.heap[k]?));have av:=aT (fun(k:Nat) (f:dU P k)=>a3.o k f.lt (fun e=>dU.ne f (by decide) (by decide) (G.o.nodes.ty k e)) (fun e=>dU.ne f (by decide) (by decide) (G.o.nums.ty k e)));have aK:=aT ((ai.o.keep (w':=C) (fun b _ H=>by
    have bb:=H.2.lt;exact(av.o b H.2).trans ((z.o.block b (bG bb j.o.size)).trans (j.o.block b bb (fun e=>dU.ne H.2 (by decide) (by decide) (G.o.nodes.ty b e.symm)))).symm) (fun k f=>D.o.block k (ai.o.lt k f).2 (fun e=>gZ ai.o ax.o (by decide) f e.symm)) D.o.size).mono (S':=rI T.X C) (fun b _ H=>H.same (av.o b H.2)))
   obtain ⟨bq,bo⟩:=ap.o.put (W:=C) (v1':=.slice ak (T.nodes.length+1) c4) (v2':=.slice a1 (T.nums.length+1) a2) (D.o.os.trans (z.o.os.trans (j.o.os.trans t.os))) (D.o.tape.trans (z.o.tape.trans (j.o.tape.trans t.tape))) (D.o.output.trans (z.o.output.trans (j.o.output.trans t.output))) (aH t.size (aH j.o.size (aH z.o.size D.o.size)))
    (fun k f ad af=>(a3.o k (bG f t.size) ad af).trans (t.block k f)) (aI.o.imp id fun a5 k f=>aH t.size (a5 k f)) (aJ.o.imp id fun a5 k f=>aH t.size (aH j.o.size (aH z.o.size (a5 k f)))) aK.o aL.o
   have az:=aT bq;have aS:=aT ((dA.of_below bR am.o).trans bo);clear bq bo;go_wp2;clear bS bE bU bI a3 av aK aL aJ D F z ai ax Q aM aP aN Y ay aI j aG aw bd V t bs G an bu bt cj c7 cl ap b2 P2 bQ b7 b9 b8 bA;generalize (C.setCell ⟨p,1,none⟩ (.slice ak (T.nodes.length+1) c4)).setCell ⟨p,2,none⟩ (.slice a1 (T.nums.length+1) a2)=aX at *;refine zG 11 (by kernel_rfl) (by kernel_rfl) ?_;intro W a4;have aj:dO B p { T with nodes:=T.nodes ++ [⟨op,nm,⟨L,M,J⟩,args,N⟩],nums:=T.nums ++ [(a9,aB)] } W q (.slice ak (T.nodes.length+1) c4) (.slice a1 (T.nums.length+1) a2) m:=by rw [a4];exact az.o.all (aF aX)
   have aU:dA p w W:=by rw [a4];exact aS.o.trans (.of_below az.o.plt (aF aX))
   have a8:W.cell? ⟨p,3,none⟩=some (.map (some m)):=E aj.blk 3;have bV:W.cell? ⟨p,1,none⟩=some (.slice ak (T.nodes.length+1) c4):=E aj.blk 1;have a0:=aT aj;have aW:=aT aU;clear a4 aj aU az aS;simp only [yO,vQ,dL,cW]
   repeat still_step
   refine wpStill_nil ?_;obtain ⟨aD,cS,bh,bj⟩:=a0.o.ids.store underlying9 underlying128 (by have:=b1.o.cn;show T.cnt<_;unfold maxLen;omega) b6.o (.int .i64 (T.nodes.length:Int));have bi:qQ prog 9 m (T.cnt+1) (mV fun k=>if k=O then some (T.nodes.length:Int) else T.ids k) aD:=by
    have e:aDc (mV T.ids) O (some (.int .i64 (T.nodes.length:Int)))=mV fun k=>if k=O then some (T.nodes.length:Int) else T.ids k:=by
     funext k
     unfold aDc mV;by_cases bc:k=O
     ·simp [bc]
     ·simp [bc]
    rw [<-e];have af:(mV T.ids O).isSome=false:=by unfold mV;rw [bO.o];rfl
    have a7:=bh;dsimp only at a7;rw [af] at a7;exact a7
   obtain ⟨al,bn⟩:=a0.o.setIds bj bi;have bg:=al.ids.look underlying9 underlying128 (qF aD) b6.o;have aY:mV (fun k=>if k=O then some (T.nodes.length:Int) else T.ids k) O=some (.int .i64 (T.nodes.length:Int)):=by simp [mV]
   rw [aY] at bg;simp only [yW] at bg;have cV:aD.cell? ⟨p,3,none⟩=some (.map (some m)):=E al.blk 3;have bD:=aT al;have bC:=aT (aW.o.trans bn);clear bh bj bi al bn aY a8 bV a0 aW;go_wp2;go_ret2;refine⟨by rw [au.o];rfl,?_,bC.o⟩;rw [au.o,bK.o];exact⟨q,_,_,m,bD.o⟩
  ·skip
   go_simp
   go_at_call 70
   refine bQ.o.mono ?_;rintro cc P ⟨bv,c3,bw,bx,b0,bz,rfl,a8,bN⟩;have t:Below I.heap.size I P:=(aF I).trans (bN.mono (aF I).size);have bs:=aT (a8.mono (S':=rI T.X P) (fun k _ f=>⟨fun e=>by have:=(bM.o.xlt k e).1;have:=am.o.size;have:=f.2;simp only [World.size_drew] at this;omega,f.1⟩));have G:=aT (ap.o.all t);obtain ⟨css,bW,bY,bX⟩:=G.o.nodes;have an:=aT bW;have bu:=aT bY;have bt:=aT bX;have ae:p<P.heap.size:=bG ch t.size;have ab:w.heap.size<P.heap.size:=bG ao t.size;have ce:B<=P.heap.size:=aH G.o.bp (gM ae);have V:=And.intro (t.block p ch) (t.block _ ao);have cj:P.cell? ⟨p,1,none⟩=some (.slice aq T.nodes.length c1):=E (V.1.trans P2) 1;clear a8 bN bW bY bX;dsimp only;refine r.out _ _ (by(exact⟨E (V.1.trans P2) 2,V.2⟩)) (fun hHeld2=>?_);clear r v;(try simp only [Act.put,sA,sB,sC]);refine gW (rs:=[5,8]) (by decide +kernel) (cQ (by rfl) (fun v r=>?_) (cQ (by rfl) (fun v r=>?_) gV))
   ·skip
    go_simp;refine r.out _ _ (by(assumption)) (fun hHeld3=>?_);clear r v;refine aV 8 fun v r=>?_;go_simp;refine r.out _ _ (by(exact⟨E ((fB _ _ _ ae).trans (V.1.trans P2)) 2,(fB _ _ _ ab).trans V.2⟩)) (fun hHeld4=>?_);clear r v;refine aV 9 fun v r=>?_;refine bZ (by rfl) (.tmp 37) (.tmp 40) (by rfl) underlying49 cw cx cy cz rfl (by decide) (by rfl) (by rfl) (an.o.alloc _) (Src.lit (kH.lit (us:=[.int .i64 op,.string nm,.bool L,.slice bv M.length c3,.slice bw J.length bx,.slice b0 args.length bz,.int .i64 N]) rfl) rfl) zM (by unfold maxLen;omega) (by omega) (by simp;omega) ?_;intro v' ag U K aa;have j:=aT (cT K);have aI:=aT (nR aa);have ay:=aT (cA.push (R:=uO) (S:=rI T.X P) (x:=⟨op,nm,⟨L,M,J⟩,args,N⟩) bu.o bt.o (vT.2 ⟨bv,c3,bw,bx,b0,bz,rfl,bs.o⟩) U (fun b a6 H=>(cT K).block b a6 (fun e=>dU.ne H.2 (by decide) (by decide) (an.o.ty b e.symm))) (cT K).size);obtain ⟨ak,c4,rfl,_,_⟩:=U.slice;have Y:ag.heap[p]? = I.heap[p]? /\ ag.heap[w.heap.size]? = I.heap[w.heap.size]?:=⟨(j.o.block p ae (fun e=>b7.o e.symm)).trans V.1,(j.o.block _ ab (fun e=>b8.o e.symm)).trans V.2⟩;have aG:=aT (fun(k:Nat) (f:dU w k)=>(j.o.block k (bG f.lt (aH (gM ao) t.size)) (fun e=>dU.ne (f.same ((t.block k (pK f.lt ao)).trans (am.o.block k f.lt))) (by decide) (by decide) (an.o.ty k e.symm))).trans ((t.block k (pK f.lt ao)).trans (am.o.block k f.lt)));have aw:=aT (G.o.nums.keep (w':=ag) (fun _ _ h=>h.elim) (fun k f=>j.o.block k (G.o.nums.lt k f).2 (fun e=>gZ G.o.nums G.o.nodes (by decide) f e.symm)) j.o.size);have bf:w.heap.size<=ag.heap.size:=aH (gM ab) j.o.size;have aR:=E (Y.1.trans P2) 2;have bd:=aT (xR p T ⟨op,nm,⟨L,M,J⟩,args,N⟩ a b g c d e ag ⟨B,ar,c2,aR,aw.o,bG ae j.o.size⟩ (c6.o.keep (fun k _ f=>aG.o k f) bf).toI cq.o (lW b5.o.args (by decide)) c5.o b1.o.nn);clear U K aa aR;refine r.out _ _ (by(exact⟨E (Y.1.trans P2) 2,Y.2⟩)) (fun hHeld5=>?_);clear r v;refine aV 16 fun v r=>?_;go_simp
    go_at_call 137
    refine bd.o.mono ?_;rintro cc br ⟨rfl,A⟩;generalize ba:dJ T ⟨op,nm,⟨L,M,J⟩,args,N⟩=R;have bK:=aT ba;clear ba;obtain ⟨a9,aB⟩:=R;have ax:=aT (aw.o.below A aA);have ai:=aT ((ay.o.keep (fun b a6 H=>A.block b a6) (fun k f=>A.block k (ay.o.lt k f).2) A.size));have z:=aT A;obtain ⟨cB,bk,bm,bl⟩:=ax.o;have aM:=aT bk;have aP:=aT bm;have aN:=aT bl;have cR:=aH bf A.size;have cE:B<=br.heap.size:=aH ce (aH j.o.size A.size);have be:p<br.heap.size:=bG ae (aH j.o.size A.size);have Q:=And.intro ((A.block p (bG ae j.o.size)).trans Y.1) ((A.block _ (bG ab j.o.size)).trans Y.2);clear A bk bm bl;dsimp only;refine r.out _ _ (by(exact⟨E (Q.1.trans P2) 2,Q.2⟩)) (fun hHeld6=>?_);clear r v;refine aV 17 fun v r=>?_;go_simp;refine r.out _ _ (by(exact⟨E ((fB _ _ _ be).trans (Q.1.trans P2)) 2,(fB _ _ _ (bG ab (aH j.o.size z.o.size))).trans Q.2⟩)) (fun hHeld7=>?_);clear r v;refine aV 18 fun v r=>?_;refine bZ (by rfl) (.tmp 45) (.tmp 49) (by rfl) underlying127 cr ct cu cv rfl (by decide) (by rfl) (by rfl) (aM.o.alloc _) (Src.lit (kH.lit (us:=[.bool a9,.bool aB]) rfl) rfl) aHt (by unfold maxLen;omega) (by omega) (by simp;omega) ?_;intro v' C U K aa;have D:=aT (cT K);have aJ:=aT (nR aa);have aL:=aT (cA.push (R:=aE3) (S:=fun _=>False) (x:=(a9,aB)) aP.o aN.o (aC1.2 rfl) U (fun _ _ h=>h.elim) (cT K).size);obtain ⟨a1,a2,rfl,_,_⟩:=U.slice;have F:C.heap[p]? = I.heap[p]? /\ C.heap[w.heap.size]? = I.heap[w.heap.size]?:=⟨(D.o.block p be (fun e=>b9.o e.symm)).trans Q.1,(D.o.block _ (bG ab (aH j.o.size z.o.size)) (fun e=>bA.o e.symm)).trans Q.2⟩;have bS:C.cell? ⟨p,1,none⟩=some (.slice aq T.nodes.length c1):=E (F.1.trans P2) 1;have bU:C.cell? ⟨p,2,none⟩=some (.slice ar T.nums.length c2):=E (F.1.trans P2) 2;have bI:C.frozen? ⟨p,2,none⟩=false:=aQ (F.1.trans P2) 2;have bE:C.frozen? ⟨p,1,none⟩=false:=aQ (F.1.trans P2) 1;clear U K aa;refine r.out _ _ (by(exact⟨E (F.1.trans P2) 2,F.2⟩)) (fun hHeld8=>?_);clear r v;(try simp only [Act.put,sA,sB,sC]);refine aE 19 ?_;refine aE 20 ?_;refine aV 21 fun v r=>?_;go_simp;refine r.out _ _ (by(exact⟨(aGj _ _ _ _ (show(⟨p,1,none⟩:Addr)≠⟨p,2,none⟩ by simp)).trans (E (F.1.trans P2) 2),by rw [dZ _ _ _ _ (by simp;omega)];exact F.2⟩)) (fun hHeld9=>?_);clear r v;(try simp only [Act.put,sA,sB,sC]);refine cF (by decide +kernel) ?_;simp only [dL,cW];have a3:=aT (fun(k:Nat) (f:k<P.heap.size) (ad:Value.ownBlock (.slice aq T.nodes.length c1)≠some k) (af:Value.ownBlock (.slice ar T.nums.length c2)≠some k)=>((D.o.block k (bG f (aH j.o.size z.o.size)) (fun e=>af e.symm)).trans ((z.o.block k (bG f j.o.size)).trans (j.o.block k f (fun e=>ad e.symm))):C.heap[k]? = P.heap[k]?));have av:=aT (fun(k:Nat) (f:dU P k)=>a3.o k f.lt (fun e=>dU.ne f (by decide) (by decide) (G.o.nodes.ty k e)) (fun e=>dU.ne f (by decide) (by decide) (G.o.nums.ty k e)));have aK:=aT ((ai.o.keep (w':=C) (fun b _ H=>by
     have bb:=H.2.lt;exact(av.o b H.2).trans ((z.o.block b (bG bb j.o.size)).trans (j.o.block b bb (fun e=>dU.ne H.2 (by decide) (by decide) (G.o.nodes.ty b e.symm)))).symm) (fun k f=>D.o.block k (ai.o.lt k f).2 (fun e=>gZ ai.o ax.o (by decide) f e.symm)) D.o.size).mono (S':=rI T.X C) (fun b _ H=>H.same (av.o b H.2)))
    obtain ⟨bq,bo⟩:=ap.o.put (W:=C) (v1':=.slice ak (T.nodes.length+1) c4) (v2':=.slice a1 (T.nums.length+1) a2) (D.o.os.trans (z.o.os.trans (j.o.os.trans t.os))) (D.o.tape.trans (z.o.tape.trans (j.o.tape.trans t.tape))) (D.o.output.trans (z.o.output.trans (j.o.output.trans t.output))) (aH t.size (aH j.o.size (aH z.o.size D.o.size)))
     (fun k f ad af=>(a3.o k (bG f t.size) ad af).trans (t.block k f)) (aI.o.imp id fun a5 k f=>aH t.size (a5 k f)) (aJ.o.imp id fun a5 k f=>aH t.size (aH j.o.size (aH z.o.size (a5 k f)))) aK.o aL.o
    have az:=aT bq;have aS:=aT ((dA.of_below bR am.o).trans bo);clear bq bo;go_wp2;clear bS bE bU bI a3 av aK aL aJ D F z ai ax Q aM aP aN Y ay aI j aG aw bd V t bs G an bu bt cj c7 cl ap b2 P2 bQ b7 b9 b8 bA;generalize (C.setCell ⟨p,1,none⟩ (.slice ak (T.nodes.length+1) c4)).setCell ⟨p,2,none⟩ (.slice a1 (T.nums.length+1) a2)=aX at *;refine zG 11 (by kernel_rfl) (by kernel_rfl) ?_;intro W a4;have aj:dO B p { T with nodes:=T.nodes ++ [⟨op,nm,⟨L,M,J⟩,args,N⟩],nums:=T.nums ++ [(a9,aB)] } W q (.slice ak (T.nodes.length+1) c4) (.slice a1 (T.nums.length+1) a2) m:=by rw [a4];exact az.o.all (aF aX)
    have aU:dA p w W:=by rw [a4];exact aS.o.trans (.of_below az.o.plt (aF aX))
    have a8:W.cell? ⟨p,3,none⟩=some (.map (some m)):=E aj.blk 3;have bV:W.cell? ⟨p,1,none⟩=some (.slice ak (T.nodes.length+1) c4):=E aj.blk 1;have a0:=aT aj;have aW:=aT aU;clear a4 aj aU az aS;simp only [yO,vQ,dL,cW]
    repeat still_step
    refine wpStill_nil ?_;obtain ⟨aD,cS,bh,bj⟩:=a0.o.ids.store underlying9 underlying128 (by have:=b1.o.cn;show T.cnt<_;unfold maxLen;omega) b6.o (.int .i64 (T.nodes.length:Int));have bi:qQ prog 9 m (T.cnt+1) (mV fun k=>if k=O then some (T.nodes.length:Int) else T.ids k) aD:=by
     have e:aDc (mV T.ids) O (some (.int .i64 (T.nodes.length:Int)))=mV fun k=>if k=O then some (T.nodes.length:Int) else T.ids k:=by
      funext k
      unfold aDc mV;by_cases bc:k=O
      ·simp [bc]
      ·simp [bc]
     rw [<-e];have af:(mV T.ids O).isSome=false:=by unfold mV;rw [bO.o];rfl
     have a7:=bh;dsimp only at a7;rw [af] at a7;exact a7
    obtain ⟨al,bn⟩:=a0.o.setIds bj bi;have bg:=al.ids.look underlying9 underlying128 (qF aD) b6.o;have aY:mV (fun k=>if k=O then some (T.nodes.length:Int) else T.ids k) O=some (.int .i64 (T.nodes.length:Int)):=by simp [mV]
    rw [aY] at bg;simp only [yW] at bg;have cV:aD.cell? ⟨p,3,none⟩=some (.map (some m)):=E al.blk 3;have bD:=aT al;have bC:=aT (aW.o.trans bn);clear bh bj bi al bn aY a8 bV a0 aW;go_wp2;go_ret2;refine⟨by rw [au.o];rfl,?_,bC.o⟩;rw [au.o,bK.o];exact⟨q,_,_,m,bD.o⟩
   ·skip
    go_simp;refine r.out _ _ (by(exact⟨E ((fB _ _ _ ae).trans (V.1.trans P2)) 2,(fB _ _ _ ab).trans V.2⟩)) (fun hHeld3=>?_);clear r v;refine aV 5 fun v r=>?_;go_simp;refine r.out _ _ (by(assumption)) (fun hHeld4=>?_);clear r v;refine aV 9 fun v r=>?_;refine bZ (by rfl) (.tmp 37) (.tmp 40) (by rfl) underlying49 cw cx cy cz rfl (by decide) (by rfl) (by rfl) (an.o.alloc _) (Src.lit (kH.lit (us:=[.int .i64 op,.string nm,.bool L,.slice bv M.length c3,.slice bw J.length bx,.slice b0 args.length bz,.int .i64 N]) rfl) rfl) zM (by unfold maxLen;omega) (by omega) (by simp;omega) ?_;intro v' ag U K aa;have j:=aT (cT K);have aI:=aT (nR aa);have ay:=aT (cA.push (R:=uO) (S:=rI T.X P) (x:=⟨op,nm,⟨L,M,J⟩,args,N⟩) bu.o bt.o (vT.2 ⟨bv,c3,bw,bx,b0,bz,rfl,bs.o⟩) U (fun b a6 H=>(cT K).block b a6 (fun e=>dU.ne H.2 (by decide) (by decide) (an.o.ty b e.symm))) (cT K).size);obtain ⟨ak,c4,rfl,_,_⟩:=U.slice;have Y:ag.heap[p]? = I.heap[p]? /\ ag.heap[w.heap.size]? = I.heap[w.heap.size]?:=⟨(j.o.block p ae (fun e=>b7.o e.symm)).trans V.1,(j.o.block _ ab (fun e=>b8.o e.symm)).trans V.2⟩;have aG:=aT (fun(k:Nat) (f:dU w k)=>(j.o.block k (bG f.lt (aH (gM ao) t.size)) (fun e=>dU.ne (f.same ((t.block k (pK f.lt ao)).trans (am.o.block k f.lt))) (by decide) (by decide) (an.o.ty k e.symm))).trans ((t.block k (pK f.lt ao)).trans (am.o.block k f.lt)));have aw:=aT (G.o.nums.keep (w':=ag) (fun _ _ h=>h.elim) (fun k f=>j.o.block k (G.o.nums.lt k f).2 (fun e=>gZ G.o.nums G.o.nodes (by decide) f e.symm)) j.o.size);have bf:w.heap.size<=ag.heap.size:=aH (gM ab) j.o.size;have aR:=E (Y.1.trans P2) 2;have bd:=aT (xR p T ⟨op,nm,⟨L,M,J⟩,args,N⟩ a b g c d e ag ⟨B,ar,c2,aR,aw.o,bG ae j.o.size⟩ (c6.o.keep (fun k _ f=>aG.o k f) bf).toI cq.o (lW b5.o.args (by decide)) c5.o b1.o.nn);clear U K aa aR;refine r.out _ _ (by(exact⟨E (Y.1.trans P2) 2,Y.2⟩)) (fun hHeld5=>?_);clear r v;refine aV 16 fun v r=>?_;go_simp
    go_at_call 137
    refine bd.o.mono ?_;rintro cc br ⟨rfl,A⟩;generalize ba:dJ T ⟨op,nm,⟨L,M,J⟩,args,N⟩=R;have bK:=aT ba;clear ba;obtain ⟨a9,aB⟩:=R;have ax:=aT (aw.o.below A aA);have ai:=aT ((ay.o.keep (fun b a6 H=>A.block b a6) (fun k f=>A.block k (ay.o.lt k f).2) A.size));have z:=aT A;obtain ⟨cB,bk,bm,bl⟩:=ax.o;have aM:=aT bk;have aP:=aT bm;have aN:=aT bl;have cR:=aH bf A.size;have cE:B<=br.heap.size:=aH ce (aH j.o.size A.size);have be:p<br.heap.size:=bG ae (aH j.o.size A.size);have Q:=And.intro ((A.block p (bG ae j.o.size)).trans Y.1) ((A.block _ (bG ab j.o.size)).trans Y.2);clear A bk bm bl;dsimp only;refine r.out _ _ (by(exact⟨E (Q.1.trans P2) 2,Q.2⟩)) (fun hHeld6=>?_);clear r v;refine aV 17 fun v r=>?_;go_simp;refine r.out _ _ (by(exact⟨E ((fB _ _ _ be).trans (Q.1.trans P2)) 2,(fB _ _ _ (bG ab (aH j.o.size z.o.size))).trans Q.2⟩)) (fun hHeld7=>?_);clear r v;refine aV 18 fun v r=>?_;refine bZ (by rfl) (.tmp 45) (.tmp 49) (by rfl) underlying127 cr ct cu cv rfl (by decide) (by rfl) (by rfl) (aM.o.alloc _) (Src.lit (kH.lit (us:=[.bool a9,.bool aB]) rfl) rfl) aHt (by unfold maxLen;omega) (by omega) (by simp;omega) ?_;intro v' C U K aa;have D:=aT (cT K);have aJ:=aT (nR aa);have aL:=aT (cA.push (R:=aE3) (S:=fun _=>False) (x:=(a9,aB)) aP.o aN.o (aC1.2 rfl) U (fun _ _ h=>h.elim) (cT K).size);obtain ⟨a1,a2,rfl,_,_⟩:=U.slice;have F:C.heap[p]? = I.heap[p]? /\ C.heap[w.heap.size]? = I.heap[w.heap.size]?:=⟨(D.o.block p be (fun e=>b9.o e.symm)).trans Q.1,(D.o.block _ (bG ab (aH j.o.size z.o.size)) (fun e=>bA.o e.symm)).trans Q.2⟩;have bS:C.cell? ⟨p,1,none⟩=some (.slice aq T.nodes.length c1):=E (F.1.trans P2) 1;have bU:C.cell? ⟨p,2,none⟩=some (.slice ar T.nums.length c2):=E (F.1.trans P2) 2;have bI:C.frozen? ⟨p,2,none⟩=false:=aQ (F.1.trans P2) 2;have bE:C.frozen? ⟨p,1,none⟩=false:=aQ (F.1.trans P2) 1;clear U K aa;refine r.out _ _ (by(exact⟨E (F.1.trans P2) 2,F.2⟩)) (fun hHeld8=>?_);clear r v;(try simp only [Act.put,sA,sB,sC]);refine aE 19 ?_;refine aE 20 ?_;refine aV 21 fun v r=>?_;go_simp;refine r.out _ _ (by(exact⟨(aGj _ _ _ _ (show(⟨p,1,none⟩:Addr)≠⟨p,2,none⟩ by simp)).trans (E (F.1.trans P2) 2),by rw [dZ _ _ _ _ (by simp;omega)];exact F.2⟩)) (fun hHeld9=>?_);clear r v;(try simp only [Act.put,sA,sB,sC]);refine cF (by decide +kernel) ?_;simp only [dL,cW];have a3:=aT (fun(k:Nat) (f:k<P.heap.size) (ad:Value.ownBlock (.slice aq T.nodes.length c1)≠some k) (af:Value.ownBlock (.slice ar T.nums.length c2)≠some k)=>((D.o.block k (bG f (aH j.o.size z.o.size)) (fun e=>af e.symm)).trans ((z.o.block k (bG f j.o.size)).trans (j.o.block k f (fun e=>ad e.symm))):C.heap[k]? = P.heap[k]?));have av:=aT (fun(k:Nat) (f:dU P k)=>a3.o k f.lt (fun e=>dU.ne f (by decide) (by decide) (G.o.nodes.ty k e)) (fun e=>dU.ne f (by decide) (by decide) (G.o.nums.ty k e)));have aK:=aT ((ai.o.keep (w':=C) (fun b _ H=>by
     have bb:=H.2.lt;exact(av.o b H.2).trans ((z.o.block b (bG bb j.o.size)).trans (j.o.block b bb (fun e=>dU.ne H.2 (by decide) (by decide) (G.o.nodes.ty b e.symm)))).symm) (fun k f=>D.o.block k (ai.o.lt k f).2 (fun e=>gZ ai.o ax.o (by decide) f e.symm)) D.o.size).mono (S':=rI T.X C) (fun b _ H=>H.same (av.o b H.2)))
    obtain ⟨bq,bo⟩:=ap.o.put (W:=C) (v1':=.slice ak (T.nodes.length+1) c4) (v2':=.slice a1 (T.nums.length+1) a2) (D.o.os.trans (z.o.os.trans (j.o.os.trans t.os))) (D.o.tape.trans (z.o.tape.trans (j.o.tape.trans t.tape))) (D.o.output.trans (z.o.output.trans (j.o.output.trans t.output))) (aH t.size (aH j.o.size (aH z.o.size D.o.size)))
     (fun k f ad af=>(a3.o k (bG f t.size) ad af).trans (t.block k f)) (aI.o.imp id fun a5 k f=>aH t.size (a5 k f)) (aJ.o.imp id fun a5 k f=>aH t.size (aH j.o.size (aH z.o.size (a5 k f)))) aK.o aL.o
    have az:=aT bq;have aS:=aT ((dA.of_below bR am.o).trans bo);clear bq bo;go_wp2;clear bS bE bU bI a3 av aK aL aJ D F z ai ax Q aM aP aN Y ay aI j aG aw bd V t bs G an bu bt cj c7 cl ap b2 P2 bQ b7 b9 b8 bA;generalize (C.setCell ⟨p,1,none⟩ (.slice ak (T.nodes.length+1) c4)).setCell ⟨p,2,none⟩ (.slice a1 (T.nums.length+1) a2)=aX at *;refine zG 11 (by kernel_rfl) (by kernel_rfl) ?_;intro W a4;have aj:dO B p { T with nodes:=T.nodes ++ [⟨op,nm,⟨L,M,J⟩,args,N⟩],nums:=T.nums ++ [(a9,aB)] } W q (.slice ak (T.nodes.length+1) c4) (.slice a1 (T.nums.length+1) a2) m:=by rw [a4];exact az.o.all (aF aX)
    have aU:dA p w W:=by rw [a4];exact aS.o.trans (.of_below az.o.plt (aF aX))
    have a8:W.cell? ⟨p,3,none⟩=some (.map (some m)):=E aj.blk 3;have bV:W.cell? ⟨p,1,none⟩=some (.slice ak (T.nodes.length+1) c4):=E aj.blk 1;have a0:=aT aj;have aW:=aT aU;clear a4 aj aU az aS;simp only [yO,vQ,dL,cW]
    repeat still_step
    refine wpStill_nil ?_;obtain ⟨aD,cS,bh,bj⟩:=a0.o.ids.store underlying9 underlying128 (by have:=b1.o.cn;show T.cnt<_;unfold maxLen;omega) b6.o (.int .i64 (T.nodes.length:Int));have bi:qQ prog 9 m (T.cnt+1) (mV fun k=>if k=O then some (T.nodes.length:Int) else T.ids k) aD:=by
     have e:aDc (mV T.ids) O (some (.int .i64 (T.nodes.length:Int)))=mV fun k=>if k=O then some (T.nodes.length:Int) else T.ids k:=by
      funext k
      unfold aDc mV;by_cases bc:k=O
      ·simp [bc]
      ·simp [bc]
     rw [<-e];have af:(mV T.ids O).isSome=false:=by unfold mV;rw [bO.o];rfl
     have a7:=bh;dsimp only at a7;rw [af] at a7;exact a7
    obtain ⟨al,bn⟩:=a0.o.setIds bj bi;have bg:=al.ids.look underlying9 underlying128 (qF aD) b6.o;have aY:mV (fun k=>if k=O then some (T.nodes.length:Int) else T.ids k) O=some (.int .i64 (T.nodes.length:Int)):=by simp [mV]
    rw [aY] at bg;simp only [yW] at bg;have cV:aD.cell? ⟨p,3,none⟩=some (.map (some m)):=E al.blk 3;have bD:=aT al;have bC:=aT (aW.o.trans bn);clear bh bj bi al bn aY a8 bV a0 aW;go_wp2;go_ret2;refine⟨by rw [au.o];rfl,?_,bC.o⟩;rw [au.o,bK.o];exact⟨q,_,_,m,bD.o⟩
abbrev fA (r:cJ) (a:Option Addr) (c:Nat) (b:Option Addr) (d:Nat):Value:=.agg #[.bool r.neg,.slice a r.num.length c,.slice b r.den.length d]
theorem aJg (r:cJ) (a b:Option Addr) (c d:Nat) (w:World):Calls prog 84 #[fA r a c b d] w fun e w'=>e = .returned (.bool (mE r))/\Below w.heap.size w w':=by
 have hd:=@Z (mE r=(!r.neg && (decide (r.num.length=0) && decide (r.den.length=0)))) rfl;obtain ⟨q,f,k⟩:=r;dsimp only at *;cases q
 case true=>
  have j:=@Z (false=mE ⟨true,f,k⟩) (by rw [hd.o];rfl);go_enter func84,ntmps84
  go_wp2;go_ret;exact⟨aI j.o,bJ⟩
 case false=>
  by_cases m:f.length=0
  ·have j:=@Z (mE ⟨false,f,k⟩=decide (k.length=0)) (by rw [hd.o];simp [m]);clear hd;obtain rfl:f = []:=jR m;clear m;go_enter func84,ntmps84
   go_wp2;go_ret;exact⟨aI (by rw [j.o,<-aXh]),bJ⟩
  ·have j:=@Z (false=mE ⟨false,f,k⟩) (by rw [hd.o];simp [m]);have p:¬(f.length:Int)=0:=by omega
   have t:decide ((f.length:Int)=0)=false:=by simpa using p
   go_enter func84,ntmps84
   go_wp2;go_ret;exact⟨aI j.o,bJ⟩
theorem bT.at64 {S:Nat->Prop} {w:World} {a:Option Addr} {n:Nat} {xs:List Int} (h:bT cH.u64 S w a n xs) {k:Nat} (c:k<xs.length):∃b o,a=some ⟨b,o,none⟩/\w.cell? ⟨b,o+k,none⟩=some (.int .u64 (nth xs k))/\okU (nth xs k):=by
 obtain ⟨b,o,cs,e,_,d,f⟩:=h.at (cK c);have:=f 0 (.int .u64 xs[k]) (by rw [d.1];rfl);rw [cE c];exact⟨b,o,e,by simpa [cH.u64] using this,d.2⟩
theorem gS {S:Nat->Prop} (a:Option Addr) (n c:Nat) (xs:List Int) (w:World) (f:bT cH.u64 S w a n xs) (x:n<1099511627776):Calls prog 128 #[.slice a n c] w fun e w'=>e = .returned (.bool (iB xs))/\w=w':=by
 have hd:=@Z (iB xs=(decide (xs.length<=64) && (decide (xs.length=0) || !(nth xs (xs.length - 1) == 0)))) rfl;have j:=f.1;by_cases t:n<=64
 case neg=>
  have d:=@Z (false=iB xs) (by rw [hd.o];simp [show ¬xs.length<=64 by omega]);have m:¬(n:Int)<=64:=by omega
  have v:decide ((n:Int)<=64)=false:=by simpa using m
  clear f j hd;go_enter func128,ntmps128
  go_wp2;go_ret;exact⟨aI d.o,rfl⟩
 have m:(n:Int)<=64:=by omega
 by_cases p:n=0
 ·have d:=@Z (true=iB xs) (by rw [hd.o];simp [show xs.length=0 by omega]);subst p;clear f j hd m;go_enter func128,ntmps128
  go_wp2;go_ret;exact⟨aI d.o,rfl⟩
 ·obtain ⟨k,rfl⟩:∃k,n=k+1:=⟨n - 1,by omega⟩;obtain ⟨b,o,rfl,z,_⟩:=f.at64 (k:=k) (by omega);have d:=@Z (iB xs = !(nth xs k == 0)) (by rw [hd.o,j,bV (show k+1<=64 by omega),aR (show ¬k+1=0 by omega)];rfl);have q:¬((k+1:Nat):Int)=0:=by omega
  have r:decide (((k+1:Nat):Int)=0)=false:=by simpa using q
  clear f j hd;generalize nth xs k=y at *;go_enter func128,ntmps128
  go_wp2;go_ret;exact⟨aI d.o.symm,rfl⟩
theorem zO (w:World):bT cH.u64 (fun _=>True) (w.alloc (.cells #[.int .u64 1] 177)) (some ⟨w.heap.size,0,none⟩) 1 [1]:=by
 refine⟨rfl,fun _=>⟨w.heap.size,0,rfl,by simp,trivial,fun j x a=>?_⟩⟩
 match j,a with
 |
  0,a=>
  simp at a;subst a;refine⟨[.int .u64 1],⟨rfl,by unfold okU;omega⟩,fun i u b=>?_⟩;rw [kO]
  simpa [cH.u64] using b
theorem aUu (w:World):Calls prog 170 #[.int .i64 1] w fun e w'=>e = .returned (.slice (some ⟨w.heap.size,0,none⟩) 1 1)/\w'=w.alloc (.cells #[.int .u64 1] 177):=by
 go_enter func170,ntmps170
 go_wp2;go_ret;exact⟨rfl,rfl⟩
theorem tP (w:World):Calls prog 130 #[] w fun e w'=>e = .returned (.slice (some ⟨w.heap.size,0,none⟩) 1 1)/\w'=w.alloc (.cells #[.int .u64 1] 177):=by
 have h:=Z (aUu w);go_enter func130,ntmps130
 go_wp2_with fail
 refine h.o.mono ?_;rintro e w' ⟨rfl,rfl⟩;go_wp2;go_ret;exact⟨rfl,rfl⟩
theorem gT:0<aK:=by decide
def bY (l:List Int):Prop:=∀x∈l,okU x
theorem iL:aJ []=0:=rfl
theorem iT (x:Int) (l:List Int):aJ (x :: l)=x.toNat+aK * aJ l:=rfl
theorem eY (a b:List Int):aJ (a++b)=aJ a+aK ^ a.length * aJ b:=by
 induction a with
 | nil=>simp [aJ]
 |
  cons x a ih=>
  rw [tH,iT,iT,ih,fQ,iF,cN,<-nB,<-eU,dK aK (aK ^ a.length)]
theorem iC {l:List Int} (h:bY l):aJ l<aK ^ l.length:=by
 induction l with
 | nil=>simp [aJ]
 |
  cons x l ih=>
  have a:okU x:=h x (by simp);have c:=ih fun y hy=>h y (by simp [hy])
  rw [iT,fQ,iF];have d:x.toNat<aK:=by have:=a.1;have:=a.2;unfold aK;omega
  have b:aK * (aJ l+1)<=aK * aK ^ l.length:=lU _ c;rw [cN,jN] at b;rw [dK (aK ^ l.length)];omega
def limbs (n:Nat):List Int:=if _h:n=0 then [] else((n % aK:Nat):Int) :: limbs (n / aK)
termination_by n
decreasing_by exact zA (by omega) (by decide)
theorem dI:limbs 0 = []:=by unfold limbs;rfl
theorem iU {n:Nat} (h:0<n):limbs n=((n % aK:Nat):Int) :: limbs (n / aK):=by rw [limbs,dif_neg (by omega)]
theorem eO (n:Nat):bY (limbs n):=by
 induction n using Nat.strongRecOn with
 |
  _ n ih=>
  rcases gD n with rfl | h
  ·rw [dI];intro x a;simp at a
  ·rw [iU h];intro x a;rcases mB.1 a with rfl | a
   ·have:=gN n gT;constructor
    ·omega
    ·unfold aK at *;omega
   ·exact ih _ (zA h (by decide)) x a
theorem aY (n:Nat):aJ (limbs n)=n:=by
 induction n using Nat.strongRecOn with
 |
  _ n ih=>
  rcases gD n with rfl | h
  ·rw [dI];rfl
  ·rw [iU h,iT,ih _ (zA h (by decide))];have:=lC n aK;rw [pX];exact this
def trimmed (l:List Int):Prop:=∀x,l.getLast? = some x->x≠0
theorem rK (n:Nat):trimmed (limbs n):=by
 induction n using Nat.strongRecOn with
 |
  _ n ih=>
  rcases gD n with rfl | h
  ·rw [dI];intro x a;cases a
  ·rw [iU h];intro x a;rcases gD (n / aK) with b | b
   ·rw [b,dI] at a;simp at a;subst a;have:=lC n aK;rw [b] at this;intro e;have e:n % aK=0:=Int.natCast_eq_zero.1 e;rw [e] at this;omega
   ·rw [iU b,List.getLast?_cons_cons,<-iU b] at a;exact ih _ (zA h (by decide)) x a
theorem aPc {l:List Int} (h:bY l) (b:aJ l=0):∀x∈l,x=0:=by
 induction l with
 | nil=>intro x a;simp at a
 |
  cons y l ih=>
  rw [iT] at b;have hy:okU y:=h y (by simp);have f:y.toNat=0:=by omega
  have c:aK * aJ l=0:=by omega
  have d:aJ l=0:=(Nat.mul_eq_zero.1 c).resolve_left (by decide);intro x a;rcases mB.1 a with rfl | a
  ·have:=hy.1;omega
  ·exact ih (fun z e=>h z (by simp [e])) d x a
theorem aDm {l:List Int} (h:bY l) (d:trimmed l):limbs (aJ l)=l:=by
 induction l with
 | nil=>exact dI
 |
  cons x l ih=>
  have c:okU x:=h x (by simp);have f:bY l:=fun y hy=>h y (by simp [hy])
  have k:trimmed l:=by
   intro y hy;cases l with
   | nil=>cases hy
   | cons z l=>exact d y (by rw [List.getLast?_cons_cons];exact hy)
  have e:x.toNat<aK:=by have:=c.1;have:=c.2;unfold aK;omega
  have j:0<aJ (x :: l):=by
   rcases gD (aJ (x :: l)) with a | a
   ·have m:=aPc h a;cases b:(x :: l).getLast? with
    | none=>simp at b
    | some y=>exact absurd (m y (List.mem_of_getLast? b)) (d y b)
   ·exact a
  rw [iU j,iT,aAq,lY e,aCj _ _ gT,nM e,dT,ih f k];have:=c.1
  congr 1
  omega
theorem fO {n k:Nat} (h:n<aK ^ k):(limbs n).length<=k:=by
 induction k generalizing n with
 | zero=>
    rw [vS] at h;obtain rfl:n=0:=by omega
    rw [dI];exact aA
 |
  succ k ih=>
  rcases gD n with rfl | a
  ·rw [dI];exact aN
  ·rw [iU a,fQ];have:n / aK<aK ^ k:=by rw [yM gT,<-iF];exact h
   have:=ih this;omega
theorem uQ (n:Nat):n<aK ^ (limbs n).length:=by have:=iC (eO n);rwa [aY] at this
theorem zP {n:Nat} (h:0<n):aK ^ ((limbs n).length - 1)<=n:=by
 induction n using Nat.strongRecOn with
 |
  _ n ih=>
  rcases gD (n / aK) with a | a
  ·rw [iU h,a,dI];exact h
  ·have:=ih _ (zA h (by decide)) a;rw [iU h,fQ,rH];have b:1<=(limbs (n / aK)).length:=by rw [iU a];simp
   have e:(limbs (n / aK)).length=(limbs (n / aK)).length - 1+1:=by omega
   rw [e,iF];exact(xI gT).1 this
theorem iG {a b:Nat} (h:a<=b):(limbs a).length<=(limbs b).length:=fO (lW h (uQ b))
theorem jH {n:Nat}:(limbs n).length=0↔n=0:=by
 constructor
 ·intro h;have:=uQ n;rw [h,vS] at this;omega
 ·rintro rfl;rw [dI];rfl
theorem bK {n:Nat}:0<(limbs n).length↔0<n:=by
 have:=@jH n;omega
theorem bU {l:List Int} {i:Nat} (h:i<l.length):aJ (l.take (i+1))=aJ (l.take i)+aK ^ i * (nth l i).toNat:=by
 rw [jD h,eY,eS,pZ (by omega),cE h,iT,iL,nO,cU]
theorem aAx {l:List Int} {i:Nat} (h:i<l.length):aJ (l.drop i)=(nth l i).toNat+aK * aJ (l.drop (i+1)):=by
 rw [kY h,iT,cE h]
theorem aDn (l:List Int) (i:Nat) (h:i<=l.length):aJ l=aJ (l.take i)+aK ^ i * aJ (l.drop i):=by
 have:=eY (l.take i) (l.drop i);rw [xJ,eS,pZ h] at this;exact this
theorem bY.take {l:List Int} (h:bY l) (i:Nat):bY (l.take i):=fun x a=>h x (sY a)
theorem bY.append {a b:List Int} (h:bY a) (k:bY b):bY (a++b):=fun x c=>(fT.1 c).elim (h x) (k x)
theorem bY.nth {l:List Int} (h:bY l) {i:Nat} (a:i<l.length):okU (nth l i):=h _ (cB a)
theorem okU.lt {x:Int} (h:okU x):x.toNat<aK:=by have:=h.1;have:=h.2;unfold aK;omega
theorem okU.cast {x:Int} (h:okU x):(x.toNat:Int)=x:=by have:=h.1;omega
theorem gJ {n:Nat} (h:n<aK):okU (n:Int):=⟨by omega,by unfold aK at h;omega⟩
theorem xS {l:List Int} {k:Nat} (h:bY l) (c:k<=l.length) (e:∀j,k<=j->j<l.length->nth l j=0) (b:k=0\/nth l (k - 1)≠0):l.take k=limbs (aJ l):=by
 have hd:aJ (l.drop k)=0:=by
  have:∀m,m<=l.length - k->aJ (l.drop (l.length - m))=0:=by
   intro m
   induction m with
   | zero=>intro _;rw [Nat.sub_zero,tG];rfl
   |
    succ m ih=>
    intro f;rw [aAx (by omega),e _ (by omega) (by omega),show l.length - (m+1)+1=l.length - m by omega,ih (by omega)];rfl
  have:=this (l.length - k) aA
  rwa [show l.length - (l.length - k)=k by omega] at this
 have d:aJ l=aJ (l.take k):=by rw [aDn l k c,hd];omega
 rw [d,aDm (h.take k)];intro x a;rcases b with rfl | b
 ·simp at a
 ·rcases gD k with rfl | p
  ·simp at a
  ·rw [aGk,eS,pZ c,sS (by omega),cK (by omega)] at a;injection a with a
   rw [<-a,<-cE];exact b
theorem zQ {a b:List Int} (f:bY a) (j:bY b) (tb:trimmed b) (h:a.length<b.length):aJ a<aJ b:=by
 have m:=iC f;have d:=aDm j tb;have k:0<aJ b:=by
  rcases gD (aJ b) with c | c
  ·rw [c,dI] at d;rw [<-d] at h;simp at h
  ·exact c
 have e:=zP k;rw [d] at e;have p:aK ^ a.length<=aK ^ (b.length - 1):=pW gT (by omega);omega
def fZ (a b:Nat):Int:=if a<b then -1 else if a=b then 0 else 1
theorem iV {l:List Int} (x:Nat):aJ (l ++ [(x:Int)])=aJ l+aK ^ l.length * x:=by
 rw [eY,iT,iL,pX,nO,cU]
theorem bY.snoc {l:List Int} (h:bY l) {x:Nat} (a:x<aK):bY (l ++ [(x:Int)]):=
 h.append fun y hy=>by rw [eP.1 hy];exact gJ a
theorem aRh {ds:List Int} {i c x y a B:Nat} (h:aJ ds+aK ^ i * c=a+B) (d:ds.length=i) :
  aJ (ds ++ [(((x+y+c) % aK:Nat):Int)])+aK ^ (i+1) * ((x+y+c) / aK)=a+aK ^ i * x+(B+aK ^ i * y):=by
 have b:=lC (x+y+c) aK;rw [iV,d,iF,eU,nB,<-cN,b,cN,cN];omega
theorem aDo {x y c:Nat} (b:x<aK) (hy:y<aK) (a:c<=1):(x+y+c) / aK<=1:=by
 have:(x+y+c) / aK<2:=by rw [yM gT];omega
 omega
theorem aFo {x k c o:Nat} (j:x<aK) (e:k<aK) (d:c<aK) (f:o<aK):x * k+c+o<aK * aK:=by
 have a:x * k<=(aK - 1) * (aK - 1):=zD (by omega) (by omega);have b:(aK - 1) * (aK - 1)+(aK - 1)+(aK - 1)<aK * aK:=by decide
 omega
theorem row_step {ds:List Int} {i c a x k o d b e:Nat} (h:aJ ds+aK ^ i * c=e+b * k) (j:ds.length=i) (m:d+aK * a=x * k+c+o) :
  aJ (ds ++ [(d:Int)])+aK ^ (i+1) * a=e+aK ^ i * o+(b+aK ^ i * x) * k:=by
 rw [iV,j,iF];have f:aK ^ i * (d+aK * a)=aK ^ i * (x * k+c+o):=by rw [m]
 rw [cN,cN,cN,<-eU,<-eU] at f;rw [fC];omega
theorem aDp {a b i k:Nat} (c:a<aK ^ i) (d:b<aK ^ k):a * b<aK ^ (i+k):=by
 rw [jT];exact Nat.mul_lt_mul'' c d
theorem aL6 {a b i k:Nat} (f:a<aK ^ i) (j:b<aK ^ k) (c:k<=i):a+b<aK ^ (i+1):=by
 have d:aK ^ k<=aK ^ i:=pW gT c;rw [iF];have e:aK ^ i * 2<=aK ^ i * aK:=lU _ (by decide);omega
theorem aJh {q h l b a d:Nat} (k:b<aK) (c:q * (a * aK+d)<=(h * aK+l) * aK+b) (hd:0<a):q<=(h * aK+l) / a:=by
 rw [xI hd];have f:q * a * aK<=(h * aK+l) * aK+b:=by
  rw [cN,<-eU q a aK] at c;exact aH (yX _ _) c
 have e:q * a * aK<(h * aK+l+1) * aK:=by rw [fC (h * aK+l) 1 aK,mC];omega
 have j:=aCc e;omega
theorem aDq {q qt r h l d a c:Nat} (j:qt * (a * aK+c)<=(h * aK+l) * aK+d) (f:q * a+r=h * aK+l) (m:qt<=q) (k:r * aK+d<q * c):0<q/\qt<=q - 1:=by
 have b:0<q:=by
  rcases gD q with rfl | b
  ·rw [nW] at k;omega
  ·exact b
 refine⟨b,?_⟩;rcases nZ qt q with e | e
 ·omega
 ·obtain rfl:qt=q:=by omega
  rw [cN,<-eU qt a aK,<-f,fC (qt * a) r aK] at j;omega
theorem aL7 {q r a N:Nat} (b:q * a+r=N) (c:0<q):(q - 1) * a+(r+a)=N:=by
 obtain ⟨k,rfl⟩:∃k,q=k+1:=⟨q - 1,by omega⟩;rw [fC,mC] at b;rw [rH];omega
theorem aPd {p r d:Nat} (j:d<aK):(p / aK<r\/p / aK=r/\p % aK<=d)↔p<=r * aK+d:=by
 have e:=lC p aK;have f:=gN p gT;generalize p / aK=a at *;generalize p % aK=c at *;constructor
 ·rintro (h | ⟨rfl,h⟩)
  ·have:aK * (a+1)<=aK * r:=lU _ h;rw [cN,dK aK r] at this;omega
  ·rw [dK] at e;omega
 ·intro h;rcases Nat.lt_trichotomy a r with b | b | b
  ·exact .inl b
  ·subst b;rw [dK] at e;exact .inr ⟨rfl,by omega⟩
  ·have:aK * (r+1)<=aK * a:=lU _ b;rw [cN,dK aK r] at this;omega
theorem aRi {X b m c a:Nat} (k:X<(c+1) * aK ^ m) (f:a * aK ^ m<=b):X / b * a<=c:=by
 have j:X / b * b<=X:=aCm X b;have d:X / b * (a * aK ^ m)<=X / b * b:=lU _ f;rw [<-eU] at d;have e:X / b * a * aK ^ m<(c+1) * aK ^ m:=by omega
 have:=aCc e;omega
theorem aRj {X b:Nat} (h:X<b * aK):X / b<aK:=vK h
theorem aPe {ds:List Int} {i j P c b y k f d l e a:Nat} (h:aJ ds+P=j+aK ^ i * (b+c)) (q:ds.length=i) (r:l+aK * e=y * k+c) (t:d+l+b=f+aK * a) :
  aJ (ds ++ [(d:Int)])+(P+aK ^ i * (y * k))=j+aK ^ i * f+aK ^ (i+1) * (a+e):=by
 rw [iV,q,iF];have m:d+y * k+(b+c)=f+aK * (a+e):=by rw [cN aK];omega
 generalize aK ^ i=p at *;have v:p * d+p * (y * k)+p * (b+c)=p * f+p * aK * (a+e):=by rw [eU p aK,<-cN,<-cN,<-cN,m]
 omega
theorem aPf {x l b:Nat} (f:x<aK) (e:l<aK) (d:b<=1):(x+aK - l - b) % aK+l+b=x+aK * (if x<l+b then 1 else 0):=by
 by_cases a:x<l+b
 ·rw [if_pos a,jN];by_cases c:x+aK - l - b<aK
  ·rw [lY c];omega
  ·omega
 ·rw [if_neg a,nO,show x+aK - l - b=(x - l - b)+aK by omega,Nat.add_mod_right,lY (by omega)];omega
theorem aPg {y k c:Nat} (hy:y<aK) (j:k<aK) (e:c<aK) :
  y * k / aK+(y * k % aK+c) / aK<aK/\(y * k % aK+c) % aK+aK * (y * k / aK+(y * k % aK+c) / aK)=y * k+c:=by
 have t:=aFo hy j e (show 0<aK by decide);have q:=lC (y * k) aK;have r:=lC (y * k % aK+c) aK;generalize y * k / aK=f at *;generalize y * k % aK=b at *;generalize (b+c) / aK=c1 at *;generalize (b+c) % aK=m at *;generalize y * k=p at *;have d:m+aK * (f+c1)=p+c:=by rw [cN];omega
 exact⟨by apply yK (a:=aK);omega,d⟩
theorem aRk {Y b n:Nat} (e:Y<aK ^ (n+1)) (f:b<aK ^ n) :
  (Y+b<aK ^ (n+1)->Y / aK ^ n<=(Y+b) % aK ^ (n+1) / aK ^ n/\(Y+b) % aK ^ (n+1)=Y+b) /\
  (aK ^ (n+1)<=Y+b->(Y+b) % aK ^ (n+1) / aK ^ n<Y / aK ^ n/\(Y+b) % aK ^ (n+1)+aK ^ (n+1)=Y+b):=by
 have c:0<aK ^ n:=zF gT;have d:aK ^ (n+1)=aK ^ n * aK:=iF _ _;constructor
 ·intro h;rw [lY h];exact⟨Nat.div_le_div_right (by omega),rfl⟩
 ·intro h;have a:(Y+b) % aK ^ (n+1)=Y+b - aK ^ (n+1):=by
   have:=pW gT (show n<=n+1 by omega);rw [Nat.mod_eq_sub_mod h,lY];omega
  rw [a];refine⟨?_,by omega⟩;rw [nM (by omega)];refine Nat.div_pos ?_ c;have:aK ^ n * 2<=aK ^ n * aK:=lU _ (by decide);omega
theorem aFp {N Q R b i:Nat} (h:N=Q * aK ^ (i+1) * b+R) (q:0<b) (p:R<b * aK ^ (i+1)) :
  N=(Q * aK+R / aK ^ i / b) * aK ^ i * b+(R / aK ^ i % b * aK ^ i+R % aK ^ i)/\R / aK ^ i % b * aK ^ i+R % aK ^ i<b * aK ^ i/\R / aK ^ i / b<aK:=by
 have a:0<aK ^ i:=zF gT;have c:=lC R (aK ^ i);have e:=lC (R / aK ^ i) b;have x:=gN R a;have f:=gN (R / aK ^ i) q;have j:R / aK ^ i<b * aK:=by
  rw [yM a,eU,dK aK,<-iF];exact p
 generalize z:R / aK ^ i=X at *;generalize B:R % aK ^ i=r at *;have k:X / b<aK:=aRj j;generalize hd:X / b=d at *;generalize A:X % b=m at *;refine⟨?_,?_,k⟩
 ·rw [h,<-c,iF,fC,fC];have t:Q * (aK ^ i * aK) * b=Q * aK * aK ^ i * b:=by rw [dK (aK ^ i) aK,eU Q aK]
  have v:aK ^ i * X=d * aK ^ i * b+m * aK ^ i:=by
   rw [<-e,cN,dK (aK ^ i) m,dK d,eU (aK ^ i) d b,dK d b];omega
  omega
 ·have:(m+1) * aK ^ i<=b * aK ^ i:=kF _ f;rw [fC,mC] at this;omega
theorem aJi {N Q r x k:Nat} (h:N=Q * k+r) (a:0<k) (b:r<k) (d:x<aK) :
  N * aK+x=(Q * aK+(r * aK+x) / k) * k+(r * aK+x) % k/\(r * aK+x) % k<k/\(r * aK+x) / k<aK:=by
 have c:=lC (r * aK+x) k;refine⟨?_,gN _ a,?_⟩
 ·rw [h,fC (Q * k) r aK,fC (Q * aK),dK ((r * aK+x) / k) k,aCn Q k aK];omega
 ·apply vK;have:(r+1) * aK<=k * aK:=kF _ b;rw [fC,mC] at this;omega
theorem fV:(2:Nat) ^ 64=aK:=by decide
theorem xU (m k:Nat):(2:Nat) ^ (64 * m+k)=aK ^ m * 2 ^ k:=by rw [jT,Nat.pow_mul,fV]
theorem zR {x k:Nat} (c:x<aK) (d:k<64):x * 2 ^ k % aK+aK * (x / 2 ^ (64 - k))=x * 2 ^ k/\x / 2 ^ (64 - k)<2 ^ k:=by
 have e:aK=2 ^ (64 - k) * 2 ^ k:=by rw [<-jT,show 64 - k+k=64 by omega,fV]
 have b:x * 2 ^ k / aK=x / 2 ^ (64 - k):=by rw [e,aGs _ _ (mA k)]
 have a:=lC (x * 2 ^ k) aK;rw [b] at a;refine⟨a,?_⟩;rw [yM (mA _),dK,<-e];exact c
theorem aL8 {x k t:Nat} (b:k<=64) (a:t<2 ^ k):t ||| (x * 2 ^ k % aK)=t+x * 2 ^ k % aK:=by
 have e:x * 2 ^ k % aK=(x % 2 ^ (64 - k)) * 2 ^ k:=by
  have:aK=2 ^ (64 - k) * 2 ^ k:=by rw [<-jT,show 64 - k+k=64 by omega,fV]
  rw [this,aCh]
 rw [e,<-Nat.shiftLeft_eq,Nat.or_comm,<-aN8 a,oB]
structure ZD where
 neg:Bool
 n:Nat
def rY (neg:Bool) (n:Nat):ZD:=⟨neg && decide (0<n),n⟩
def gX (a b:ZD):ZD:=if a.neg=b.neg then rY a.neg (a.n+b.n) else if a.n<b.n then rY b.neg (b.n - a.n) else rY a.neg (a.n - b.n)
def aU (a b:ZD):ZD:=rY (a.neg != b.neg) (a.n * b.n)
def uR (a b:ZD):Int:=if a.neg=b.neg then(if a.neg then fZ b.n a.n else fZ a.n b.n) else if a.neg then -1 else 1
def wP (neg:Bool) (n d:Nat):cJ:=⟨neg && decide (0<n / Nat.gcd n d),limbs (n / Nat.gcd n d),limbs (d / Nat.gcd n d)⟩
def mW:cJ:=⟨false,[],[]⟩
def aL9 (r:cJ):Bool:=decide (64<r.num.length) || decide (64<r.den.length)
def fJ (neg:Bool) (n d:Nat):cJ × Int:=if aL9 (wP neg n d) then(mW,4) else(wP neg n d,0)
abbrev fN (r:cJ):Bool:=iR r
structure IsR (r:cJ) (n d:Nat):Prop where
 num:r.num=limbs n
 den:r.den=limbs d
 nl:r.num.length<=64
 dl:r.den.length<=64
 pos:0<d
 co:Nat.gcd n d=1
 sg:r.neg=true->0<n
theorem mQ {xs:List Int} (h:bY xs) (a:iB xs=true):xs=limbs (aJ xs)/\xs.length<=64:=by
 unfold iB at a;simp only [jS,aG6,lA,tA,yQ] at a;refine⟨?_,a.1⟩;have:=xS (l:=xs) (k:=xs.length) h aA (fun j b c=>by omega) a.2
 rwa [nA] at this
theorem qG {n:Nat} (h:(limbs n).length<=64):iB (limbs n)=true:=by
 unfold iB;simp only [jS,aG6,lA,tA,yQ];refine⟨h,?_⟩;rcases gD n with rfl | a
 ·left;rw [dI];rfl
 ·right
  have b:=bK.2 a;rw [cE (by omega)];refine rK n _ ?_;rw [aGk,cK (by omega)]
theorem lP {r:cJ} (j:bY r.num) (k:bY r.den) (h:fN r=true):IsR r (aJ r.num) (aJ r.den):=by
 unfold fN iR at h;simp only [jS,tA,decide_eq_false_iff_not,aGt,beq_iff_eq] at h;obtain ⟨d,e,t,a,f⟩:=h;obtain ⟨b,p⟩:=mQ j d;obtain ⟨c,q⟩:=mQ k e;refine⟨b,c,p,q,?_,f,fun m=>?_⟩
 ·rw [<-bK,<-c];omega
 ·rw [<-bK,<-b];rcases a with a | a
  ·rw [m] at a;cases a
  ·omega
theorem IsR.valid {r:cJ} {n d:Nat} (h:IsR r n d):fN r=true:=by
 unfold fN iR;have a:=qG (n:=n) (by rw [<-h.num];exact h.nl);have b:=qG (n:=d) (by rw [<-h.den];exact h.dl);have f:=bK.2 h.pos;rw [h.num,h.den,a,b,aY,aY,h.co];have c:(r.neg && decide ((limbs n).length=0))=false:=by
  cases e:r.neg with
  | false=>rfl
  |
   true=>
   have:=bK.2 (h.sg e);rw [aR (by omega)];rfl
 rw [c,aR (by omega)];rfl
theorem aOg {neg:Bool} {n d:Nat} (hd:0<d) (a:aL9 (wP neg n d)=false):IsR (wP neg n d) (n / Nat.gcd n d) (d / Nat.gcd n d):=by
 unfold aL9 at a;simp only [yN,decide_eq_false_iff_not] at a;have b:0<Nat.gcd n d:=aGm _ hd;refine⟨rfl,rfl,by omega,by omega,Nat.div_pos (aCv hd (aCq _ _)) b,Nat.coprime_div_gcd_div_gcd b,fun h=>?_⟩;unfold wP at h;simp only [jS,lA] at h;exact h.2
def aUv (r:cJ):ZD:=⟨r.neg,aJ r.num⟩
def aUw (r:cJ):ZD:=⟨false,aJ r.den⟩
def uS (a b:cJ):Int:=if fN a && fN b then uR (aU (aUv a) (aUw b)) (aU (aUv b) (aUw a)) else 0
def oG (a:cJ):cJ:=if fN a then⟨!a.neg && decide (0<a.num.length),a.num,a.den⟩ else mW
def aXj (a b:cJ):ZD:=gX (aU (aUv a) (aUw b)) (aU (aUv b) (aUw a))
def rL (a b:cJ):cJ × Int:=if fN a && fN b then fJ (aXj a b).neg (aXj a b).n (aJ a.den * aJ b.den) else(mW,1)
def wQ (a b:cJ):cJ × Int:=if fN b then rL a (oG b) else(mW,1)
def uH (a b:cJ):cJ × Int:=if fN a && fN b then fJ (a.neg != b.neg) (aJ a.num * aJ b.num) (aJ a.den * aJ b.den) else(mW,1)
def rM (a b:cJ):cJ × Int:=if fN a && (fN b && !decide (b.num.length=0)) then fJ (a.neg != b.neg) (aJ a.num * aJ b.den) (aJ a.den * aJ b.num) else(mW,1)
theorem aRl:∀xs:List Int,∃k,k<=xs.length/\(∀j,k<=j->j<xs.length->nth xs j=0)/\(k=0\/nth xs (k - 1)≠0):=fun xs=>by
 have f:∀m,m<=xs.length->(∀j,m<=j->j<xs.length->nth xs j=0)->∃k,k<=xs.length/\(∀j,k<=j->j<xs.length->nth xs j=0)/\(k=0\/nth xs (k - 1)≠0):=by
  intro m
  induction m with
  | zero=>exact fun a b=>⟨0,a,b,.inl rfl⟩
  |
   succ m ih=>
   intro a b;by_cases c:nth xs m=0
   ·refine ih (by omega) fun j p d=>?_
    by_cases e:j=m
    ·rw [e];exact c
    ·exact b j (by omega) d
   ·exact⟨m+1,a,b,.inr c⟩
 exact f xs.length aA fun j a b=>absurd a (by omega)
theorem bT.cut64 {S:Nat->Prop} {w:World} {a:Option Addr} {n:Nat} {xs:List Int} (h:bT cH.u64 S w a n xs) {k:Nat} (r:k<=n):bT cH.u64 S w a k (xs.take k):=by
 refine⟨by rw [eS,h.1];omega,fun q=>?_⟩;obtain ⟨b,o,e,p,d,f⟩:=h.2 (by omega);refine⟨b,o,e,p,d,fun j x c=>f j x ?_⟩;have m:=(gK.1 c).1;rw [eS] at m;rw [sS (by omega)] at c;exact c
theorem aFq (w:World):(sizeOf 177).run prog w = .ok 1 w:=by kernel_rfl
def aRm (S:Nat->Prop) (a:Option Addr) (x:Nat) (w:World) (e:Ending) (w':World):Prop:=
 ∃a' c',e = .returned (.slice a' (limbs x).length c')/\bT cH.u64 S w a' (limbs x).length (limbs x)/\(limbs x).length<=c'/\c'<=maxLen/\(∀y,a'=some y->a=some y)/\w=w'
def aXk:Value->Nat
 | .slice _ n _=>n
 | _=>0
theorem gY {S:Nat->Prop} (a:Option Addr) (n c:Nat) (xs:List Int) (w:World) (f:bT cH.u64 S w a n xs) (O:n<17592186044416) (Q:n<=c) (A:c<=maxLen) :
  Calls prog 197 #[.slice a n c] w fun e w'=>aRm S a (aJ xs) w e w':=by
 have H:=Z A;obtain ⟨k,C,t,m⟩:=aRl xs;have F:=f.1;have K:k<=n:=by omega
 have d:=Z (xS f.us C t m);have q:=Z (show(xs.take k).length=k by rw [eS];omega);have r:=Z f;have v:=Z F;have M:=Z t;have G:=Z m;have D:=fun(j:Nat) (p:j+1<=c) W=>aAs (P:=prog) (a:=a) (n:=j+1) (c:=c) (k:=j) underlying34 aFq (tL j) p W
 have L:=Z D;clear f F t m A C D;go_enter func197,ntmps197
 go_wp2
 go_loopw [0] (fun x wr=>∃j:Nat,k<=j/\j<=n/\x = .slice a j c/\wr=w) (fun x _=>aXk x)
 case atStart=>exact⟨n,K,aA,rfl,rfl⟩
 case round=>
  obtain ⟨j,N,J,rfl,rfl⟩:=hrel;by_cases p:j=k
  ·subst p;rcases gD j with B | B
   ·subst B;go_wp2;go_ret;have e:=d.o;rw [vQ] at e;refine⟨none,0,?_,?_,?_,aN,fun y h=>(by cases h),rfl⟩
    ·rw [<-e];rfl
    ·rw [<-e];exact bT.nil _ _ _ _
    ·rw [<-e];exact aA
   ·obtain ⟨i,rfl⟩:∃i,j=i+1:=⟨j - 1,by omega⟩;obtain ⟨b,o,rfl,z,_⟩:=r.o.at64 (k:=i) (by rw [v.o];omega);have hy:nth xs i≠0:=G.o.resolve_left (by omega);generalize nth xs i=y at *;have T:(y == 0)=false:=by simpa using hy
    have I:(i:Int)<n:=by omega
    go_wp2;go_ret;refine⟨some ⟨b,o,none⟩,c,?_,?_,?_,H.o,fun y h=>h,rfl⟩
    ·rw [<-d.o,q.o];rfl
    ·rw [<-d.o,q.o];exact r.o.cut64 J
    ·rw [<-d.o,q.o];omega
  ·obtain ⟨i,rfl⟩:∃i,j=i+1:=⟨j - 1,by omega⟩;obtain ⟨b,o,rfl,z,_⟩:=r.o.at64 (k:=i) (by rw [v.o];omega);have E:=M.o i (by omega) (by have:=v.o;omega);rw [E] at z;have I:(i:Int)<n:=by omega
   have R:=L.o i (by omega) wr;clear E;go_wp2
   go_roundw
   case rel=>exact⟨i,by omega,by omega,rfl,trivial⟩
   case measure=>simp [aXk]
theorem uT {P:Program} {f:FuncId} {args:Array Value} {w:World} {a n:Nat} {v:Value}
  (h:Calls P f args (w.drewN (a+n)) fun e w'=>e = .returned v/\w'=w.drewN (a+n)) :
  Calls P f args (w.drewN (a+n)) fun e d=>e = .returned v/\∃m,d=w.drewN (a+m):=
 h.mono fun _ _ ⟨b,c⟩=>⟨b,n,c⟩
theorem vV {xs:List Int} {i:Nat} (h:i<xs.length):aJ xs=aJ (xs.take i)+aK ^ i * ((nth xs i).toNat+aK * aJ (xs.drop (i+1))):=by
 rw [aDn xs i (by omega),aAx h]
theorem aOh {xs ys:List Int} {i:Nat} (c:bY xs) (m:xs.length=ys.length) (b:i<xs.length) (f:∀j,i<j->j<xs.length->nth xs j=nth ys j) (q:nth xs i<nth ys i):aJ xs<aJ ys:=by
 have hd:xs.drop (i+1)=ys.drop (i+1):=by
  refine aC0 (by rw [kQ,kQ,m]) fun j k=>?_
  rw [kQ] at k;have:=f (i+1+j) (by omega) (by omega);rw [cE (xs:=xs) (j:=i+1+j) (by omega),cE (xs:=ys) (j:=i+1+j) (by omega)] at this;rw [cE (by rw [kQ];omega),cE (by rw [kQ];omega),tF,tF];exact this
 rw [vV b,vV (xs:=ys) (i:=i) (by omega),hd];have d:=iC (c.take i);rw [eS,pZ (by omega)] at d;have p:(nth xs i).toNat<(nth ys i).toNat:=by
  have:=(c.nth b).1;omega
 generalize aK * aJ (ys.drop (i+1))=a at *;have e:aK ^ i * ((nth xs i).toNat+a+1)<=aK ^ i * ((nth ys i).toNat+a):=lU _ (by omega);rw [cN (aK ^ i) ((nth xs i).toNat+a) 1,jN] at e;omega
theorem pM {x y:Nat} (h:(limbs x).length<(limbs y).length):x<y:=by
 have:=zQ (eO x) (eO y) (rK y) h
 rwa [aY,aY] at this
theorem tQ {x y:Nat} (h:x<y):fZ x y = -1:=by unfold fZ;rw [if_pos h]
theorem vW {x y:Nat} (h:y<x):fZ x y=1:=by unfold fZ;rw [if_neg (by omega),if_neg (by omega)]
theorem vX (x:Nat):fZ x x=0:=by unfold fZ;rw [if_neg (by omega),if_pos rfl]
theorem aBm (x:Int) (w:World):Calls prog 196 #[.int .u64 x] w fun e w'=>e = .returned (.bool false)/\w'=w:=by
 have a:(x != x)=false:=by simp
 go_enter func196,ntmps196
 go_wp2;go_ret;exact⟨rfl,rfl⟩
theorem aE5 (x y:Int) (w:World):Calls prog 169 #[.int .u64 x,.int .u64 y] w fun e w'=>e = .returned (.int .i64 (compareInt x y))/\w'=w:=by
 have b:=Z (aBm x w);have c:=Z (aBm y w);have hd:=@Z (compareInt x y=if x<y then -1 else if x > y then 1 else 0) rfl;by_cases d:x<y
 ·have a:=Z (show compareInt x y = -1 from by rw [hd.o,if_pos d]);clear hd;go_enter func169,ntmps169
  go_wp2_with fail
  refine b.o.mono ?_;rintro e w' ⟨rfl,rfl⟩
  go_wp2_with fail
  refine c.o.mono ?_;rintro e w' ⟨rfl,rfl⟩;go_wp2;go_ret;exact⟨by rw [a.o];rfl,rfl⟩
 ·by_cases f:y<x
  ·have a:=Z (show compareInt x y=1 from by rw [hd.o,if_neg d,if_pos f]);clear hd;go_enter func169,ntmps169
   go_wp2_with fail
   refine b.o.mono ?_;rintro e w' ⟨rfl,rfl⟩
   go_wp2_with fail
   refine c.o.mono ?_;rintro e w' ⟨rfl,rfl⟩;go_wp2;go_ret;exact⟨by rw [a.o];rfl,rfl⟩
  ·have a:=Z (show compareInt x y=0 from by rw [hd.o,if_neg d,if_neg f]);clear hd;go_enter func169,ntmps169
   go_wp2_with fail
   refine b.o.mono ?_;rintro e w' ⟨rfl,rfl⟩
   go_wp2_with fail
   refine c.o.mono ?_;rintro e w' ⟨rfl,rfl⟩;go_wp2;go_ret;exact⟨by rw [a.o];rfl,rfl⟩
theorem fE {S S':Nat->Prop} (a b:Option Addr) (n m c d x y:Nat) (w:World) (A:bT cH.u64 S w a n (limbs x)) (hy:bT cH.u64 S' w b m (limbs y)) (ag:n<17592186044416) (af:m<17592186044416) :
  Calls prog 129 #[.slice a n c,.slice b m d] w fun e w'=>e = .returned (.int .i64 (fZ x y))/\∃q,w'=w.drewN q:=by
 have F:=A.1;have G:=hy.1;by_cases M:n=m
 case neg=>
  have O:=Z (Tryz.cmp_Compare_int n m w);have W:=Z (show compareInt (n:Int) m=fZ x y from by
   unfold compareInt;by_cases z:n<m
   ·rw [if_pos (by omega),tQ (pM (by omega))]
   ·rw [if_neg (by omega),if_pos (by omega),vW (pM (by omega))])
  have T:¬((n:Int)=m):=by omega
  have ah:((n:Int) != m)=true:=by simpa using T
  clear A hy F G M;go_enter func129,ntmps129
  go_wp2_with fail
  refine O.o.mono ?_;rintro e w' ⟨rfl,rfl⟩;go_wp2;go_ret;exact⟨by rw [W.o];rfl,0,rfl⟩
 subst M;have X:=Z A;have Y:=Z hy;have U:=Z (eO x);have V:=Z (eO y);have D:=Z (aY x);have E:=Z (aY y);have f:=Z F;have r:=Z G;generalize limbs x=xs at *;generalize limbs y=ys at *;clear A hy F G;go_enter func129,ntmps129
 go_wp2
 go_loopw [4,5] (fun aa H wr=>∃j:Nat,j<=n/\aa = .int .i64 0/\H = .int .i64 ((j:Int) - 1)/\Hid (∀k,j<=k->k<n->nth xs k=nth ys k)/\∃q,wr=w.drewN q) (fun _ H _=>(intOf H+1).toNat)
 case atStart=>exact⟨n,aA,rfl,rfl,fun k t p=>absurd t (by omega),0,rfl⟩
 case round=>
  obtain ⟨j,ae,rfl,rfl,B,q,rfl⟩:=hrel;by_cases R:j=0
  ·subst R;go_wp2;go_ret;have e:xs=ys:=aC0 (by rw [f.o,r.o]) fun k L=>B.o k aN (by have:=f.o;omega)
   exact⟨by rw [<-D.o,<-E.o,e,vX];rfl,q,rfl⟩
  ·obtain ⟨i,rfl⟩:∃i,j=i+1:=⟨j - 1,by omega⟩;obtain ⟨ab,ak,rfl,ai,u1⟩:=X.o.at64 (k:=i) (by rw [f.o];omega);obtain ⟨b2,al,rfl,aj,u2⟩:=Y.o.at64 (k:=i) (by rw [r.o];omega);have C:(((i+1:Nat):Int) - 1)=i:=by omega
   rw [C];have ad:(i:Int)<n:=by omega
   have J:i<n:=by omega
   by_cases v:nth xs i=nth ys i
   ·have N:(nth xs i != nth ys i)=false:=by rw [v];simp
    have Q:=@Z (∀k,i<=k->k<n->nth xs k=nth ys k) (fun k t p=>by
     by_cases L:k=i
     ·rw [L];exact v
     ·exact B.o k (by omega) p)
    clear v C;go_wp2
    go_quiet (fail)
    go_wp2
    go_roundw
    case rel=>exact⟨i,by omega,rfl,rfl,Q.o,_,rfl⟩
    case measure=>first | (simp [intOf];done) | (simp [intOf];omega)
   ·have N:(nth xs i != nth ys i)=true:=by simpa using v
    have P:=Z (show compareInt (nth xs i) (nth ys i)=fZ x y from by
     have K:∀k,i<k->k<xs.length->nth xs k=nth ys k:=fun k t p=>B.o k (by omega) (by have:=f.o;omega)
     unfold compareInt;by_cases z:nth xs i<nth ys i
     ·rw [if_pos z,tQ];have:=aOh U.o (by rw [f.o,r.o]) (by rw [f.o];exact J) K z
      rwa [D.o,E.o] at this
     ·have I:nth ys i<nth xs i:=by omega
      rw [if_neg z,if_pos I,vW];have:=aOh V.o (by rw [f.o,r.o]) (by rw [r.o];exact J) (fun k t p=>(K k t (by rw [f.o];rw [r.o] at p;exact p)).symm) I
      rwa [D.o,E.o] at this)
    clear v C;go_wp2
    go_quiet (fail)
    go_wp2
    go_quiet ((go_at_call 169;exact uT (aE5 _ _ _)))
    go_wp2;go_ret;exact⟨by rw [P.o];rfl,_,by rw [kP,kP]⟩
theorem aMa {u v y1 y0 Q:Nat} (c:v<4294967296) (b:Q * (y1 * 4294967296+y0)<=u * 4294967296+v) (hy:0<y1):Q<=u / y1:=by
 rw [xI hy];have a:Q * (y1 * 4294967296+y0)=Q * y1 * 4294967296+Q * y0:=by rw [cN,eU]
 rw [a] at b;generalize Q * y1=P at *;generalize Q * y0=R at *;omega
theorem mR {u v y1 y0 Q q c y:Nat} (hy:y=y1 * 4294967296+y0) (p:v<4294967296) (d:Q * y<=u * 4294967296+v) (m:u<y) (f:q * y1+c=u) (j:Q<=q) (a:4294967296<=q\/4294967296 * c+v<q * y0):0<q/\Q<=q - 1:=by
 rcases a with a | a
 ·have:Q<4294967296:=by
   refine Nat.lt_of_not_le fun h=>?_
   have b:4294967296 * y<=Q * y:=kF _ h;generalize Q * y=P at *;omega
  omega
 ·have k:Q≠q:=fun e=>by
   subst e;have b:Q * y=Q * y1 * 4294967296+Q * y0:=by rw [hy,cN,eU]
   rw [b] at d;generalize Q * y1=P at *;generalize Q * y0=R at *;omega
  omega
theorem rZ {u v y1 y0 q a:Nat} (c:q * y1+a=u) (h:q * y0<=4294967296 * a+v):q * (y1 * 4294967296+y0)<=u * 4294967296+v:=by
 have b:q * (y1 * 4294967296+y0)=q * y1 * 4294967296+q * y0:=by rw [cN,eU]
 rw [b];generalize q * y1=P at *;generalize q * y0=R at *;omega
theorem mS {u v y1 y0 q a:Nat} (c:q * y1+a=u) (f:4294967296<=a) (j:u<y1 * 4294967296+y0) (e:y0<4294967296):q * (y1 * 4294967296+y0)<=u * 4294967296+v:=by
 have d:q<=4294967296:=by
  refine Nat.le_of_not_lt fun h=>?_
  have b:(4294967296+1) * y1<=q * y1:=kF _ h;generalize q * y1=P at *;omega
 refine rZ c ?_;have b:q * y0<=4294967296 * y0:=kF _ d;generalize q * y0=R at *;omega
theorem aRn {N y q:Nat} (a:N / y<=q) (b:q * y<=N) (hy:0<y):q=N / y:=Nat.le_antisymm ((xI hy).2 b) a
theorem aRo {M v y:Nat} (hy:0<y):(M * 4294967296+v) / y=M / y * 4294967296+(M % y * 4294967296+v) / y/\(M * 4294967296+v) % y=(M % y * 4294967296+v) % y:=by
 have h:=lC M y;have e:M * 4294967296+v=(M % y * 4294967296+v)+y * (M / y * 4294967296):=by
  generalize a:M / y=q at *;generalize M % y=r at *;rw [<-h,fC,<-eU];omega
 rw [e,aCj _ _ hy,aAq];exact⟨by omega,rfl⟩
structure aWu (h l y s y2 yn1 yn0 un32 un10 un1 un0:Nat):Prop where
 y2e:y2=y * 2 ^ s
 y2l:y2<18446744073709551616
 yn:y2=yn1 * 4294967296+yn0
 y0l:yn0<4294967296
 y1p:2147483648<=yn1
 y1l:yn1<4294967296
 un:un32 * 18446744073709551616+un10=(h * 18446744073709551616+l) * 2 ^ s
 unl:un32<y2
 uv:un10=un1 * 4294967296+un0
 u1:un1<4294967296
 u0:un0<4294967296
 sl:s<64
 y0:0<y
theorem aMb {y:Nat} (e:0<y) (hy:y<18446744073709551616):∃s,s<64/\Go.Lib.bitLen y=64 - s/\9223372036854775808<=y * 2 ^ s/\y * 2 ^ s<18446744073709551616:=by
 obtain ⟨c,a,b⟩:=bitLenAux_bounds 64 y (by simpa using hy) (by omega);have d:bitLenAux 64 y=Go.Lib.bitLen y:=rfl;rw [d] at c a b;have f:Go.Lib.bitLen y<=64:=bitLen_le y 64 aA (by simpa using hy);refine⟨64 - Go.Lib.bitLen y,by omega,by omega,?_,?_⟩
 ·have:=kF (2 ^ (64 - Go.Lib.bitLen y)) a;rw [<-jT,show Go.Lib.bitLen y - 1+(64 - Go.Lib.bitLen y)=63 by omega] at this;exact this
 ·have:=aCb b (mA (64 - Go.Lib.bitLen y));rw [<-jT,show Go.Lib.bitLen y+(64 - Go.Lib.bitLen y)=64 by omega] at this;exact this
theorem aYj {h l y s:Nat} (e:h<y) (f:l<18446744073709551616) (a:s<64) (m:9223372036854775808<=y * 2 ^ s) (b:y * 2 ^ s<18446744073709551616) :
  aWu h l y s (y * 2 ^ s) (y * 2 ^ s / 4294967296) (y * 2 ^ s % 4294967296) (h * 2 ^ s+l / 2 ^ (64 - s)) (l * 2 ^ s % 18446744073709551616) (l * 2 ^ s % 18446744073709551616 / 4294967296) (l * 2 ^ s % 18446744073709551616 % 4294967296):=by
 have j:=zR (x:=l) (k:=s) f a;have d:aK=18446744073709551616:=rfl;rw [d] at j;have c:(h+1) * 2 ^ s<=y * 2 ^ s:=kF _ e;rw [fC,mC] at c;refine⟨rfl,b,?_,gN _ (by decide),?_,?_,?_,?_,?_,?_,gN _ (by decide),a,by omega⟩
 ·have:=lC (y * 2 ^ s) 4294967296;omega
 ·omega
 ·omega
 ·rw [fC (h * 18446744073709551616) l,aCn h 18446744073709551616];generalize l * 2 ^ s=X at *;generalize h * 2 ^ s=Y at *;omega
 ·omega
 ·have:=lC (l * 2 ^ s % 18446744073709551616) 4294967296;omega
 ·have:=gN (l * 2 ^ s) (show 0<18446744073709551616 by decide);omega
section
variable {h l y s y2 yn1 yn0 un32 un10 un1 un0 : Nat}
theorem aWu.all (P:aWu h l y s y2 yn1 yn0 un32 un10 un1 un0) :
  (un32 * 4294967296+un1) / y2 * 4294967296+((un32 * 4294967296+un1) % y2 * 4294967296+un0) / y2=(h * 18446744073709551616+l) / y /\
  ((un32 * 4294967296+un1) % y2 * 4294967296+un0) % y2=(h * 18446744073709551616+l) % y * 2 ^ s:=by
 have d:0<y2:=by have:=P.y1p;have:=P.yn;omega
 obtain ⟨a,b⟩:=aRo (M:=un32 * 4294967296+un1) (v:=un0) d;have c:(un32 * 4294967296+un1) * 4294967296+un0=(h * 18446744073709551616+l) * 2 ^ s:=by rw [<-P.un,P.uv];omega
 rw [c,P.y2e] at a b;rw [aGs _ _ (mA s)] at a;rw [aCh] at b;rw [P.y2e];exact⟨a.symm,b.symm⟩
end
theorem bO {n:Nat} (h:n<18446744073709551616):IntKind.u64.wrap (n:Int)=n:=wraps_u64 _ (by omega) (by omega)
theorem sD (x s:Nat):((x:Int) * 2 ^ s)=((x * 2 ^ s:Nat):Int):=by simp
theorem sF (x s:Nat):((x:Int) / 2 ^ s)=((x / 2 ^ s:Nat):Int):=by simp
theorem aOi (x:Nat) (a:x<18446744073709551616):bits .and .u64 (x:Int) 4294967295=((x % 4294967296:Nat):Int):=by
 have h:=(bits_nat .u64 64 (by decide) wraps_u64 x 4294967295 (by simpa using a) (by decide)).1;rw [show((4294967295:Nat):Int)=4294967295 from rfl] at h;rw [h,show(4294967295:Nat)=2 ^ 32 - 1 from rfl,Nat.and_two_pow_sub_one_eq_mod]
theorem aUx (a b s:Nat) (d:b<2 ^ s) (c:a * 2 ^ s<18446744073709551616) (e:b<18446744073709551616):bits .or .u64 ((a * 2 ^ s:Nat):Int) (b:Int)=((a * 2 ^ s+b:Nat):Int):=by
 rw [(bits_nat .u64 64 (by decide) wraps_u64 (a * 2 ^ s) b (by simpa using c) (by simpa using e)).2];rw [<-Nat.shiftLeft_eq,<-aN8 d]
theorem half_start {u v y1 y0 y:Nat} (hy:y=y1 * 4294967296+y0) (b:v<4294967296) (a:0<y1) (d:y1<4294967296) (e:u<18446744073709551616) :
  ∃q r:Nat,IntKind.u64.wrap ((u:Int) / y1)=q/\IntKind.u64.wrap ((u:Int) - IntKind.u64.wrap ((q:Int) * y1))=r/\q * y1+r=u/\r<4294967296/\(u * 4294967296+v) / y<=q/\q<=u:=by
 have h:=lC u y1;have c:=gN u a;have hd:u / y1<=u:=tC _ _;refine⟨u / y1,u % y1,?_,?_,by rw [dK];omega,by omega,aMa b (by rw [<-hy];exact aCm _ _) a,hd⟩
 ·rw [show((u:Int) / y1)=((u / y1:Nat):Int) by simp,bO (by omega)]
 ·rw [show(((u / y1:Nat):Int) * y1)=((y1 * (u / y1):Nat):Int) by rw [dK];simp];generalize y1 * (u / y1)=X at *;rw [bO (by omega),show((u:Int) - X)=((u % y1:Nat):Int) by omega,bO (by omega)]
theorem aPh {u v y:Nat} (a:0<y) (c:y<18446744073709551616):IntKind.u64.wrap (IntKind.u64.wrap (IntKind.u64.wrap ((u:Int) * 4294967296)+v) - IntKind.u64.wrap ((((u * 4294967296+v) / y:Nat):Int) * y))=(((u * 4294967296+v) % y:Nat):Int):=by
 have h:=lC (u * 4294967296+v) y;have b:=gN (u * 4294967296+v) a;rw [show((((u * 4294967296+v) / y:Nat):Int) * y)=((y * ((u * 4294967296+v) / y):Nat):Int) from(Int.natCast_mul _ _).symm.trans (congrArg Nat.cast (dK _ _))];generalize y * ((u * 4294967296+v) / y)=X at *;generalize (u * 4294967296+v) % y=R at *;simp only [tB];omega
theorem aFr {u v y1 y0 y:Nat} (hy:y=y1 * 4294967296+y0) (k:v<4294967296) (f:0<y1) (e:y1<4294967296) (b:y<18446744073709551616) (j:u<y) :
  ∃Q R q r:Nat,Q=(u * 4294967296+v) / y/\R=(u * 4294967296+v) % y/\R<y/\(IntKind.u64.wrap ((u:Int) / y1)=q/\IntKind.u64.wrap ((u:Int) - IntKind.u64.wrap ((q:Int) * y1))=r/\q * y1+r=u/\r<4294967296/\Q<=q/\q<=u)/\Q * y<=u * 4294967296+v /\
   IntKind.u64.wrap (IntKind.u64.wrap (IntKind.u64.wrap ((u:Int) * 4294967296)+v) - IntKind.u64.wrap ((Q:Int) * y))=R/\∀q,Q<=q->q * y<=u * 4294967296+v->q=Q:=by
 have a:0<y:=by omega
 obtain ⟨q,r,h⟩:=half_start hy k f e (pK j b);exact⟨_,_,q,r,rfl,rfl,gN _ a,h,aCm _ _,aPh a b,fun q c d=>aRn c d a⟩
theorem zS {q y0:Nat} (a:q<4294967296) (b:y0<4294967296):IntKind.u64.wrap ((q:Int) * y0)=((q * y0:Nat):Int):=by
 have:q * y0<4294967296 * 4294967296:=Nat.mul_lt_mul'' a b;rw [show((q:Int) * y0)=((q * y0:Nat):Int) by simp,bO (by omega)]
theorem zT {a v:Nat} (b:a<4294967296) (c:v<4294967296):∃z m:Nat,IntKind.u64.wrap (4294967296 * (a:Int))=z/\IntKind.u64.wrap ((z:Int)+v)=m/\m=4294967296 * a+v:=
 ⟨4294967296 * a,4294967296 * a+v,by simp only [tB];omega,by simp only [tB];omega,rfl⟩
def uU (h l y:Nat):Nat:=(h * 18446744073709551616+l) / y
def aAy (h l y:Nat):Nat:=(h * 18446744073709551616+l) % y
theorem aFs (h l y:Nat) (w:World) (ao:h<y) (hy:y<18446744073709551616) (ab:l<18446744073709551616) :
  Calls prog 236 #[.int .u64 h,.int .u64 l,.int .u64 y] w fun e w'=>e = .returned (.tuple #[.int .u64 (uU h l y:Nat),.int .u64 (aAy h l y:Nat)])/\∃q,w'=w.drewN q:=by
 have aO:¬((y:Int)=0):=by omega
 have bn:((y:Int) == 0)=false:=by simpa using aO
 have bo:¬((y:Int)<=h):=by omega
 by_cases aE:h=0
 ·subst aE;have aN:IntKind.u64.wrap ((l:Int) / y)=((l / y:Nat):Int):=by
   rw [show((l:Int) / y)=((l / y:Nat):Int) by simp];exact bO (lW (tC _ _) ab)
  go_enter func236,ntmps236
  go_wp2
  go_quiet (fail)
  go_wp2;go_ret2;refine⟨?_,nq,rfl⟩;unfold uU aAy;rw [nW,dT];simp
 ·have aS:¬((h:Int)=0):=by omega
  have bt:((h:Int) == 0)=false:=by simpa using aS
  obtain ⟨s,aA,a4,aF,ae⟩:=aMb (by omega) hy;have ap:=Tryz.bits_LeadingZeros64 y w (by omega) (by omega);rw [show(64 - (Go.Lib.bitLen ((y:Int).toNat):Int))=s from by rw [pX,a4];omega] at ap;have aP:=Z ap;have P:=aYj ao ab aA aF ae;have bp:min s 64=s:=by omega
  have a8:(h+1) * 2 ^ s<=y * 2 ^ s:=kF _ ao;rw [fC,mC] at a8;have a9:=mA s;have aN:IntKind.u64.wrap (s:Int)=s:=bO (by omega);have bf:IntKind.u64.wrap ((y:Int) * 2 ^ s)=((y * 2 ^ s:Nat):Int):=by rw [sD,bO ae]
  have bg:((y * 2 ^ s:Nat):Int) / 4294967296=((y * 2 ^ s / 4294967296:Nat):Int):=by omega
  have bh:=aOi (y * 2 ^ s) ae;have bi:IntKind.u64.wrap ((h:Int) * 2 ^ s)=((h * 2 ^ s:Nat):Int):=by rw [sD,bO (by omega)]
  have bj:IntKind.u64.wrap (64 - (s:Int))=((64 - s:Nat):Int):=by rw [show(64 - (s:Int))=((64 - s:Nat):Int) by omega,bO (by omega)]
  have bk:=sF l (64 - s);have aB:=(zR (x:=l) (k:=s) ab aA).2;have bl:=aUx h (l / 2 ^ (64 - s)) s aB (by omega) (lW (tC _ _) ab);have bm:IntKind.u64.wrap ((l:Int) * 2 ^ s)=((l * 2 ^ s % 18446744073709551616:Nat):Int):=by rw [sD,tB];omega
  have bd:((l * 2 ^ s % 18446744073709551616:Nat):Int) / 4294967296=((l * 2 ^ s % 18446744073709551616 / 4294967296:Nat):Int):=by omega
  have be:=aOi (l * 2 ^ s % 18446744073709551616) (gN _ (by decide));generalize l * 2 ^ s % 18446744073709551616 / 4294967296=un1 at *;generalize l * 2 ^ s % 18446744073709551616 % 4294967296=un0 at *;generalize l * 2 ^ s % 18446744073709551616=un10 at *;generalize h * 2 ^ s+l / 2 ^ (64 - s)=un32 at *;generalize l / 2 ^ (64 - s)=lt at *;generalize h * 2 ^ s=bq at *;generalize y * 2 ^ s / 4294967296=yn1 at *;generalize y * 2 ^ s % 4294967296=yn0 at *;generalize y * 2 ^ s=y2 at *;have br:min (64 - s) 64=64 - s:=by omega
  generalize 64 - s=t at *;have aW:=Z P;have aV:¬((yn1:Int)=0):=by have:=P.y1p;omega
  have bu:((yn1:Int) == 0)=false:=by simpa using aV
  have bs:0<y2:=by have:=P.y1p;have:=P.yn;omega
  have aD:=P.y2l;have aR:=P.unl;have c:=Z P.yn;have H:=P.y0l;have ad:=P.u1;have L:=P.u0;have aC:=P.y1l;have aa:=P.all;obtain ⟨N,d,aT,aU,aw,ax,aQ,⟨aX,aY,a0,aL,a1,aM⟩,a6,aZ,aG⟩:=aFr P.yn ad (by have:=P.y1p;omega) aC aD aR;obtain ⟨f,aK,au,av,ay,az,_,⟨ba,b2,a2,ai,a3,aj⟩,a7,bb,aH⟩:=aFr P.yn L (by have:=P.y1p;omega) aC aD aQ;rw [<-aw,<-ax,<-ay,<-az] at aa;have a5:=Z a6;have Y:=Z a7;have ah:=Z aG;have O:=Z aH;clear aw ax ay az;have an:(h * 18446744073709551616+l) / y<18446744073709551616:=by
   refine vK ?_;have:(h+1) * 18446744073709551616<=y * 18446744073709551616:=kF _ ao;omega
  have c1:IntKind.u64.wrap (IntKind.u64.wrap ((N:Int) * 4294967296)+f)=(uU h l y:Nat):=by
   unfold uU;rw [<-aa.1] at an ⊢;simp only [tB];omega
  have c2:(aK:Int) / 2 ^ s=(aAy h l y:Nat):=by
   unfold aAy;rw [sF,aa.2,Nat.mul_div_cancel _ a9]
  have M:=Z c2;have c4:IntKind.u64.wrap ((uU h l y:Nat):Int)=(uU h l y:Nat):=bO an;have bc:((N:Int) * 4294967296+f)=(uU h l y:Nat):=by
   unfold uU;rw [<-aa.1];simp
  have aI:=Z a0;have af:=Z a2;have aJ:=Z a1;have ag:=Z a3;clear ap P aB aF ae a8 a9 a4 aE aa aG aH c2 a0 a2 a1 a3 an a6 a7;go_enter func236,ntmps236
  go_wp2_with fail
  refine aP.o.mono ?_;rintro e w' ⟨rfl,rfl⟩;go_wp2
  go_loopw [15,16] (fun G K X=>∃q a:Nat,G = .int .u64 q/\K = .int .u64 a/\Hid (q * yn1+a=un32)/\Hid (N<=q)/\a<4294967296/\q<=un32/\X=w') (fun G K _=>(intOf G).toNat)
  case atStart=>exact⟨aT,aU,rfl,rfl,aI.o,aJ.o,aL,aM,rfl⟩
  case round=>
   obtain ⟨q,a,rfl,rfl,b,r,W,aq,rfl⟩:=hrel;have ar:un32<18446744073709551616:=by omega
   by_cases Q:4294967296<=q
   case neg=>
    have ak:=zS (q:=q) (y0:=yn0) (by omega) H;obtain ⟨z2,m2,am,al,E⟩:∃z m:Nat,IntKind.u64.wrap (4294967296 * (a:Int))=z/\IntKind.u64.wrap ((z:Int)+un1)=m/\m=4294967296 * a+un1:=zT W ad;have J:=Z (show q * yn0<=m2->q * y2<=un32 * 4294967296+un1 from fun h=>by have:=rZ (v:=un1) b.o (by rw [<-E];exact h);rw [<-c.o] at this;exact this);have I:=Z (show m2<q * yn0->0<q/\N<=q - 1 from fun h=>mR c.o ad a5.o (by omega) b.o r.o (.inr (by rw [<-E];exact h)));clear E;have R:¬((4294967296:Int)<=q):=by omega
    generalize q * yn0=m1 at *;by_cases c2:m2<m1
    case neg=>
     have S:¬((m2:Int)<m1):=by omega
     obtain rfl:q=N:=ah.o q r.o (J.o (by omega));go_wp2
     go_loopw [16,18] (fun K G X=>∃q a:Nat,G = .int .u64 q/\K = .int .u64 a/\Hid (q * yn1+a=d)/\Hid (f<=q)/\a<4294967296/\q<=d/\X=wr) (fun K G _=>(intOf G).toNat)
     case atStart=>exact⟨au,av,rfl,rfl,af.o,ag.o,ai,aj,rfl⟩
     case round=>
      obtain ⟨q,a,rfl,rfl,b,r,W,aq,rfl⟩:=hrel;have ar:d<18446744073709551616:=by omega
      by_cases Q:4294967296<=q
      case neg=>
       have ak:=zS (q:=q) (y0:=yn0) (by omega) H;obtain ⟨z2,m2,am,al,E⟩:∃z m:Nat,IntKind.u64.wrap (4294967296 * (a:Int))=z/\IntKind.u64.wrap ((z:Int)+un0)=m/\m=4294967296 * a+un0:=zT W L;have J:=Z (show q * yn0<=m2->q * y2<=d * 4294967296+un0 from fun h=>by have:=rZ (v:=un0) b.o (by rw [<-E];exact h);rw [<-c.o] at this;exact this);have I:=Z (show m2<q * yn0->0<q/\f<=q - 1 from fun h=>mR c.o L Y.o (by omega) b.o r.o (.inr (by rw [<-E];exact h)));clear E;have R:¬((4294967296:Int)<=q):=by omega
       generalize q * yn0=m1 at *;by_cases c2:m2<m1
       case neg=>
        have S:¬((m2:Int)<m1):=by omega
        obtain rfl:q=f:=O.o q r.o (J.o (by omega));go_wp2;go_ret2;exact⟨by rw [M.o];rfl,0,rfl⟩
       case pos=>
        have S:(m2:Int)<m1:=by omega
        obtain ⟨V,F⟩:=I.o c2;clear J I;obtain ⟨p,C⟩:∃p,q=p+1:=⟨q - 1,by omega⟩;have T:IntKind.u64.wrap ((q:Int) - 1)=(p:Int):=by rw [show((q:Int) - 1)=(p:Int) by omega,bO (by omega)]
        have U:IntKind.u64.wrap ((a:Int)+yn1)=((a+yn1:Nat):Int):=by rw [show((a:Int)+yn1)=((a+yn1:Nat):Int) by simp,bO (by omega)]
        have j:=Z (show p * yn1+(a+yn1)=d from by have:=b.o;rw [C,fC,mC] at this;omega);have A:=Z (show f<=p by omega);have B:=Z (show p<q/\p<=d from by omega);clear C;clear b r F;by_cases c3:4294967296<=a+yn1
        case neg=>
         have D:¬((4294967296:Int)<=(a:Int)+yn1):=by omega
         go_wp2
         go_roundw
         case rel=>exact⟨p,a+yn1,by go_num,by go_num,j.o,A.o,by omega,B.o.2,trivial⟩
         case measure=>have:=B.o.1;first | (simp [intOf];omega) | (simp [intOf];done)
        case pos=>
         have D:(4294967296:Int)<=(a:Int)+yn1:=by omega
         obtain rfl:p=f:=O.o p A.o (by have:=mS (v:=un0) j.o c3 (by rw [<-c.o];omega) H;rw [<-c.o] at this;exact this);go_wp2;go_ret2;exact⟨by rw [M.o];rfl,0,rfl⟩
      case pos=>
       have R:(4294967296:Int)<=q:=by omega
       obtain ⟨V,F⟩:=mR c.o L Y.o (by omega) b.o r.o (.inl Q);obtain ⟨p,C⟩:∃p,q=p+1:=⟨q - 1,by omega⟩;have T:IntKind.u64.wrap ((q:Int) - 1)=(p:Int):=by rw [show((q:Int) - 1)=(p:Int) by omega,bO (by omega)]
       have U:IntKind.u64.wrap ((a:Int)+yn1)=((a+yn1:Nat):Int):=by rw [show((a:Int)+yn1)=((a+yn1:Nat):Int) by simp,bO (by omega)]
       have j:=Z (show p * yn1+(a+yn1)=d from by have:=b.o;rw [C,fC,mC] at this;omega);have A:=Z (show f<=p by omega);have B:=Z (show p<q/\p<=d from by omega);clear C;clear b r F;by_cases c3:4294967296<=a+yn1
       case neg=>
        have D:¬((4294967296:Int)<=(a:Int)+yn1):=by omega
        go_wp2
        go_roundw
        case rel=>exact⟨p,a+yn1,by go_num,by go_num,j.o,A.o,by omega,B.o.2,trivial⟩
        case measure=>have:=B.o.1;first | (simp [intOf];omega) | (simp [intOf];done)
       case pos=>
        have D:(4294967296:Int)<=(a:Int)+yn1:=by omega
        obtain rfl:p=f:=O.o p A.o (by have:=mS (v:=un0) j.o c3 (by rw [<-c.o];omega) H;rw [<-c.o] at this;exact this);go_wp2;go_ret2;exact⟨by rw [M.o];rfl,0,rfl⟩
    case pos=>
     have S:(m2:Int)<m1:=by omega
     obtain ⟨V,F⟩:=I.o c2;clear J I;obtain ⟨p,C⟩:∃p,q=p+1:=⟨q - 1,by omega⟩;have T:IntKind.u64.wrap ((q:Int) - 1)=(p:Int):=by rw [show((q:Int) - 1)=(p:Int) by omega,bO (by omega)]
     have U:IntKind.u64.wrap ((a:Int)+yn1)=((a+yn1:Nat):Int):=by rw [show((a:Int)+yn1)=((a+yn1:Nat):Int) by simp,bO (by omega)]
     have j:=Z (show p * yn1+(a+yn1)=un32 from by have:=b.o;rw [C,fC,mC] at this;omega);have A:=Z (show N<=p by omega);have B:=Z (show p<q/\p<=un32 from by omega);clear C;clear b r F;by_cases c3:4294967296<=a+yn1
     case neg=>
      have D:¬((4294967296:Int)<=(a:Int)+yn1):=by omega
      go_wp2
      go_roundw
      case rel=>exact⟨p,a+yn1,by go_num,by go_num,j.o,A.o,by omega,B.o.2,trivial⟩
      case measure=>have:=B.o.1;first | (simp [intOf];omega) | (simp [intOf];done)
     case pos=>
      have D:(4294967296:Int)<=(a:Int)+yn1:=by omega
      obtain rfl:p=N:=ah.o p A.o (by have:=mS (v:=un1) j.o c3 (by rw [<-c.o];omega) H;rw [<-c.o] at this;exact this);go_wp2
      go_loopw [16,18] (fun K G X=>∃q a:Nat,G = .int .u64 q/\K = .int .u64 a/\Hid (q * yn1+a=d)/\Hid (f<=q)/\a<4294967296/\q<=d/\X=wr) (fun K G _=>(intOf G).toNat)
      case atStart=>exact⟨au,av,rfl,rfl,af.o,ag.o,ai,aj,rfl⟩
      case round=>
       obtain ⟨q,a,rfl,rfl,b,r,W,aq,rfl⟩:=hrel;have ar:d<18446744073709551616:=by omega
       by_cases Q:4294967296<=q
       case neg=>
        have ak:=zS (q:=q) (y0:=yn0) (by omega) H;obtain ⟨z2,m2,am,al,E⟩:∃z m:Nat,IntKind.u64.wrap (4294967296 * (a:Int))=z/\IntKind.u64.wrap ((z:Int)+un0)=m/\m=4294967296 * a+un0:=zT W L;have J:=Z (show q * yn0<=m2->q * y2<=d * 4294967296+un0 from fun h=>by have:=rZ (v:=un0) b.o (by rw [<-E];exact h);rw [<-c.o] at this;exact this);have I:=Z (show m2<q * yn0->0<q/\f<=q - 1 from fun h=>mR c.o L Y.o (by omega) b.o r.o (.inr (by rw [<-E];exact h)));clear E;have R:¬((4294967296:Int)<=q):=by omega
        generalize q * yn0=m1 at *;by_cases c2:m2<m1
        case neg=>
         have S:¬((m2:Int)<m1):=by omega
         obtain rfl:q=f:=O.o q r.o (J.o (by omega));go_wp2;go_ret2;exact⟨by rw [M.o];rfl,0,rfl⟩
        case pos=>
         have S:(m2:Int)<m1:=by omega
         obtain ⟨V,F⟩:=I.o c2;clear J I;obtain ⟨p,C⟩:∃p,q=p+1:=⟨q - 1,by omega⟩;have T:IntKind.u64.wrap ((q:Int) - 1)=(p:Int):=by rw [show((q:Int) - 1)=(p:Int) by omega,bO (by omega)]
         have U:IntKind.u64.wrap ((a:Int)+yn1)=((a+yn1:Nat):Int):=by rw [show((a:Int)+yn1)=((a+yn1:Nat):Int) by simp,bO (by omega)]
         have j:=Z (show p * yn1+(a+yn1)=d from by have:=b.o;rw [C,fC,mC] at this;omega);have A:=Z (show f<=p by omega);have B:=Z (show p<q/\p<=d from by omega);clear C;clear b r F;by_cases c3:4294967296<=a+yn1
         case neg=>
          have D:¬((4294967296:Int)<=(a:Int)+yn1):=by omega
          go_wp2
          go_roundw
          case rel=>exact⟨p,a+yn1,by go_num,by go_num,j.o,A.o,by omega,B.o.2,trivial⟩
          case measure=>have:=B.o.1;first | (simp [intOf];omega) | (simp [intOf];done)
         case pos=>
          have D:(4294967296:Int)<=(a:Int)+yn1:=by omega
          obtain rfl:p=f:=O.o p A.o (by have:=mS (v:=un0) j.o c3 (by rw [<-c.o];omega) H;rw [<-c.o] at this;exact this);go_wp2;go_ret2;exact⟨by rw [M.o];rfl,0,rfl⟩
       case pos=>
        have R:(4294967296:Int)<=q:=by omega
        obtain ⟨V,F⟩:=mR c.o L Y.o (by omega) b.o r.o (.inl Q);obtain ⟨p,C⟩:∃p,q=p+1:=⟨q - 1,by omega⟩;have T:IntKind.u64.wrap ((q:Int) - 1)=(p:Int):=by rw [show((q:Int) - 1)=(p:Int) by omega,bO (by omega)]
        have U:IntKind.u64.wrap ((a:Int)+yn1)=((a+yn1:Nat):Int):=by rw [show((a:Int)+yn1)=((a+yn1:Nat):Int) by simp,bO (by omega)]
        have j:=Z (show p * yn1+(a+yn1)=d from by have:=b.o;rw [C,fC,mC] at this;omega);have A:=Z (show f<=p by omega);have B:=Z (show p<q/\p<=d from by omega);clear C;clear b r F;by_cases c3:4294967296<=a+yn1
        case neg=>
         have D:¬((4294967296:Int)<=(a:Int)+yn1):=by omega
         go_wp2
         go_roundw
         case rel=>exact⟨p,a+yn1,by go_num,by go_num,j.o,A.o,by omega,B.o.2,trivial⟩
         case measure=>have:=B.o.1;first | (simp [intOf];omega) | (simp [intOf];done)
        case pos=>
         have D:(4294967296:Int)<=(a:Int)+yn1:=by omega
         obtain rfl:p=f:=O.o p A.o (by have:=mS (v:=un0) j.o c3 (by rw [<-c.o];omega) H;rw [<-c.o] at this;exact this);go_wp2;go_ret2;exact⟨by rw [M.o];rfl,0,rfl⟩
   case pos=>
    have R:(4294967296:Int)<=q:=by omega
    obtain ⟨V,F⟩:=mR c.o ad a5.o (by omega) b.o r.o (.inl Q);obtain ⟨p,C⟩:∃p,q=p+1:=⟨q - 1,by omega⟩;have T:IntKind.u64.wrap ((q:Int) - 1)=(p:Int):=by rw [show((q:Int) - 1)=(p:Int) by omega,bO (by omega)]
    have U:IntKind.u64.wrap ((a:Int)+yn1)=((a+yn1:Nat):Int):=by rw [show((a:Int)+yn1)=((a+yn1:Nat):Int) by simp,bO (by omega)]
    have j:=Z (show p * yn1+(a+yn1)=un32 from by have:=b.o;rw [C,fC,mC] at this;omega);have A:=Z (show N<=p by omega);have B:=Z (show p<q/\p<=un32 from by omega);clear C;clear b r F;by_cases c3:4294967296<=a+yn1
    case neg=>
     have D:¬((4294967296:Int)<=(a:Int)+yn1):=by omega
     go_wp2
     go_roundw
     case rel=>exact⟨p,a+yn1,by go_num,by go_num,j.o,A.o,by omega,B.o.2,trivial⟩
     case measure=>have:=B.o.1;first | (simp [intOf];omega) | (simp [intOf];done)
    case pos=>
     have D:(4294967296:Int)<=(a:Int)+yn1:=by omega
     obtain rfl:p=N:=ah.o p A.o (by have:=mS (v:=un1) j.o c3 (by rw [<-c.o];omega) H;rw [<-c.o] at this;exact this);go_wp2
     go_loopw [16,18] (fun K G X=>∃q a:Nat,G = .int .u64 q/\K = .int .u64 a/\Hid (q * yn1+a=d)/\Hid (f<=q)/\a<4294967296/\q<=d/\X=wr) (fun K G _=>(intOf G).toNat)
     case atStart=>exact⟨au,av,rfl,rfl,af.o,ag.o,ai,aj,rfl⟩
     case round=>
      obtain ⟨q,a,rfl,rfl,b,r,W,aq,rfl⟩:=hrel;have ar:d<18446744073709551616:=by omega
      by_cases Q:4294967296<=q
      case neg=>
       have ak:=zS (q:=q) (y0:=yn0) (by omega) H;obtain ⟨z2,m2,am,al,E⟩:∃z m:Nat,IntKind.u64.wrap (4294967296 * (a:Int))=z/\IntKind.u64.wrap ((z:Int)+un0)=m/\m=4294967296 * a+un0:=zT W L;have J:=Z (show q * yn0<=m2->q * y2<=d * 4294967296+un0 from fun h=>by have:=rZ (v:=un0) b.o (by rw [<-E];exact h);rw [<-c.o] at this;exact this);have I:=Z (show m2<q * yn0->0<q/\f<=q - 1 from fun h=>mR c.o L Y.o (by omega) b.o r.o (.inr (by rw [<-E];exact h)));clear E;have R:¬((4294967296:Int)<=q):=by omega
       generalize q * yn0=m1 at *;by_cases c2:m2<m1
       case neg=>
        have S:¬((m2:Int)<m1):=by omega
        obtain rfl:q=f:=O.o q r.o (J.o (by omega));go_wp2;go_ret2;exact⟨by rw [M.o];rfl,0,rfl⟩
       case pos=>
        have S:(m2:Int)<m1:=by omega
        obtain ⟨V,F⟩:=I.o c2;clear J I;obtain ⟨p,C⟩:∃p,q=p+1:=⟨q - 1,by omega⟩;have T:IntKind.u64.wrap ((q:Int) - 1)=(p:Int):=by rw [show((q:Int) - 1)=(p:Int) by omega,bO (by omega)]
        have U:IntKind.u64.wrap ((a:Int)+yn1)=((a+yn1:Nat):Int):=by rw [show((a:Int)+yn1)=((a+yn1:Nat):Int) by simp,bO (by omega)]
        have j:=Z (show p * yn1+(a+yn1)=d from by have:=b.o;rw [C,fC,mC] at this;omega);have A:=Z (show f<=p by omega);have B:=Z (show p<q/\p<=d from by omega);clear C;clear b r F;by_cases c3:4294967296<=a+yn1
        case neg=>
         have D:¬((4294967296:Int)<=(a:Int)+yn1):=by omega
         go_wp2
         go_roundw
         case rel=>exact⟨p,a+yn1,by go_num,by go_num,j.o,A.o,by omega,B.o.2,trivial⟩
         case measure=>have:=B.o.1;first | (simp [intOf];omega) | (simp [intOf];done)
        case pos=>
         have D:(4294967296:Int)<=(a:Int)+yn1:=by omega
         obtain rfl:p=f:=O.o p A.o (by have:=mS (v:=un0) j.o c3 (by rw [<-c.o];omega) H;rw [<-c.o] at this;exact this);go_wp2;go_ret2;exact⟨by rw [M.o];rfl,0,rfl⟩
      case pos=>
       have R:(4294967296:Int)<=q:=by omega
       obtain ⟨V,F⟩:=mR c.o L Y.o (by omega) b.o r.o (.inl Q);obtain ⟨p,C⟩:∃p,q=p+1:=⟨q - 1,by omega⟩;have T:IntKind.u64.wrap ((q:Int) - 1)=(p:Int):=by rw [show((q:Int) - 1)=(p:Int) by omega,bO (by omega)]
       have U:IntKind.u64.wrap ((a:Int)+yn1)=((a+yn1:Nat):Int):=by rw [show((a:Int)+yn1)=((a+yn1:Nat):Int) by simp,bO (by omega)]
       have j:=Z (show p * yn1+(a+yn1)=d from by have:=b.o;rw [C,fC,mC] at this;omega);have A:=Z (show f<=p by omega);have B:=Z (show p<q/\p<=d from by omega);clear C;clear b r F;by_cases c3:4294967296<=a+yn1
       case neg=>
        have D:¬((4294967296:Int)<=(a:Int)+yn1):=by omega
        go_wp2
        go_roundw
        case rel=>exact⟨p,a+yn1,by go_num,by go_num,j.o,A.o,by omega,B.o.2,trivial⟩
        case measure=>have:=B.o.1;first | (simp [intOf];omega) | (simp [intOf];done)
       case pos=>
        have D:(4294967296:Int)<=(a:Int)+yn1:=by omega
        obtain rfl:p=f:=O.o p A.o (by have:=mS (v:=un0) j.o c3 (by rw [<-c.o];omega) H;rw [<-c.o] at this;exact this);go_wp2;go_ret2;exact⟨by rw [M.o];rfl,0,rfl⟩
def iO (w:World) (base g n:Nat) (xs:List Int):Prop:=xs.length=n/\base<=g/\bY xs/\∃cur:Array Value,w.heap[g]? = some (.cells cur 177 (0,0))/\cur.toList=xs.map (Value.int .u64)
section
variable {w w' : World} {base g n : Nat} {xs : List Int}
theorem iO.lt (h:iO w base g n xs):g<w.heap.size:=by obtain ⟨_,_,_,cur,a,_⟩:=h;exact(bH a).1
theorem iO.same (h:iO w base g n xs) (e:w'.heap[g]? = w.heap[g]?):iO w' base g n xs:=by obtain ⟨a,b,c,cur,f,d⟩:=h;exact⟨a,b,c,cur,e.trans f,d⟩
theorem iO.cell (h:iO w base g n xs) {j:Nat} (k:j<n):w.cell? ⟨g,j,none⟩=some (.int .u64 (nth xs j)):=by
 obtain ⟨d,e,f,cur,c,a⟩:=h;have b:cur.toList[j]? = some (.int .u64 (nth xs j)):=by rw [a,mZ,cK (by omega),cE (by omega)];rfl
 simp only [World.cell?,c,vL,vM,if_false];rw [<-vI];exact b
theorem iO.frz (h:iO w base g n xs) (j:Nat):w.frozen? ⟨g,j,none⟩=false:=by obtain ⟨b,c,d,cur,a,e⟩:=h;exact aQ a j
theorem iO.set (h:iO w base g n xs) {j:Nat} {x:Int} (f:okU x):iO (w.setCell ⟨g,j,none⟩ (.int .u64 x)) base g n (xs.set j x):=by
 obtain ⟨a,b,c,cur,e,d⟩:=h;refine⟨by rw [nN];exact a,b,fun y hy=>?_,cur.setIfInBounds j (.int .u64 x),?_,?_⟩
 ·rcases List.mem_or_eq_of_mem_set hy with hy | rfl
  ·exact c y hy
  ·exact f
 ·unfold World.setCell;rw [iN,if_pos rfl,e];rfl
 ·rw [aGi,d,List.map_set]
theorem iO.rd (h:iO w base g n xs):bT cH.u64 (fun k=>k=g) w (some ⟨g,0,none⟩) n xs:=by
 refine⟨h.1,fun d=>⟨g,0,rfl,h.lt,rfl,fun j x a=>?_⟩⟩;have c:=(gK.1 a).1;refine⟨[.int .u64 x],⟨rfl,h.2.2.1 x (fP a)⟩,fun i u b=>?_⟩
 match i with
 |
  0=>
  simp at b;subst b;have:=h.cell (j:=j) (by have:=h.1;omega);rw [cE c] at this;rw [cK c] at a;injection a with a
  rw [a] at this
  simpa [cH.u64] using this
 | i+1=>simp at b
theorem iO.datB (h:iO w base g n xs):dU w g:=by obtain ⟨b,c,d,cur,a,e⟩:=h;exact⟨_,_,.inr a⟩
theorem iO.datF (h:iO w base g n xs):bT cH.u64 (fH base w) w (some ⟨g,0,none⟩) n xs:=h.rd.mono fun k _ e=>by rw [e];exact⟨h.datB,h.2.1⟩
end
theorem bY.zeros (n:Nat):bY (List.replicate n 0):=fun x a=>by rw [List.eq_of_mem_replicate a];exact⟨by decide,by decide⟩
theorem tR (n:Nat):aJ (List.replicate n 0)=0:=by
 induction n with
 | zero=>rfl
 | succ n ih=>rw [yP,iT,ih];rfl
theorem nF (n base:Nat) (w:World) (C:n<=1099511627776) (f:base<=w.heap.size) :
  ∃w',(Instr.makeSlice 34 (.int .i64 n) (.int .i64 n)).run prog w = .ok (.slice (some ⟨w.heap.size,0,none⟩) n n) w'/\iO w' base w.heap.size n (List.replicate n 0)/\Below w.heap.size w w'/\w.heap.size<w'.heap.size:=by
 obtain ⟨z,q,t,v,x⟩:=info_parts rV;obtain ⟨w',p,e,b⟩:=run_make_full (P:=prog) w base 34 177 z (.int .u64 0) 1 underlying34 q t v .i64 .i64 n (by rw [x];omega) (by unfold maxLen;omega) f;refine⟨w',p,⟨by simp,f,bY.zeros n,?_⟩,⟨b.os,b.tape,b.output,b.size,fun k r=>b.block k r (by simp)⟩,?_⟩
 ·rcases e.2 with ⟨a,_⟩ | ⟨g,m,cur,a,_,d,A,B,j,c⟩
  ·cases a
  ·cases a;refine⟨cur,d,?_⟩;rw [jN] at j c;rw [show(Value.int IntKind.u64 0).cells = #[.int .u64 0] from rfl,toList_madeCells_one] at c;rw [List.map_replicate,<-c,fL (by rw [aGv];omega)]
 ·rcases e.2 with ⟨a,_⟩ | ⟨g,m,cur,a,_,d,A,B,j,c⟩
  ·cases a
  ·cases a;exact(bH d).1
def aRp (x r:Nat) (w:World) (e:Ending) (w':World):Prop:=∃a c,e = .returned (.tuple #[.slice a (limbs x).length c,.int .u64 r])/\bT cH.u64 (fH w.heap.size w') w' a (limbs x).length (limbs x)/\(limbs x).length<=c/\c<=maxLen/\Below w.heap.size w w'
theorem aOj (i:Nat) (ds:List Int) (d:Int):(List.replicate (i+1) 0++ds).set i d=List.replicate i 0++(d :: ds):=by
 rw [List.replicate_succ',jM,sW _ _ (by simp)];simp
theorem aMc {S:Nat->Prop} (a:Option Addr) (n c x k:Nat) (w:World) (q:bT cH.u64 S w a n (limbs x)) (a1:n<=1099511627776) (D:0<k) (az:k<18446744073709551616) :
  Calls prog 198 #[.slice a n c,.int .u64 k] w fun e w'=>aRp (x / k) (x % k) w e w':=by
 obtain ⟨aM,aG,W,M,Y⟩:=nF n w.heap.size w a1 aA;have ae:=Z q;have ai:=Z q.1;have aH:=Z (eO x);have a6:=Z (aY x);have an:=Z W;have ak:=Z M;have aC:=Z Y;generalize limbs x=xs at *;clear q W M Y;go_enter func198,ntmps198
 go_wp2
 go_loopw [5,6] (fun aB H wr=>∃(j r:Nat) (ds:List Int),j<=n/\aB = .int .u64 r/\H = .int .i64 ((j:Int) - 1)/\r<k/\Hid (ds.length=n - j)/\Hid (bY ds)/\Hid (aJ (xs.drop j)=aJ ds * k+r)/\Hid (iO wr w.heap.size w.heap.size n (List.replicate j 0++ds))/\Hid (Below w.heap.size w wr)) (fun _ H _=>(intOf H+1).toNat)
 case atStart=>exact⟨n,0,[],aA,rfl,rfl,D,(by show([]:List Int).length=n - n;simp),(fun x q=>(by simp at q):bY []),(by show aJ (xs.drop n)=aJ [] * k+0;rw [<-ai.o,tG];simp [iL]),(by rw [lZ];exact an.o),ak.o⟩
 case round=>
  obtain ⟨j,r,ds,aF,rfl,rfl,t,av,aw,P,J,B⟩:=hrel;by_cases ay:j=0
  ·subst ay;have ax:xs.length=xs.length:=rfl;have v:=P.o;rw [cW,a6.o] at v;have E:aJ ds=x / k/\r=x % k:=by
    have A:x / k=aJ ds:=by
     rw [v,dK,aCt D,nM t,cU]
    have I:x % k=r:=by rw [v,dK,aG7,lY t]
    exact⟨A.symm,I.symm⟩
   have K:iO wr w.heap.size w.heap.size n ds:=by have:=J.o;simpa using this
   have ab:=gY (some ⟨w.heap.size,0,none⟩) n n ds wr K.datF (by omega) aA (by unfold maxLen;omega);have a5:=Z E.1;have a2:=Z E.2;have ad:=Z ab;clear ax v E K ab
   go_wp2_with fail
   refine ad.o.mono ?_;rintro e z ⟨ap,aq,rfl,X,ar,au,_,rfl⟩;have am:=Z X;clear X ad;go_wp2;go_ret2;rw [<-a5.o,<-a2.o];exact⟨ap,aq,rfl,am.o,ar,au,B.o⟩
  ·obtain ⟨i,rfl⟩:∃i,j=i+1:=⟨j - 1,by omega⟩;have U:i<xs.length:=by have:=ai.o;omega
   obtain ⟨b,o,rfl,ah,G⟩:=(ae.o).at64 U;have O:=(ae.o.2 (by omega)).choose_spec;have a8:wr.cell? ⟨b,o+i,none⟩=some (.int .u64 (nth xs i)):=by
    obtain ⟨aL,C,a0,_⟩:=O;injection C with C
    injection C with A I _
    rw [sZ (w:=w) (a:=⟨b,o+i,none⟩) (B.o.block b (by rw [A];exact a0))];exact ah
   have af:nth xs i=((nth xs i).toNat:Int):=by have:=G.1;omega
   have ag:(nth xs i).toNat<18446744073709551616:=by have:=G.2;omega
   have p:=aJi (N:=aJ (xs.drop (i+1))) (Q:=aJ ds) (r:=r) (x:=(nth xs i).toNat) (k:=k) P.o D t ag;have hdr:=aAx U;generalize a7:(nth xs i).toNat=f at *;rw [af] at a8;have L:aK=18446744073709551616:=rfl;rw [L] at p hdr;have R:=aFs r f k wr t az ag;have V:(((i+1:Nat):Int) - 1)=i:=by omega
   have aE:(i:Int)<n:=by omega
   have a3:=Z (show aJ (xs.drop i)=(aJ ds * 18446744073709551616+uU r f k) * k+aAy r f k from by
    rw [hdr,dK 18446744073709551616,oB f];exact p.1)
   have a4:aAy r f k<k:=p.2.1;have aa:uU r f k<18446744073709551616:=p.2.2;generalize uU r f k=d at *;generalize aAy r f k=aj at *;have T:=Z R;rw [V];clear p hdr ah G O af a7 R L V
   go_wp2_with fail
   refine T.o.mono ?_;rintro e z ⟨rfl,a9,F⟩;have m:=J.o.same (w':=z) (by rw [F];rfl);have y0:=m.cell (j:=i) (by omega);have aD:=m.frz i;have ao:=Z (m.set (j:=i) (x:=(d:Int)) (gJ aa));have al:=Z (show Below w.heap.size w (z.setCell ⟨w.heap.size,i,none⟩ (.int .u64 d)) from by rw [F];exact(B.o.drewN a9).setCell aA _);have aI:w.heap.size<z.heap.size:=m.lt;clear F T m;go_wp2
   go_roundw
   case rel=>
    refine⟨i,aj,(d:Int) :: ds,by omega,rfl,by go_num,a4,(by have:=av.o;show(_ :: ds).length=_;rw [fQ];omega),(fun y hy=>by
     rcases mB.1 hy with rfl | hy
     ·exact gJ aa
     ·exact aw.o y hy:bY _),(by
     have:=a3.o;show aJ (xs.drop i)=aJ (_ :: ds) * k+aj;rw [this,iT,pX,show aK=18446744073709551616 from rfl,dK 18446744073709551616,oB d]),?_,al.o⟩
    have:=ao.o
    rwa [aOj] at this
   case measure=>first | (simp [intOf];done) | (simp [intOf];omega)
def hiW (n:Nat):Nat:=n / 18446744073709551616
def loW (n:Nat):Nat:=n % 18446744073709551616
theorem aUy (n:Nat):loW n+aK * hiW n=n:=lC n aK
theorem xV (n:Nat):loW n<aK:=gN _ gT
theorem aAz (x y c:Nat) (a:c<=1) (w:World):(callFunc 238 #[.int .u64 x,.int .u64 y,.int .u64 c]).run prog w = .ok (.value (.tuple #[.int .u64 (loW (x+y+c):Nat),.int .u64 (hiW (x+y+c):Nat)])) w:=by
 rw [run_callFunc_extern func238 (by kernel_rfl) (by kernel_rfl) (by kernel_rfl) (e:=add64Entry) (by kernel_rfl),run_add64 x y c (by omega) (by omega) (by omega) (by omega)];simp only [Result.andThen,loW,hiW]
 congr 5 <;> omega
theorem xW (x y:Nat) (w:World):(callFunc 238 #[.int .u64 x,.int .u64 y,.int .u64 0]).run prog w = .ok (.value (.tuple #[.int .u64 (loW (x+y):Nat),.int .u64 (hiW (x+y):Nat)])) w:=aAz x y 0 (by omega) w
theorem aMd (x y b:Nat) (c:b<=1):∃d a:Nat,(∀w,(callFunc 239 #[.int .u64 x,.int .u64 y,.int .u64 b]).run prog w = .ok (.value (.tuple #[.int .u64 d,.int .u64 a])) w)/\d=(x+18446744073709551616 - y - b) % 18446744073709551616/\a=if x<y+b then 1 else 0:=by
 refine⟨_,_,fun w=>?_,rfl,rfl⟩;rw [run_callFunc_extern func239 (by kernel_rfl) (by kernel_rfl) (by kernel_rfl) (e:=sub64Entry) (by kernel_rfl),run_sub64 (P:=prog) x y b c w];rfl
structure zU (g:Nat) (w w':World):Prop where
 below:Below g w w'
 size:w'.heap.size=w.heap.size
 other:∀k,k≠g->w'.heap[k]? = w.heap[k]?
theorem zU.refl (g:Nat) (w:World):zU g w w:=⟨aO _ _,rfl,fun _ _=>rfl⟩
theorem zU.trans {g:Nat} {a b c:World} (h:zU g a b) (k:zU g b c):zU g a c:=⟨h.below.trans k.below,k.size.trans h.size,fun i d=>(k.other i d).trans (h.other i d)⟩
theorem zU.setCell {g:Nat} {a w:World} (h:zU g a w) (j:Nat) (v:Value):zU g a (w.setCell ⟨g,j,none⟩ v):=⟨h.below.setCell aA _,eX.trans h.size,fun k b=>(dZ _ _ _ _ b).trans (h.other k b)⟩
theorem zU.rd {g:Nat} {w w':World} (h:zU g w w') {c:Type} {R:cH c} {a:Option Addr} {n:Nat} {xs:List c} (k:bT R (fun k=>k≠g) w a n xs):bT R (fun k=>k≠g) w' a n xs:=
 k.keep (fun b _ d=>h.other b d) (cD h.size.symm)
section
variable {pre ds win post : List Int} {o i : Nat}
theorem tS (c:pre.length=o) (hd:ds.length=i) (a:i<win.length):nth (pre++((ds++win.drop i)++post)) (o+i)=nth win i:=by
 have b:o+i<(pre++((ds++win.drop i)++post)).length:=by simp;omega
 rw [cE b,cE a];rw [List.getElem_append_right (by omega),List.getElem_append_left (by simp;omega),List.getElem_append_right (by omega),tF]
 congr 1
 omega
theorem vY (d:Int) (b:pre.length=o) (hd:ds.length=i) (a:i<win.length):(pre++((ds++win.drop i)++post)).set (o+i) d=pre++(((ds ++ [d])++win.drop (i+1))++post):=by
 rw [sW _ _ (by omega),List.set_append_left _ _ (by simp;omega),sW _ _ (by omega),show o+i - pre.length - ds.length=0 by omega,kY a,yS];simp
end
theorem aRq (g o n N c m base:Nat) (pre win post ys:List Int) (b:Option Addr) (w:World) (v:iO w base g N (pre++(win++post))) (Q:pre.length=o) (S:win.length=n+1)
  (hy:bT cH.u64 (fun k=>k≠g) w b n ys) (U:bY ys) (ay:n<=1099511627776) (av:n+1<=c) :
  Calls prog 203 #[.slice (some ⟨g,o,none⟩) (n+1:Nat) c,.slice b n m] w fun e w'=>e = .returned (.tuple #[]) /\
   ∃ds:List Int,ds.length=n+1/\aJ ds=(aJ win+aJ ys) % aK ^ (n+1)/\iO w' base g N (pre++(ds++post))/\zU g w w':=by
 have af:=Z v;have ag:=Z hy;have F:=Z hy.1;have a0:=Z U;have B:=Z Q;have f:=Z S;have T:=Z (show bY win from fun x al=>v.2.2.1 x (by simp [al]));have K:=Z (show o+n+1<=N from by have:=v.1;simp at this;omega);clear v hy U Q S;go_enter func203,ntmps203
 go_wp2
 go_loopw [4,9] (fun aq H wr=>∃(i a:Nat) (ds:List Int),i<=n/\aq = .int .u64 a/\H = .int .i64 i/\a<=1/\Hid (ds.length=i)/\Hid (aJ ds+aK ^ i * a=aJ (win.take i)+aJ (ys.take i))/\Hid (iO wr base g N (pre++((ds++win.drop i)++post)))/\Hid (zU g w wr)) (fun _ H _=>n - (intOf H).toNat)
 case atStart=>exact⟨0,0,[],aN,rfl,rfl,by omega,(by show([]:List Int).length=0;rfl),(by show aJ []+_=_;simp [iL]),(by have:=af.o;rw [iE,cW];exact this),zU.refl _ _⟩
 case round=>
  obtain ⟨i,a,ds,aw,rfl,rfl,L,p,M,q,E⟩:=hrel;by_cases O:i<n
  case pos=>
   obtain ⟨ar,a1,rfl,an,u1⟩:=((E.o).rd (ag.o)).at64 (k:=i) (by rw [F.o];exact O);have y0:=q.o.cell (j:=o+i) (by have:=K.o;omega);have Y:=q.o.frz (o+i);rw [tS B.o p.o (by rw [f.o];omega)] at y0;have r:=T.o.nth (i:=i) (by rw [f.o];omega);have t:=r.cast;have I:=u1.cast;have V:=r.lt;have ao:=u1.lt;have G:=Z (bU (l:=win) (i:=i) (by rw [f.o];omega));have ap:=Z (bU (l:=ys) (i:=i) (by rw [F.o];exact O));rw [<-t] at y0;rw [<-I] at an;generalize (nth win i).toNat=x at *;generalize (nth ys i).toNat=y at *;clear t I r u1;have az:=fun W=>aAz x y a L W
   have R:=Z (aRh (x:=x) (y:=y) M.o p.o);have ah:hiW (x+y+a)<=1:=aDo V ao L;have A:loW (x+y+a)<aK:=xV _;have D:=Z (q.o.set (j:=o+i) (x:=(loW (x+y+a):Nat)) (gJ A));have ak:=@Z (aJ (ds ++ [((loW (x+y+a):Nat):Int)])+aK ^ (i+1) * hiW (x+y+a)=aJ (win.take i)+aK ^ i * x+(aJ (ys.take i)+aK ^ i * y)) R.o;have ax:(i:Int)<n:=by omega
   have C:=Z (E.o.setCell (o+i) (.int .u64 (loW (x+y+a):Nat)));clear R;generalize loW (x+y+a)=d at *;generalize hiW (x+y+a)=X at *;go_wp2
   go_roundw
   case rel=>
    refine⟨i+1,X,ds ++ [(d:Int)],by omega,rfl,by go_num,ah,(by show(ds++_).length=_;have:=p.o;simp;omega),(by show aJ _+_=_;rw [G.o,ap.o];exact ak.o),?_,C.o⟩;have:=D.o;rw [vY _ B.o p.o (by rw [f.o];omega)] at this;exact this
   case measure=>first | (simp [intOf];done) | (simp [intOf];omega)
  case neg=>
   obtain rfl:i=n:=by omega
   have y0:=q.o.cell (j:=o+i) (by have:=K.o;omega);have Y:=q.o.frz (o+i);rw [tS B.o p.o (by rw [f.o];omega)] at y0;have r:=T.o.nth (i:=i) (by rw [f.o];omega);have t:=r.cast;have V:=r.lt;have G:=Z (bU (l:=win) (i:=i) (by rw [f.o];omega));rw [<-t] at y0;generalize (nth win i).toNat=x at *;clear t r;have au:IntKind.u64.wrap ((x:Int)+a)=(loW (x+a):Nat):=by unfold loW;simp only [tB];omega
   have A:loW (x+a)<aK:=xV _;have D:=Z (q.o.set (j:=o+i) (x:=(loW (x+a):Nat)) (gJ A));have C:=Z (E.o.setCell (o+i) (.int .u64 (loW (x+a):Nat)));have ai:=Z (show aJ (ds ++ [((loW (x+a):Nat):Int)])=(aJ win+aJ ys) % aK ^ (i+1) from by
    have aa:=aUy (x+a);have ab:=M.o;have J:=G.o;rw [fL (by rw [f.o];exact aA)] at J;rw [fL (l:=ys) (by rw [F.o];exact aA)] at ab;have P:=iC (l:=ds ++ [((loW (x+a):Nat):Int)]) (bY.snoc (fun z am=>q.o.2.2.1 z (by simp [am])) A);have aj:(ds ++ [((loW (x+a):Nat):Int)]).length=i+1:=by have:=p.o;simp;omega
    rw [aj] at P;have ad:aJ win+aJ ys=aJ (ds ++ [((loW (x+a):Nat):Int)])+aK ^ (i+1) * hiW (x+a):=by
     have ae:aK ^ i * (loW (x+a)+aK * hiW (x+a))=aK ^ i * (x+a):=by rw [aa]
     rw [cN,cN] at ae;rw [iV,p.o,J,iF,eU];omega
    rw [ad,aAq,lY P])
   generalize loW (x+a)=d at *;go_wp2;go_end0;refine⟨rfl,ds ++ [(d:Int)],(by have:=p.o;simp;omega),ai.o,?_,C.o⟩;have:=D.o;rw [vY _ B.o p.o (by rw [f.o];omega),pU (by rw [f.o];exact aA),lZ] at this;exact this
theorem aDr (y k:Nat) (hy:y<aK) (c:k<aK):∃a b:Nat,(∀w,Calls prog 237 #[.int .u64 y,.int .u64 k] w fun e w'=>e = .returned (.tuple #[.int .u64 a,.int .u64 b])/\w'=w)/\a=y * k / aK/\b=y * k % aK:=
 ⟨_,_,fun w=>Tryz.bits_Mul64 y k hy c w,rfl,rfl⟩
theorem aYk {p:Prop} [Decidable p]:(if p then 1 else 0:Nat)<=1:=by split <;> omega
theorem sG (x l c:Nat) (p:x<aK) (k:l<aK) (j:c<=1):∃d a:Nat,(∀w,(callFunc 239 #[.int .u64 x,.int .u64 l,.int .u64 c]).run prog w = .ok (.value (.tuple #[.int .u64 d,.int .u64 a])) w)/\d<aK/\a<=1/\d+l+c=x+aK * a:=by
 obtain ⟨d,a,m,hd,f⟩:=aMd x l c j;have e:=aPf (x:=x) (l:=l) (b:=c) p k j;rw [<-f] at e;unfold aK at *;rw [<-hd] at e;refine⟨d,a,m,?_,?_,e⟩
 ·rw [hd];exact gN _ (by decide)
 ·rw [f];exact aYk
theorem aJj (y k a:Nat) (hy:y<aK) (f:k<aK) (j:a<aK):∃b d l c1:Nat,(∀w,Calls prog 237 #[.int .u64 y,.int .u64 k] w fun e w'=>e = .returned (.tuple #[.int .u64 b,.int .u64 d])/\w'=w) /\
  (∀w,(callFunc 238 #[.int .u64 d,.int .u64 a,.int .u64 0]).run prog w = .ok (.value (.tuple #[.int .u64 l,.int .u64 c1])) w)/\l<aK/\IntKind.u64.wrap ((b:Int)+c1)=((b+c1:Nat):Int)/\b+c1<aK/\l+aK * (b+c1)=y * k+a:=by
 obtain ⟨b,d,m,rfl,rfl⟩:=aDr y k hy f;have c:=aPg hy f j;refine⟨_,_,_,_,m,fun w=>xW _ a w,xV _,?_,c.1,c.2⟩;rw [show(((y * k / aK:Nat):Int)+(hiW (y * k % aK+a):Nat))=((y * k / aK+hiW (y * k % aK+a):Nat):Int) by simp];exact bO c.1
theorem aRr (g o n N c m base k:Nat) (pre win post ys:List Int) (b:Option Addr) (w:World) (D:iO w base g N (pre++(win++post))) (ag:pre.length=o) (ah:win.length=n+1)
  (hy:bT cH.u64 (fun k=>k≠g) w b n ys) (aj:bY ys) (a9:n<=1099511627776) (a6:n+1<=c) (ab:k<aK) :
  Calls prog 202 #[.slice (some ⟨g,o,none⟩) (n+1:Nat) c,.slice b n m,.int .u64 k] w fun e w'=>
   ∃(ds:List Int) (t:Bool),e = .returned (.bool t)/\ds.length=n+1/\aJ ds+aJ ys * k=aJ win+aK ^ (n+1) * (if t then 1 else 0)/\iO w' base g N (pre++(ds++post))/\zU g w w':=by
 have am:=Z D;have an:=Z hy;have L:=Z hy.1;have aD:=Z aj;have F:=Z ag;have a:=Z ah;have ar:=Z ab;have ai:=Z (show bY win from fun x ax=>D.2.2.1 x (by simp [ax]));have U:=Z (show o+n+1<=N from by have:=D.1;simp at this;omega);clear D hy aj ag ah ab;go_enter func202,ntmps202
 go_wp2
 go_loopw [7,8,16] (fun a2 a3 O wr=>∃(i r q:Nat) (ds:List Int),i<=n/\a2 = .int .u64 r/\a3 = .int .u64 q/\O = .int .i64 i/\Hid (r<aK)/\q<=1/\Hid (ds.length=i)/\Hid (aJ ds+aJ (ys.take i) * k=aJ (win.take i)+aK ^ i * (q+r))/\Hid (iO wr base g N (pre++((ds++win.drop i)++post)))/\Hid (zU g w wr)) (fun _ _ O _=>n - (intOf O).toNat)
 case atStart=>exact⟨0,0,0,[],aN,rfl,rfl,rfl,(by show 0<aK;decide),by omega,(by show([]:List Int).length=0;rfl),(by show aJ []+_=_;simp [iL]),(by have:=am.o;rw [iE,cW];exact this),zU.refl _ _⟩
 case round=>
  obtain ⟨i,r,q,ds,a7,rfl,rfl,rfl,X,V,f,Y,z,I⟩:=hrel;by_cases aa:i<n
  case pos=>
   obtain ⟨a4,aF,rfl,ay,u1⟩:=((I.o).rd (an.o)).at64 (k:=i) (by rw [L.o];exact aa);have y0:=z.o.cell (j:=o+i) (by have:=U.o;omega);have ak:=z.o.frz (o+i);rw [tS F.o f.o (by rw [a.o];omega)] at y0;have v:=ai.o.nth (i:=i) (by rw [a.o];omega);have A:=v.cast;have Q:=u1.cast;have K:=Z v.lt;have az:=Z u1.lt;have M:=Z (bU (l:=win) (i:=i) (by rw [a.o];omega));have a1:=Z (bU (l:=ys) (i:=i) (by rw [L.o];exact aa));rw [<-A] at y0;rw [<-Q] at ay;generalize (nth win i).toNat=x at *;generalize (nth ys i).toNat=y at *;clear A Q v u1;obtain ⟨a0,aE,l,c1,ae,aB,ad,aC,W,af⟩:=aJj y k r az.o ar.o X.o;obtain ⟨d,p,av,B,E,C⟩:=sG x l q K.o ad V;have au:=Z ae;have J:=Z B;have aw:=Z (aPe (P:=aJ (ys.take i) * k) Y.o f.o af C);have H:=Z (z.o.set (j:=o+i) (x:=(d:Nat)) (gJ J.o));have G:=Z (I.o.setCell (o+i) (.int .u64 (d:Nat)));have a8:(i:Int)<n:=by omega
   have ap:=Z W;clear C af ae B W ad;generalize a0+c1=c2 at *
   go_wp2_with fail
   refine(au.o _).mono ?_;rintro e aG ⟨rfl,rfl⟩;go_wp2
   go_roundw
   case rel=>
    refine⟨i+1,c2,p,ds ++ [(d:Int)],by omega,by go_num,rfl,by go_num,ap.o,E,(by show(ds++_).length=_;have:=f.o;simp;omega),(by
     show aJ _+_=_;have:=aw.o;rw [M.o,a1.o,fC,eU];exact this),?_,G.o⟩
    have:=H.o;rw [vY _ F.o f.o (by rw [a.o];omega)] at this;exact this
   case measure=>first | (simp [intOf];done) | (simp [intOf];omega)
  case neg=>
   obtain rfl:i=n:=by omega
   have y0:=z.o.cell (j:=o+i) (by have:=U.o;omega);have ak:=z.o.frz (o+i);rw [tS F.o f.o (by rw [a.o];omega)] at y0;have v:=ai.o.nth (i:=i) (by rw [a.o];omega);have A:=v.cast;have K:=Z v.lt;have M:=Z (bU (l:=win) (i:=i) (by rw [a.o];omega));rw [<-A] at y0;generalize (nth win i).toNat=x at *;clear A v;obtain ⟨d,p,av,B,E,C⟩:=sG x r q K.o X.o V;have J:=Z B;have H:=Z (z.o.set (j:=o+i) (x:=(d:Nat)) (gJ J.o));have G:=Z (I.o.setCell (o+i) (.int .u64 (d:Nat)));have aq:=Z (show aJ (ds ++ [(d:Int)])+aJ ys * k=aJ win+aK ^ (i+1) * p from by
    have S:=Y.o;have T:=M.o;rw [fL (by rw [a.o];exact aA)] at T;rw [fL (l:=ys) (by rw [L.o];exact aA)] at S;have al:aK ^ i * (d+r+q)=aK ^ i * (x+aK * p):=by rw [C]
    rw [cN,cN,cN] at al;rw [cN] at S;rw [iV,f.o,T,iF,eU];omega)
   have ao:=Z E;clear C E B;go_wp2;go_ret;refine⟨ds ++ [(d:Int)],decide (0<p),rfl,(by have:=f.o;simp;omega),?_,?_,G.o⟩
   ·have:=aq.o;rw [this];have a5:=ao.o;rcases (show p=0\/p=1 by omega) with R | R <;> rw [R] <;> rfl
   ·have:=H.o;rw [vY _ F.o f.o (by rw [a.o];omega),pU (by rw [a.o];exact aA),lZ] at this;exact this
end Go.Proofs.YtgoojkiccdjplaaGreatDoor
