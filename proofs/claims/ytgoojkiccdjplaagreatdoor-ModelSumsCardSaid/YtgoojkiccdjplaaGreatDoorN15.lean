/-
  Parts of this claim's texts, one behind the other: ZC ZD ZE EC ED. No condition.
-/
import Derived.Test.YtgoojkiccdjplaaGreatDoorN13
import Derived.Test.YtgoojkiccdjplaaGreatDoorN14
import Derived.Test.YtgoojkiccdjplaaGreatDoorN7
set_option linter.unusedVariables false
set_option linter.unusedSimpArgs false
set_option maxRecDepth 100000
set_option maxHeartbeats 16000000
namespace Go.Proofs.YtgoojkiccdjplaaGreatDoor
open Go.RowKit Go.Sort Go.Lib
theorem aL9 {w:World} {g:Nat} {m:Int} {f:Nat × Nat} (h:w.heap[g]? = some (.cells #[.int .u64 m] 177 f)) (hm:uX m):bJ bV.u64 (fun _=>True) w (some ⟨g,0,none⟩) 1 [m]:=by
 refine⟨rfl,fun _=>⟨g,0,rfl,(bQ h).1,trivial,fun j x hx=>?_⟩⟩
 match j,hx with
 |
  0,hx=>
  simp at hx;subst hx;refine⟨[.int .u64 m],⟨rfl,hm⟩,fun i u hu=>?_⟩
  match i,hu with
  | 0,hu=>simp at hu;subst hu;exact aC h 0
section
variable {S S' : Nat -> Prop}
def cI (r:cE) (w:World) (e:Ending) (w':World):Prop:=∃a c b d,e = .returned (dK r a c b d)/\bJ bV.u64 (dM w.heap.size w') w' a r.num.length r.num/\bJ bV.u64 (dM w.heap.size w') w' b r.den.length r.den/\(r.num.length<=c/\c<=maxLen)/\(r.den.length<=d/\d<=maxLen)/\Below w.heap.size w w'
abbrev setL (p:Nat) (l:List (Nat × Value)) (W:World):World:=l.foldl (fun W iv=>W.setCell ⟨p,iv.1,none⟩ iv.2) W
theorem cN {p:Nat} {t:TypeId} (h1:t≠3) (h2:t≠177):∀(l:List (Nat × Value)) (W:World) (cs:Array Value),W.heap[p]? = some (.cells cs t (0,0)) ->
  (∀k,dO W k->(setL p l W).heap[k]? = W.heap[k]?)/\(setL p l W).heap.size=W.heap.size/\∀(B:Nat) (w:World),B<=p->Below B w W->Below B w (setL p l W)
 | [],W,_,_=>⟨fun _ _=>rfl,rfl,fun _ _ _ h=>h⟩
 |
  iv :: l,W,cs,hp=>by
  have hp':(W.setCell ⟨p,iv.1,none⟩ iv.2).heap[p]? = some (.cells (cs.setIfInBounds iv.1 iv.2) t (0,0)):=by
   unfold World.setCell;rw [Array.getElem?_modify,if_pos rfl,hp];rfl
  have hk:∀k,dO W k->(W.setCell ⟨p,iv.1,none⟩ iv.2).heap[k]? = W.heap[k]?:=fun k hk=>Below.heap_setCell _ _ _ _ (fun e=>by subst e;exact dO.ne hk h1 h2 ⟨_,_,hp⟩)
  obtain ⟨q1,q2,q3⟩:=cN h1 h2 l _ _ hp';exact⟨fun k h=>(q1 k (h.same (hk k h))).trans (hk k h),q2.trans fD,fun B w hB h=>q3 B w hB (h.setCell hB _)⟩
theorem cI.set {r:cE} {w W:World} {p:Nat} {cs:Array Value} {t:TypeId} {a b:Option Addr} {c d:Nat} (h1:t≠3) (h2:t≠177) (hp:W.heap[p]? = some (.cells cs t (0,0))) (hwp:w.heap.size<=p)
  (hn:bJ bV.u64 (dM w.heap.size W) W a r.num.length r.num) (hd:bJ bV.u64 (dM w.heap.size W) W b r.den.length r.den) (hc:r.num.length<=c/\c<=maxLen) (hdd:r.den.length<=d/\d<=maxLen) (hb:Below w.heap.size w W) (l:List (Nat × Value)):cI r w (.returned (dK r a c b d)) (setL p l W):=by
 obtain ⟨q1,q2,q3⟩:=cN h1 h2 l W cs hp;exact⟨a,c,b,d,rfl,hn.move q1 (Nat.le_of_eq q2.symm),hd.move q1 (Nat.le_of_eq q2.symm),hc,hdd,q3 _ _ hwp hb⟩
end
abbrev iS (ng:Bool) (a:Option Addr) (n c:Nat):Value:=.agg #[.bool ng,.slice a n c]
theorem qT (neg:Bool) (a:Option Addr) (n c:Nat) (w:World):Calls Tryz.prog 242 #[.bool neg,.slice a n c] w fun e w'=>e = .returned (iS (neg && decide (0<n)) a n c)/\Below w.heap.size w w':=by
 cases neg
 case false=>
  go_enter Tryz.func242,Tryz.ntmps242
  go_wp2;refine bodyPost_ret (v:=iS false a n c) (by simp [results,Tryz.results242,go_sem, *]) rfl ?_;exact⟨rfl,bD⟩
 case true=>
  by_cases hn:0<n
  case pos=>
   have hi:(0:Int)<n:=by omega
   have hd:decide ((0:Int)<n)=true:=decide_eq_true hi;have hd2:=hid (show(true && decide (0<n))=true from by rw [decide_eq_true hn];rfl);rw [hd2.out];go_enter Tryz.func242,Tryz.ntmps242
   go_wp2;refine bodyPost_ret (v:=iS true a n c) (by simp [results,Tryz.results242,go_sem, *]) rfl ?_;exact⟨rfl,bD⟩
  case neg=>
   obtain rfl:n=0:=by omega
   clear hn;go_enter Tryz.func242,Tryz.ntmps242
   go_wp2;refine bodyPost_ret (v:=iS false a 0 c) (by simp [results,Tryz.results242,go_sem, *]) rfl ?_;exact⟨rfl,bD⟩
theorem jT {z:Nat}:decide (0<(aF z).length)=decide (0<z):=by
 by_cases h:0<z
 ·rw [decide_eq_true h,decide_eq_true (aZ.2 h)]
 ·rw [decide_eq_false h,decide_eq_false fun e=>h (aZ.1 e)]
def ZP (z:ZD) (w:World) (e:Ending) (w':World):Prop:=∃a c,e = .returned (iS z.neg a (aF z.n).length c)/\bJ bV.u64 (dM w.heap.size w') w' a (aF z.n).length (aF z.n)/\((aF z.n).length<=c/\c<=maxLen)/\Below w.heap.size w w'
theorem IntPost2.set {z:ZD} {w W:World} {p:Nat} {cs:Array Value} {t:TypeId} {a:Option Addr} {c:Nat} (h1:t≠3) (h2:t≠177) (hp:W.heap[p]? = some (.cells cs t (0,0))) (hwp:w.heap.size<=p)
  (hn:bJ bV.u64 (dM w.heap.size W) W a (aF z.n).length (aF z.n)) (hc:(aF z.n).length<=c/\c<=maxLen) (hb:Below w.heap.size w W) (l:List (Nat × Value)):ZP z w (.returned (iS z.neg a (aF z.n).length c)) (setL p l W):=by
 obtain ⟨q1,q2,q3⟩:=cN h1 h2 l W cs hp;exact⟨a,c,rfl,hn.move q1 (Nat.le_of_eq q2.symm),hc,q3 _ _ hwp hb⟩
theorem nJ (w:World) (a b c:Obj):(((w.alloc a).alloc b).alloc c).heap[w.heap.size]? = some a:=(Below.heap_alloc _ _ _ (by simp <;> omega)).trans (dG w a b)
theorem nK (w:World) (a b c:Obj):(((w.alloc a).alloc b).alloc c).heap[w.heap.size+1]? = some b:=(Below.heap_alloc _ _ _ (by simp <;> omega)).trans (cY w a b)
theorem pU (w:World) (a b c:Obj):(((w.alloc a).alloc b).alloc c).heap[w.heap.size+1+1]? = some c:=by
 have:=heap_alloc_new ((w.alloc a).alloc b) c
 simpa using this
theorem nL (w:World) (a b c:Obj):Below w.heap.size w (((w.alloc a).alloc b).alloc c):=(bX w a b).alloc (bX w a b).size c
section
variable {S S' : Nat -> Prop}
theorem mI (s t:Bool) (a b:Option Addr) (n m c d x y:Nat) (w:World) (hx:bJ bV.u64 S w a n (aF x)) (hy:bJ bV.u64 S' w b m (aF y)) (hn:n<=274877906944) (hm:m<=274877906944) :
  Calls Tryz.prog 211 #[iS s a n c,iS t b m d] w fun e w'=>ZP (aT ⟨s,x⟩ ⟨t,y⟩) w e w':=by
 have X0:=hid (pU w (.cells #[.bool s,.slice a n c] 160) (.cells #[.bool t,.slice b m d] 160) (.cells #[.bool false,.slice none 0 0] 160));have x1:=nJ w (.cells #[.bool s,.slice a n c] 160) (.cells #[.bool t,.slice b m d] 160) (.cells #[.bool false,.slice none 0 0] 160);have x2:=nK w (.cells #[.bool s,.slice a n c] 160) (.cells #[.bool t,.slice b m d] 160) (.cells #[.bool false,.slice none 0 0] 160);have hB0:=hid (nL w (.cells #[.bool s,.slice a n c] 160) (.cells #[.bool t,.slice b m d] 160) (.cells #[.bool false,.slice none 0 0] 160));have hsz:=hid hB0.out.size;generalize hw0:((w.alloc (.cells #[.bool s,.slice a n c] 160)).alloc (.cells #[.bool t,.slice b m d] 160)).alloc (.cells #[.bool false,.slice none 0 0] 160)=w0 at *;have ht:=hid (fun W (hb:Below w0.heap.size w0 W)=>hD a b n m c d x y W (hx.below (aI hB0 hb) aB) (hy.below (aI hB0 hb) aB) hn hm);have q0:w0.cell? ⟨w.heap.size,0,none⟩=some (.bool s):=aC x1 0;have q1:w0.cell? ⟨w.heap.size,1,none⟩=some (.slice a n c):=aC x1 1;have r0:w0.cell? ⟨w.heap.size+1,0,none⟩=some (.bool t):=aC x2 0;have r1:w0.cell? ⟨w.heap.size+1,1,none⟩=some (.slice b m d):=aC x2 1;clear x1 x2 hx hy;go_enter Tryz.func211,Tryz.ntmps211
 go_wp2;clear hw0;refine aW (S:=fun W=>Below w0.heap.size w0 W) 11 (by kernel_rfl) (by kernel_rfl) (aG w0) (fun _=>?_);refine aE 0 ?_;refine cJ 1 (fun W h=>aD h q0) ?_;refine aE 2 ?_;refine cJ 3 (fun W h=>aD h r0) ?_;refine aE 4 ?_;refine aE 5 ?_;refine cJ 6 (fun W h=>aD h q1) ?_;refine aE 7 ?_;refine cJ 8 (fun W h=>aD h r1) ?_;refine aN 9 fun K hK=>?_;go_simp
 go_at_call 216
 refine(ht.out _ (aG w0)).mono ?_;rintro ee w9 ⟨a9,c9,rfl,s9,l9,m9,b9⟩;have B9:Below w0.heap.size w0 w9:=(aG w0).trans (b9.mono (aG w0).size);have hwi:=hid (qT (s != t) a9 (aF (x * y)).length c9 w9);have S9:=hid (s9.mono (S':=dM w.heap.size w9) fun k _ h=>⟨h.1,aK hsz.out h.2⟩);clear b9 s9;dsimp only;refine hK.out _ _ (by(exact B9)) (fun hHeld2=>?_);clear hK K;refine aN 10 fun K hK=>?_;go_simp
 go_at_call 242
 refine hwi.out.mono ?_;rintro ee w10 ⟨rfl,b10⟩;have B10:Below w0.heap.size w0 w10:=B9.trans (b10.mono B9.size);have S10:=hid (S9.out.move (Below.dat b10) b10.size);clear b10 hwi;dsimp only;refine hK.out _ _ (by(exact B10)) (fun hHeld3=>?_);clear hK K;(try simp only [Act.put,sA,sB,sC]);refine bH (by decide +kernel) ?_;simp only [cG,bT];have x5:=aJ B10 X0.out;have X5:=hid x5;obtain ⟨z0,z1⟩:=gI x5;obtain ⟨f0,f1⟩:=gN x5;clear x5;go_wp2;refine bodyPost_ret (v:=iS ((s != t) && decide (0<(aF (x * y)).length)) a9 (aF (x * y)).length c9) (by simp [results,Tryz.results211,go_sem, *]) rfl ?_;rw [jT];exact IntPost2.set (z:=aT ⟨s,x⟩ ⟨t,y⟩) (by decide) (by decide) X5.out (by omega) S10.out ⟨l9,m9⟩ (aI hB0 B10) [(0,.bool ((s != t) && decide (0<x * y))),(1,.slice a9 (aF (x * y)).length c9)]
end
section
variable {S S' : Nat -> Prop}
theorem iP (s t:Bool) (a b:Option Addr) (n m c d x y:Nat) (w:World) (hx:bJ bV.u64 S w a n (aF x)) (hy:bJ bV.u64 S' w b m (aF y)) (hn:n<=274877906944) (hm:m<=274877906944) :
  Calls Tryz.prog 214 #[iS s a n c,iS t b m d] w fun e w'=>ZP (eG ⟨s,x⟩ ⟨t,y⟩) w e w':=by
 have X0:=hid (pU w (.cells #[.bool s,.slice a n c] 160) (.cells #[.bool t,.slice b m d] 160) (.cells #[.bool false,.slice none 0 0] 160));have x1:=nJ w (.cells #[.bool s,.slice a n c] 160) (.cells #[.bool t,.slice b m d] 160) (.cells #[.bool false,.slice none 0 0] 160);have x2:=nK w (.cells #[.bool s,.slice a n c] 160) (.cells #[.bool t,.slice b m d] 160) (.cells #[.bool false,.slice none 0 0] 160);have hB0:=hid (nL w (.cells #[.bool s,.slice a n c] 160) (.cells #[.bool t,.slice b m d] 160) (.cells #[.bool false,.slice none 0 0] 160));generalize hw0:((w.alloc (.cells #[.bool s,.slice a n c] 160)).alloc (.cells #[.bool t,.slice b m d] 160)).alloc (.cells #[.bool false,.slice none 0 0] 160)=w0 at *;have q0:w0.cell? ⟨w.heap.size,0,none⟩=some (.bool s):=aC x1 0;have q1:w0.cell? ⟨w.heap.size,1,none⟩=some (.slice a n c):=aC x1 1;have r0:w0.cell? ⟨w.heap.size+1,0,none⟩=some (.bool t):=aC x2 0;have r1:w0.cell? ⟨w.heap.size+1,1,none⟩=some (.slice b m d):=aC x2 1;have hX:=hid (hx.mono (S':=fun _=>True) fun _ _ _=>trivial);have hY:=hid (hy.mono (S':=fun _=>True) fun _ _ _=>trivial);clear x1 x2 hx hy;by_cases hst:s=t
 case pos=>
  subst hst;have hsz:=hid hB0.out.size;have ht:=hid (fun W (hb:Below w0.heap.size w0 W)=>aAh a b n m c d x y W (hX.out.below (aI hB0 hb) aB) (hY.out.below (aI hB0 hb) aB) (by omega) (by omega));have hss:(s == s)=true:=beq_self_eq_true s;have hpl:=hid (show eG ⟨s,x⟩ ⟨s,y⟩=jA s (x+y) from by unfold eG;rw [if_pos rfl]);obtain ⟨sg,hsg⟩:∃sg,sg=s:=⟨_,rfl⟩;subst hsg;generalize eG ⟨sg,x⟩ ⟨sg,y⟩=pz at *;generalize x+y=z at *;go_enter Tryz.func214,Tryz.ntmps214
  go_wp2;clear hw0;refine aW (S:=fun W=>Below w0.heap.size w0 W) 8 (by kernel_rfl) (by kernel_rfl) (aG w0) (fun _=>?_);refine aE 0 ?_;refine cJ 1 (fun W h=>aD h q0) ?_;refine aE 2 ?_;refine cJ 3 (fun W h=>aD h q1) ?_;refine aE 4 ?_;refine cJ 5 (fun W h=>aD h r1) ?_;refine aN 6 fun K hK=>?_;go_simp
  go_at_call 243
  refine(ht.out _ (aG w0)).mono ?_;rintro ee w9 ⟨a9,c9,rfl,s9,l9,m9,b9⟩;have B9:Below w0.heap.size w0 w9:=(aG w0).trans (b9.mono (aG w0).size);have hwi:=hid (qT sg a9 (aF z).length c9 w9);have S9:=hid (s9.mono (S':=dM w.heap.size w9) fun k _ h=>⟨h.1,aK hsz.out h.2⟩);clear b9 s9;dsimp only;refine hK.out _ _ (by(exact B9)) (fun hHeld2=>?_);clear hK K;refine aN 7 fun K hK=>?_;go_simp
  go_at_call 242
  refine hwi.out.mono ?_;rintro ee w10 ⟨rfl,b10⟩;have B10:Below w0.heap.size w0 w10:=B9.trans (b10.mono B9.size);have S10:=hid (S9.out.move (Below.dat b10) b10.size);clear b10 hwi;dsimp only;refine hK.out _ _ (by(exact B10)) (fun hHeld3=>?_);clear hK K;(try simp only [Act.put,sA,sB,sC]);refine bH (by decide +kernel) ?_;simp only [cG,bT];have x5:=aJ B10 X0.out;have X5:=hid x5;obtain ⟨z0,z1⟩:=gI x5;obtain ⟨f0,f1⟩:=gN x5;clear x5;go_wp2;refine bodyPost_ret (v:=iS (sg && decide (0<(aF z).length)) a9 (aF z).length c9) (by simp [results,Tryz.results214,go_sem, *]) rfl ?_;rw [jT,hpl.out];exact IntPost2.set (z:=jA sg z) (by decide) (by decide) X5.out (by omega) S10.out ⟨l9,m9⟩ (aI hB0 B10) [(0,.bool (sg && decide (0<z))),(1,.slice a9 (aF z).length c9)]
 case neg=>
  have hst1:(s == t)=false:=by simpa using hst
  have hor:=hid (dH a b n m c d x y w0 (hX.out.below hB0.out aB) (hY.out.below hB0.out aB) (by omega) (by omega));have hpl0:=hid (show eG ⟨s,x⟩ ⟨t,y⟩=if x<y then jA t (y - x) else jA s (x - y) from by unfold eG;rw [if_neg hst]);generalize eG ⟨s,x⟩ ⟨t,y⟩=pz at *;go_enter Tryz.func214,Tryz.ntmps214
  go_wp2_with fail
  refine hor.out.mono ?_;rintro e w1 ⟨rfl,qq,hw1⟩;have B0:=hid (show Below w.heap.size w w1 from by rw [hw1];exact hB0.out.drewN qq);have X1:=hid (show w1.heap[w.heap.size+1+1]? = some (.cells #[.bool false,.slice none 0 0] 160 (0,0)) from by rw [hw1];exact X0.out);have q0':w1.cell? ⟨w.heap.size,0,none⟩=some (.bool s):=by rw [hw1];exact q0
  have q1':w1.cell? ⟨w.heap.size,1,none⟩=some (.slice a n c):=by rw [hw1];exact q1
  have r0':w1.cell? ⟨w.heap.size+1,0,none⟩=some (.bool t):=by rw [hw1];exact r0
  have r1':w1.cell? ⟨w.heap.size+1,1,none⟩=some (.slice b m d):=by rw [hw1];exact r1
  clear hw1 hw0 q0 q1 r0 r1 hB0 X0 hor;clear w0;obtain ⟨w0,rfl⟩:∃W,W=w1:=⟨_,rfl⟩;have hB0:=hid B0.out;have X0:=hid X1.out;have q0:=q0';have q1:=q1';have r0:=r0';have r1:=r1';have hsz:=hid hB0.out.size;clear B0 X1 q0' q1' r0' r1';by_cases hlt:x<y
  case pos=>
   have hpl:=hid (show pz=jA t (y - x) from by rw [hpl0.out,if_pos hlt]);have ht:=hid (fun W (hb:Below w0.heap.size w0 W)=>qS b a m n d c y x W (hY.out.below (aI hB0 hb) aB) (hX.out.below (aI hB0 hb) aB) (by omega) (by omega));obtain ⟨sg,hsg⟩:∃sg,sg=t:=⟨_,rfl⟩;subst hsg;rw [mD hlt];clear hpl0 hlt;generalize y - x=z at *;go_wp2;refine aW (S:=fun W=>Below w0.heap.size w0 W) 8 (by kernel_rfl) (by kernel_rfl) (aG w0) (fun _=>?_);refine aE 0 ?_;refine cJ 1 (fun W h=>aD h r0) ?_;refine aE 2 ?_;refine cJ 3 (fun W h=>aD h r1) ?_;refine aE 4 ?_;refine cJ 5 (fun W h=>aD h q1) ?_;refine aN 6 fun K hK=>?_;go_simp
   go_at_call 244
   refine(ht.out _ (aG w0)).mono ?_;rintro ee w9 ⟨a9,c9,rfl,s9,l9,m9,b9⟩;have B9:Below w0.heap.size w0 w9:=(aG w0).trans (b9.mono (aG w0).size);have hwi:=hid (qT sg a9 (aF z).length c9 w9);have S9:=hid (s9.mono (S':=dM w.heap.size w9) fun k _ h=>⟨h.1,aK hsz.out h.2⟩);clear b9 s9;dsimp only;refine hK.out _ _ (by(exact B9)) (fun hHeld2=>?_);clear hK K;refine aN 7 fun K hK=>?_;go_simp
   go_at_call 242
   refine hwi.out.mono ?_;rintro ee w10 ⟨rfl,b10⟩;have B10:Below w0.heap.size w0 w10:=B9.trans (b10.mono B9.size);have S10:=hid (S9.out.move (Below.dat b10) b10.size);clear b10 hwi;dsimp only;refine hK.out _ _ (by(exact B10)) (fun hHeld3=>?_);clear hK K;(try simp only [Act.put,sA,sB,sC]);refine bH (by decide +kernel) ?_;simp only [cG,bT];have x5:=aJ B10 X0.out;have X5:=hid x5;obtain ⟨z0,z1⟩:=gI x5;obtain ⟨f0,f1⟩:=gN x5;clear x5;go_wp2;refine bodyPost_ret (v:=iS (sg && decide (0<(aF z).length)) a9 (aF z).length c9) (by simp [results,Tryz.results214,go_sem, *]) rfl ?_;rw [jT,hpl.out];exact IntPost2.set (z:=jA sg z) (by decide) (by decide) X5.out (by omega) S10.out ⟨l9,m9⟩ (aI hB0 B10) [(0,.bool (sg && decide (0<z))),(1,.slice a9 (aF z).length c9)]
  case neg=>
   have hpl:=hid (show pz=jA s (x - y) from by rw [hpl0.out,if_neg hlt]);have ht:=hid (fun W (hb:Below w0.heap.size w0 W)=>qS a b n m c d x y W (hX.out.below (aI hB0 hb) aB) (hY.out.below (aI hB0 hb) aB) (by omega) (by omega));obtain ⟨sg,hsg⟩:∃sg,sg=s:=⟨_,rfl⟩;subst hsg;have hcm:¬dU x y<0:=by
    unfold dU;rw [if_neg hlt]
    split <;> omega
   have hcd:decide (dU x y<0)=false:=decide_eq_false hcm;clear hpl0 hlt;generalize dU x y=cm at *;generalize x - y=z at *;go_wp2;refine aW (S:=fun W=>Below w0.heap.size w0 W) 8 (by kernel_rfl) (by kernel_rfl) (aG w0) (fun _=>?_);refine aE 0 ?_;refine cJ 1 (fun W h=>aD h q0) ?_;refine aE 2 ?_;refine cJ 3 (fun W h=>aD h q1) ?_;refine aE 4 ?_;refine cJ 5 (fun W h=>aD h r1) ?_;refine aN 6 fun K hK=>?_;go_simp
   go_at_call 244
   refine(ht.out _ (aG w0)).mono ?_;rintro ee w9 ⟨a9,c9,rfl,s9,l9,m9,b9⟩;have B9:Below w0.heap.size w0 w9:=(aG w0).trans (b9.mono (aG w0).size);have hwi:=hid (qT sg a9 (aF z).length c9 w9);have S9:=hid (s9.mono (S':=dM w.heap.size w9) fun k _ h=>⟨h.1,aK hsz.out h.2⟩);clear b9 s9;dsimp only;refine hK.out _ _ (by(exact B9)) (fun hHeld2=>?_);clear hK K;refine aN 7 fun K hK=>?_;go_simp
   go_at_call 242
   refine hwi.out.mono ?_;rintro ee w10 ⟨rfl,b10⟩;have B10:Below w0.heap.size w0 w10:=B9.trans (b10.mono B9.size);have S10:=hid (S9.out.move (Below.dat b10) b10.size);clear b10 hwi;dsimp only;refine hK.out _ _ (by(exact B10)) (fun hHeld3=>?_);clear hK K;(try simp only [Act.put,sA,sB,sC]);refine bH (by decide +kernel) ?_;simp only [cG,bT];have x5:=aJ B10 X0.out;have X5:=hid x5;obtain ⟨z0,z1⟩:=gI x5;obtain ⟨f0,f1⟩:=gN x5;clear x5;go_wp2;refine bodyPost_ret (v:=iS (sg && decide (0<(aF z).length)) a9 (aF z).length c9) (by simp [results,Tryz.results214,go_sem, *]) rfl ?_;rw [jT,hpl.out];exact IntPost2.set (z:=jA sg z) (by decide) (by decide) X5.out (by omega) S10.out ⟨l9,m9⟩ (aI hB0 B10) [(0,.bool (sg && decide (0<z))),(1,.slice a9 (aF z).length c9)]
theorem iW (r:Bool) (a b:Option Addr) (n c m d:Nat) (w:World):Calls Tryz.prog 212 #[.agg #[.bool r,.slice a n c,.slice b m d]] w fun e w'=>e = .returned (iS r a n c)/\Below w.heap.size w w':=by
 go_enter Tryz.func212,Tryz.ntmps212
 go_wp2;refine bodyPost_ret (v:=iS r a n c) (by simp [results,Tryz.results212,go_sem, *]) rfl ?_;exact⟨rfl,(bD).alloc (by simp) _⟩
theorem gQ (r:Bool) (a b:Option Addr) (n c m d:Nat) (w:World):Calls Tryz.prog 213 #[.agg #[.bool r,.slice a n c,.slice b m d]] w fun e w'=>e = .returned (iS false b m d)/\Below w.heap.size w w':=by
 go_enter Tryz.func213,Tryz.ntmps213
 go_wp2;refine bodyPost_ret (v:=iS false b m d) (by simp [results,Tryz.results213,go_sem, *]) rfl ?_;exact⟨rfl,(bD).alloc (by simp) _⟩
end
end Go.Proofs.YtgoojkiccdjplaaGreatDoor
