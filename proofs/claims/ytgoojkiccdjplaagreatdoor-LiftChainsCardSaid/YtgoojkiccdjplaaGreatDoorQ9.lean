/-
  Parts of this claim's texts, one behind the other: GD JD JE JF JA DH CP DO DQ DE DF CX JG ZS ZT. No condition.
-/
import Derived.Test.YtgoojkiccdjplaaGreatDoorQ8
import Derived.Test.YtgoojkiccdjplaaGreatDoorQ7
import Derived.Test.YtgoojkiccdjplaaGreatDoorQ6
import Derived.Test.YtgoojkiccdjplaaGreatDoorQ1
import Derived.Test.YtgoojkiccdjplaaGreatDoorQ0
import Derived.Test.YtgoojkiccdjplaaGreatDoorRows
import Derived.Lib.LaidU8
import Derived.Lib.LaidPrint
import Derived.PinnedBridge
import Derived.LaidOnce
import Derived.Lay
set_option linter.unusedVariables false
set_option linter.unusedSimpArgs false
set_option maxRecDepth 100000
set_option maxHeartbeats 16000000
namespace Go.Proofs.YtgoojkiccdjplaaGreatDoor
open Go.RowKit Go.Sort Go.Lib Go.Proofs.Tryz
def aW6 (pt:Nat) (v:Value) (q:Nat):Prop:=q≠pt/\v.ownBlock≠some q
def aEw (lo nb pt:Nat) (v:Value) (q:Nat):Prop:=aW6 pt v q/\q≠nb/\lo<=q
structure sR {α:Type} (R:cH α) (e tb:TypeId) (lw nb pt ci B:Nat) (cs:Array Value) (v:Value) (xs:List α) (w:World):Prop where
 blk:w.heap[pt]? = some (.cells (cs.setIfInBounds ci v) tb (0,0))
 own:cA R (aEw lw nb pt v) w B e v xs
 lo:pt<B/\B<=w.heap.size/\nb<B/\pt≠nb/\lw<=B
section
variable {α : Type} {R : cH α} {e tb : TypeId} {lw nb pt ci B : Nat} {cs : Array Value} {v v' : Value} {xs : List α} {w w' w0 wX w4 : World}
theorem sR.step (h:sR R e tb lw nb pt ci B cs v xs w) (c:oN nb w w'):sR R e tb lw nb pt ci B cs v xs w':=
 ⟨c.at h.blk (by have:=h.lo;omega),h.own.keep (fun q g f=>c.block q g f.2.1) (fun k d=>c.block k (h.own.lt k d).2 (by have:=h.lo;have:=(h.own.lt k d).1;omega)) c.size,h.lo.1,aH h.lo.2.1 c.size,h.lo.2.2⟩
theorem sR.cell (h:sR R e tb lw nb pt ci B cs v xs w) (c:ci<cs.size):w.cell? ⟨pt,ci,none⟩=some v:=by
 rw [E h.blk,xH,if_pos rfl,if_pos c]
theorem sR.new (ci:Nat) (cs:Array Value) (g:cs[ci]? = some (.slice none 0 0)) {w:World} (n:w.heap[pt]? = some (.cells cs tb (0,0))) (k:nb<B) (m:pt<B) (f:B<=w.heap.size) (l:pt≠nb) (j:lw<=B):sR R e tb lw nb pt ci B cs (.slice none 0 0) [] w:=by
 refine⟨?_,cA.nil _ _ _ _ _,m,f,k,l,j⟩;have:cs.setIfInBounds ci (.slice none 0 0)=cs:=by
  obtain ⟨p,h⟩:=bH g;apply Array.ext
  ·simp
  ·intro i o d;by_cases c:ci=i
   ·subst c;simp [h]
   ·rw [Array.getElem_setIfInBounds d,if_neg c]
 rw [this];exact n
theorem sR.push {css:List (List Value)} {x:α} {r:List Value} (h:sR R e tb lw nb pt ci B cs v xs wX) (c:K2 nb pt w0 wX) (L:w0.heap.size<=B)
  (o:aW wX B e R.k v xs.length css.flatten) (K:css.length=xs.length) (J:∀(j:Nat) (x:α),xs[j]? = some x->∃cs,css[j]? = some cs/\R.rd (aEw lw nb pt v) wX x cs)
  (I:R.rd (aEw lw nb pt v) wX x r) (p:aW w4 B e R.k v' (xs.length+1) (css.flatten++r)) (d:wX.grownBy w4 v.ownBlock) (E:v'.ownBlock=v.ownBlock\/∀k,v'.ownBlock=some k->wX.heap.size<=k) :
  sR R e tb lw nb pt ci B cs v' (xs ++ [x]) (w4.setCell ⟨pt,ci,none⟩ v')/\K2 nb pt w0 (w4.setCell ⟨pt,ci,none⟩ v')/\(wX.heap.size<=(w4.setCell ⟨pt,ci,none⟩ v').heap.size/\∀q,q<B->q≠pt->(w4.setCell ⟨pt,ci,none⟩ v').heap[q]? = wX.heap[q]?):=by
 have n:=h.lo;have G:v.ownBlock≠some pt:=fun h=>by have:=(o.lt pt h).1;omega
 have H:v'.ownBlock≠some pt:=fun h=>by have:=(p.lt pt h).1;omega
 have C:w4.heap[pt]? = some (.cells (cs.setIfInBounds ci v) tb (0,0)):=(d.block pt (bH h.blk).1 fun e=>G e.symm).trans h.blk;have l:∀q,q≠pt->(w4.setCell ⟨pt,ci,none⟩ v').heap[q]? = w4.heap[q]?:=fun q i=>dZ _ _ _ _ i
 have m:(w4.setCell ⟨pt,ci,none⟩ v').heap.size=w4.heap.size:=eX;refine⟨⟨?_,?_,n.1,by rw [m];exact aH n.2.1 d.size,n.2.2⟩,⟨d.os.trans c.os,d.tape.trans c.tape,d.output.trans c.output,by rw [m];exact aH c.size d.size,fun q i e=>?_⟩,by rw [m];exact d.size,fun q i F=>(l q F).trans (d.block q (by omega) fun e=>by have:=(o.lt q e.symm).1;omega)⟩
 ·unfold World.setCell;rw [iN,if_pos rfl,C];simp [Array.setIfInBounds_setIfInBounds]
 ·have s:=cA.push (R:=R) (S:=fun q=>aEw lw nb pt v q/\q<wX.heap.size) (x:=x) K (fun j y hy=>by
   obtain ⟨cs,f,A⟩:=J j y hy;exact⟨cs,f,R.mono A fun b g c=>⟨c,g⟩⟩) (R.mono I fun b g c=>⟨c,g⟩) p (fun b g c=>d.block b g fun e=>c.1.1.2 e.symm) d.size
  have t:=s.mono (S':=aEw lw nb pt v') fun b _ c=>⟨⟨c.1.1.1,fun h=>by
   rcases E with f | f
   ·rw [f] at h;exact c.1.1.2 h
   ·have:=f b h;have:=c.2;omega⟩,c.1.2⟩
  exact t.keep (fun b _ c=>l b c.1.1) (fun k D=>l k fun e=>H (e ▸ D)) (cD m.symm)
 ·rw [l q fun h=>e (.inr h)];refine(d.block q (bG i c.size) fun z=>?_).trans (c.block q i e);have:=(o.lt q z.symm).1;omega
theorem sR.fresh (h:sR R e tb lw nb pt ci B cs v xs w):∀q,w.heap.size<=q->aEw lw nb pt v q:=fun q c=>⟨⟨by have:=h.lo;omega,fun e=>by have:=(h.own.lt q e).2;omega⟩,by have:=h.lo;omega,by have:=h.lo;omega⟩
end
theorem aVs:∀f∈eC,(f.res=0\/f.res=1\/f.res=2)/\f.args.length<=2/\∀s∈f.args,s=0\/s=1\/s=2:=by
 unfold eC;simp
def aW7 (w:World) (e:Ending) (w':World):Prop:=
 ∃tbs ma mc,e = .returned (.agg #[.slice ma tbs.length mc])/\cA vB (fun q=>w.heap.size<=q/\(Value.slice ma tbs.length mc).ownBlock≠some q) w' w.heap.size 67 (.slice ma tbs.length mc) tbs/\mO tbs/\qK tbs eC/\Below w.heap.size w w'
theorem aW8:(Tryz.prog.info? 67).map (fun i=>(i.zero,i.size,i.bytes))=some (some (.agg #[.string ⟨#[]⟩,.slice none 0 0,.int .i64 0,.bool false,.bool false,.slice none 0 0,.slice none 0 0,.int .i64 0]),8,120):=by kernel_rfl
theorem aX7 {W:World} {p:Nat} {t:TypeId} {m z1 z2 z3 z4 z5 n o c d f g i j k l:Value} (h:W.heap[p]? = some (.cells #[m,z1,z2,z3,z4,z5,n,o] t (0,0))) :
  (setL p [(0,c),(1,d),(2,f),(3,g),(4,i),(5,j),(6,k),(7,l)] W).heap[p]? = some (.cells #[c,d,f,g,i,j,k,l] t (0,0)):=by
 rw [lR _ W _ h];simp only [tD,pJ];simp
abbrev aLk (nm:ByteArray) (v:bS) (a:Option Addr) (c:Nat) (b:Option Addr) (d:Nat):Array Value:=#[.string nm,.slice none 0 0,.int .i64 v.sort,.bool v.bool,.bool v.num.neg,.slice a v.num.num.length c,.slice b v.num.den.length d,.int .i64 v.el]
def aX8 (fn:Value) (lb nb lw:Nat) (a:Option Addr) (n c:Nat) (l:List Int) (k:Nat) (s:Int) (nm:ByteArray) (wr:World) (pt:Nat) (W:World):Prop:=
 ∃ev ea ec eb ed,Hid (sR gQ 80 67 lw nb pt 1 W.heap.size (aLk nm ev ea ec eb ed) (.slice none 0 0) [] W)/\Hid (wr.heap.size<=pt)/\Hid (Typed s ev/\eB ev)/\Hid (gA (fun q=>wr.heap.size<=q/\q≠pt) W ev ea ec eb ed)/\Hid (oN nb wr W)/\Hid (WCl fn lb nb (nb+1) a n c l k W)
theorem aO5 {j:Value} {r nb lw n c k pt:Nat} {a d f:Option Addr} {g h:Nat} {l:List Int} {s:Int} {wr wc:World} {ev:bS} (i:wc.heap[pt]? = some (.cells #[.string ⟨#[]⟩,.slice none 0 0,.int .i64 0,.bool false,.bool false,.slice none 0 0,.slice none 0 0,.int .i64 0] 67 (0,0)))
  (m:wr.heap.size<=pt/\pt<wc.heap.size) (A:Typed s ev) (y:eB ev) (t:gA (fun q=>wr.heap.size<=q/\q≠pt) wc ev d g f h) (B:oN nb wr wc) (C:WCl j r nb (nb+1) a n c l k wc) (E:nb+1<wr.heap.size) (nm:ByteArray) (G:lw<=wr.heap.size) :
  ∃p:Nat,Value.pointer (some ⟨pt,0,none⟩)=Value.pointer (some ⟨p,0,none⟩)/\aX8 j r nb lw a n c l k s nm wr p (setL pt [(0,.string nm),(1,.slice none 0 0),(2,.int .i64 ev.sort),(3,.bool ev.bool),(4,.bool ev.num.neg),(5,.slice d ev.num.num.length g),(6,.slice f ev.num.den.length h),(7,.int .i64 ev.el)] wc):=by
 have o:(setL pt [(0,.string nm),(1,.slice none 0 0),(2,.int .i64 ev.sort),(3,.bool ev.bool),(4,.bool ev.num.neg),(5,.slice d ev.num.num.length g),(6,.slice f ev.num.den.length h),(7,.int .i64 ev.el)] wc).heap.size=wc.heap.size:=wE _ _;have D:=B.size;refine⟨pt,rfl,ev,d,g,f,h,sR.new 1 _ rfl (aX7 i) (by omega) (by omega) aA (by omega) (by omega),m.1,⟨A,y⟩,t.keep (fun q _ z=>eK z.2 _ _) (cD o.symm),B.setL (.inl m.1) (by decide) (by decide) i _,C.high (cD o.symm) fun q F=>eK (by omega) _ _⟩
theorem aVt {W:World} {p:Nat} {t:TypeId} {k z1 z2 z3 z4 z5 l c d f g i j:Value} (h:W.heap[p]? = some (.cells #[k,z1,z2,z3,z4,z5,l] t (0,0))) :
  (setL p [(1,c),(2,d),(3,f),(4,g),(5,i),(6,j)] W).heap[p]? = some (.cells #[k,c,d,f,g,i,j] t (0,0)):=by
 rw [lR _ W _ h];simp only [tD,pJ];simp
theorem aLl (a:Option Addr) (n c:Nat) (l:List Int) (w:World) (ak:jQ w a n l) (eY:n<=1000) :
  Calls prog 40 #[.slice a n c] w fun e w'=>aW7 w e w':=by
 have dh:=Z (fun(W:World)=>qN W);have cB:=Z (bT.ofI (S:=fun q=>q<w.heap.size) ak (fun x eh e=>by
  obtain ⟨eI,fc,dC,ed,_⟩:=ak.cells eh;rw [dC] at e;injection e with e;rw [<-e];exact ed))
 clear ak;go_enter func40,ntmps40
 go_wp2_with fail
 have cS:=vA w (.cells #[.slice a n c] 23) (.cells #[.slice none 0 0] 71) (.cells #[.slice none 0 0] 71);have dw:=uY w (.cells #[.slice a n c] 23) (.cells #[.slice none 0 0] 71) (.cells #[.slice none 0 0] 71);have dy:=uZ w (.cells #[.slice a n c] 23) (.cells #[.slice none 0 0] 71) (.cells #[.slice none 0 0] 71);have dx:=cC ((w.alloc (.cells #[.slice a n c] 23)).alloc (.cells #[.slice none 0 0] 71)) (.cells #[.slice none 0 0] 71);have du:(((w.alloc (.cells #[.slice a n c] 23)).alloc (.cells #[.slice none 0 0] 71)).alloc (.cells #[.slice none 0 0] 71)).heap.size=w.heap.size+3:=by simp
 have cN:=Z dw;have cP:=Z dy;have cO:=Z (show(((w.alloc (.cells #[.slice a n c] 23)).alloc (.cells #[.slice none 0 0] 71)).alloc (.cells #[.slice none 0 0] 71)).heap[w.heap.size+2]? = some (.cells #[.slice none 0 0] 71) from by rw [show w.heap.size+2=((w.alloc (.cells #[.slice a n c] 23)).alloc (.cells #[.slice none 0 0] 71)).heap.size by simp];exact dx);have cJ:=Z du;have bQ:=Z cS;clear cS dw dy dx du;generalize ((w.alloc (.cells #[.slice a n c] 23)).alloc (.cells #[.slice none 0 0] 71)).alloc (.cells #[.slice none 0 0] 71)=dv at *;refine(dh.o dv).mono ?_;rintro e w4 ⟨rfl,hd,cT,eD⟩;have eq:=cJ.o;obtain ⟨cc,df⟩:∃k,dv.heap.size+3=k:=⟨_,rfl⟩;obtain ⟨nb,bK⟩:∃k,w4.heap.size=k:=⟨_,rfl⟩;obtain ⟨g,b0⟩:∃k,w.heap.size=k:=⟨_,rfl⟩;have bl:=Z (show nb=g+7 from by omega);have d6:=Z (show cc=g+6 from by omega);have cX:Below w4.heap.size w4 ((w4.alloc (.cells #[.int .i64 0] 3)).alloc (.cells #[.nilFunc] 162)):=cV w4 _ _;have b5:=eV w4 (.cells #[.int .i64 0] 3) (.cells #[.nilFunc] 162);have bC:=E b5 0;have ck:=aQ b5 0;rw [bK] at b5 bC ck;simp only [dW,dS] at bC;have cb:Below w4.heap.size w4 (((w4.alloc (.cells #[.int .i64 0] 3)).alloc (.cells #[.nilFunc] 162)).setCell ⟨nb+1,0,none⟩ (jP 96 g nb)):=cX.setCell (by show w4.heap.size<=nb+1;omega) _;have b6:=fI w4 (.cells #[.int .i64 0] 3) (.cells #[.nilFunc] 162);rw [bK] at b6;have b6:=(eK (p:=nb+1) (k:=nb) (by omega) [(0,(jP 96 g nb))] _).trans b6;have dz:=lR [(0,(jP 96 g nb))] _ _ b5;have bm:(((w4.alloc (.cells #[.int .i64 0] 3)).alloc (.cells #[.nilFunc] 162)).setCell ⟨nb+1,0,none⟩ (jP 96 g nb)).heap.size=nb+2:=by rw [eX];simp;omega
 have bk:=cT.trans (cb.mono (by omega));have b9:=Z (show WCl (jP 96 g nb) g nb (nb+1) a n c l 0 (((w4.alloc (.cells #[.int .i64 0] 3)).alloc (.cells #[.nilFunc] 162)).setCell ⟨nb+1,0,none⟩ (jP 96 g nb)) from
  ⟨by have h:=(bk.block _ (by omega)).trans cN.o;rw [b0] at h;exact h,⟨0,aA,by exact b6⟩,by exact dz,by have h:=(cB.o.below bQ.o aA).below bk aA;rw [b0] at h;exact h,by omega,by omega⟩)
 have ca:=(bk.block _ (by omega)).trans cO.o;have cR:=Z ((bk.block _ (by omega)).trans cP.o);have c9:=Z ((hd.mono (S':=fun q=>q≠nb/\q≠g+2/\q<nb) fun q cl cm=>⟨by omega,by omega,by omega⟩).below cb aA);have c6:=Z (aG bQ bk);rw [b0] at ca cR c6;have bh:=Z (sR.new (R:=vB) (e:=67) (tb:=71) (lw:=nb+2) (nb:=nb) (pt:=g+2) (B:=nb+2) 0 #[.slice none 0 0] rfl ca (by omega) (by omega) (by rw [bm];exact aA) (by omega) (by omega));have bx:=Z bm;have bA:=Z b0;have d1:=Z bK;have cA:=Z df;clear cN cP cO cJ bQ cT cX b5 cb bk b6 dz bm hd eD eq ca cB dh b0 bK df;go_wp2;rw [bA.o,d1.o,cA.o];have P:(store ⟨nb+1,0,none⟩ (jP 96 g nb)).run prog ((w4.alloc (.cells #[.int .i64 0] 3)).alloc (.cells #[.nilFunc] 162)) = .ok () (((w4.alloc (.cells #[.int .i64 0] 3)).alloc (.cells #[.nilFunc] 162)).setCell ⟨nb+1,0,none⟩ (jP 96 g nb)):=by
  rw [run_store _ _ _ _ _ rfl];simp [bC,ck]
 rw [P];simp only [Result.andThen];rw [Oper.upon_skip];clear P bC ck;generalize ex:(((w4.alloc (.cells #[.int .i64 0] 3)).alloc (.cells #[.nilFunc] 162)).setCell ⟨nb+1,0,none⟩ (jP 96 g nb))=cz at *;rw [cA.o] at c9;clear ex;go_wp2
 go_loopw [8,9,10,11,12] (fun cy _ _ _ _ wr=>∃(i:Nat) (v:Value) (J:gL),i<=10/\cy = .int .i64 i/\Hid (sR vB 67 71 (nb+2) nb (g+2) 0 (nb+2) #[.slice none 0 0] v J wr)/\Hid (K2 nb (g+2) cz wr)/\Hid (WCl (jP 96 g nb) g nb (nb+1) a n c l (20 * i) wr)/\Hid (qK J (eC.take i))/\Hid (∀t∈J,vC t)) (fun cy _ _ _ _ _=>10 - (intOf cy).toNat)
 case atStart=>exact⟨0,_,[],by omega,rfl,bh.o,eG.refl _ _,b9.o,trivial,fun t h=>by cases h⟩
 case round=>
  obtain ⟨i,v,J,eT,rfl,ay,aa,C,F,M⟩:=hrel;clear bh b9;by_cases ec:i<10
  case neg=>
   obtain rfl:i=10:=by omega
   have ef:¬((10:Nat):Int)<10:=by omega
   have N:=bl.o;obtain ⟨a1,a2,rfl,_,_⟩:=ay.o.own.slice;have aP:=ay.o.cell (by simp);have cM:=Z (aa.o.at cR.o (by omega));have z1:=E cM.o 0;have bD:=aQ cM.o 0;simp only [dW,dS] at z1;go_wp2;refine bodyPost_ret (v:=.agg #[.slice a1 J.length a2]) (by simp [results,results40,go_sem, *]) rfl ?_;have dB:=(c6.o.trans (aa.o.below (B:=g) (by have:=bx.o;omega) fun q m=>by omega)).setCell (p:=⟨g+1,0,none⟩) (by show g<=g+1;omega) (.slice a1 J.length a2);have ee:=ay.o.own.lt;refine⟨J,a1,a2,rfl,?_,⟨M.o,by rw [F.o.len];decide⟩,F.o,by rw [bA.o];exact dB⟩;refine((ay.o.own.keep (w':=wr.setCell ⟨g+1,0,none⟩ (.slice a1 J.length a2)) (fun q _ aj=>dZ _ _ _ _ (by have:=aj.2.2;show q≠g+1;omega)) (fun q m=>dZ _ _ _ _ (by have:=(ee q m).1;show q≠g+1;omega)) (cD eX.symm)).mono fun q _ aj=>⟨by rw [bA.o];have:=aj.2.2;omega,aj.1.2⟩).lower (by rw [bA.o];omega)
  case pos=>
   obtain ⟨f,bI⟩:∃f,eC[i]? = some f:=⟨_,cK (show i<eC.length from ec)⟩;have bb:=Z (aVs f (fP bI));have c8:=c9.o.keep (w':=wr) (fun q m aj=>aa.o.block q (by have:=bx.o;omega) (by have:=aj.2.1;have:=aj.1;have:=bl.o;omega)) aa.o.size;obtain ⟨eJ,fd,eH,eL,bz,bN,dq,cv,de,eo⟩:=c8.funAt bI;injection bz with bz
   injection bz with cl cm _
   subst cl cm;simp only [dT] at bN dq cv;have ba:cc≠nb:=by have:=d6.o;have:=bl.o;omega
   have aJ:=Z (show nb+1<wr.heap.size from by have:=aa.o.size;have:=bx.o;omega);have eO:=Z (show nb+2<=wr.heap.size from aJ.o);have ef:(i:Int)<10:=by omega
   have d7:=Z bI;have da:=Z (de.mono (S':=fun q=>q≠nb) fun q _ h=>h.1);clear c8 de bI eo
   go_upto_region 9 with fail
   go_cut [9] from 22 to 34 (fun eE wc=>∃p:Nat,eE = .pointer (some ⟨p,0,none⟩)/\aX8 (jP 96 g nb) g nb wr.heap.size a n c l (20 * i+2) f.res f.name wr p wc)
   case first=>
    refine bF (S:=fun W=>oN nb wr W) 14 (by kernel_rfl) (by kernel_rfl) (eG.of (aF wr)) (fun hdr=>?_);have z:=Z (show oN nb wr wr.drew from eG.of (aF wr));have O:=Z (C.o.all (aF wr));generalize wr.drew=wc at *;refine aE 0 ?_;refine aE 1 ?_;refine aE 2 ?_;refine aE 3 ?_;refine aE 4 (hy:=(Or.inl ⟨by rfl,by(intro W a8;have m:=eG.cell a8 bN ba;go_simp <;> with_reducible rfl)⟩)) ?_;refine aE 5 ?_;refine aE 6 ?_;refine aE 7 ?_;refine aE 8 ?_;refine aE 9 ?_;refine aE 10 (hy:=(Or.inl ⟨by rfl,by(intro W a8;have m:=eG.cell a8 cv ba;go_simp <;> with_reducible rfl)⟩)) ?_;refine gW (rs:=[11,13]) (by decide +kernel) (cQ (by rfl) (fun aa ae=>?_) (cQ (by rfl) (fun aa ae=>?_) gV))
    ·skip
     have ax:=Z (rG O.o (by omega) (by omega) f.res bb.o.1);go_simp
     go_at_call 97
     refine ax.o.mono ?_;rintro ce Y ⟨ev,Q,V,U,X,rfl,a0,av,am,P,aw⟩;obtain ⟨I,A,⟨H,K,D⟩,G⟩:=ev;have a9:=Z (And.intro a0 av);have aZ:=z.o.size
     first
      | (
        have ag:=Z (am.mono (S':=fun q=>wr.heap.size<=q/\q≠pt) fun q _ hd=>⟨aH aZ hd.2,by have:=aq.o;have:=hd.2;omega⟩);have d:=Z (P.at d.o (by have:=aq.o;have:=aJ.o;omega));have aq:=Z (show wr.heap.size<=pt/\pt<Y.heap.size from⟨aq.o.1,bG aq.o.2 P.size⟩))
      | have ag:=Z (am.mono (S':=fun q=>wr.heap.size<=q) fun q _ hd=>aH aZ hd.2)
     have O:=Z aw;have z:=Z (z.o.trans P);clear ax am P aw a0 av aZ;obtain ⟨wc,rfl⟩:∃W,W=Y:=⟨_,rfl⟩;(try dsimp only);refine ae.out _ _ (by(exact z.o)) (fun hHeld2=>?_);clear ae aa;(try simp only [Act.put,sA,sB,sC]);refine aE 12 ?_;refine aV 13 fun aa ae=>?_;go_simp;have ah:Below wc.heap.size wc (wc.alloc (.cells #[.string ⟨#[]⟩,.slice none 0 0,.int .i64 0,.bool false,.bool false,.slice none 0 0,.slice none 0 0,.int .i64 0] 67)):=bJ;have d:=Z (cC wc (.cells #[.string ⟨#[]⟩,.slice none 0 0,.int .i64 0,.bool false,.bool false,.slice none 0 0,.slice none 0 0,.int .i64 0] 67));(try have ag:=Z ((ag.o.mono (S':=fun q=>wr.heap.size<=q/\q≠wc.heap.size) fun q m h=>⟨h,by omega⟩).below ah aA));have O:=Z (O.o.all ah);have aq:=Z (show wr.heap.size<=wc.heap.size/\wc.heap.size<(wc.alloc (.cells #[.string ⟨#[]⟩,.slice none 0 0,.int .i64 0,.bool false,.bool false,.slice none 0 0,.slice none 0 0,.int .i64 0] 67)).heap.size from⟨z.o.size,by simp⟩);have z:=Z (z.o.trans (eG.of ah));generalize b3:wc.alloc (.cells #[.string ⟨#[]⟩,.slice none 0 0,.int .i64 0,.bool false,.bool false,.slice none 0 0,.slice none 0 0,.int .i64 0] 67)=Y at *;clear b3 ah;generalize wc.heap.size=pt at *;obtain ⟨wc,rfl⟩:∃W,W=Y:=⟨_,rfl⟩;(try dsimp only);refine ae.out _ _ (by(exact z.o)) (fun hHeld3=>?_);clear ae aa;(try simp only [Act.put,sA,sB,sC]);refine cF (by decide +kernel) ?_;simp only [dL,cW];have aP:=E d.o 0;have z1:=E d.o 1;have z2:=E d.o 2;have z3:=E d.o 3;have z4:=E d.o 4;have z5:=E d.o 5;have bg:=E d.o 6;have b7:=E d.o 7;have d4:=aQ d.o 0;have bD:=aQ d.o 1;have cf:=aQ d.o 2;have cg:=aQ d.o 3;have bE:=aQ d.o 4;have ch:=aQ d.o 5;have cj:=aQ d.o 6;have d5:=aQ d.o 7;simp only [dW,fF,dS] at aP z1 z2 z3 z4 z5 bg b7;go_wp2;go_meet
     case rel=>
      exact aO5 (ev:=⟨I,A,⟨H,K,D⟩,G⟩) d.o aq.o a9.o.1 a9.o.2 ag.o z.o O.o aJ.o f.name aA
    ·skip
     go_simp;have ah:Below wc.heap.size wc (wc.alloc (.cells #[.string ⟨#[]⟩,.slice none 0 0,.int .i64 0,.bool false,.bool false,.slice none 0 0,.slice none 0 0,.int .i64 0] 67)):=bJ;have d:=Z (cC wc (.cells #[.string ⟨#[]⟩,.slice none 0 0,.int .i64 0,.bool false,.bool false,.slice none 0 0,.slice none 0 0,.int .i64 0] 67));(try have ag:=Z ((ag.o.mono (S':=fun q=>wr.heap.size<=q/\q≠wc.heap.size) fun q m h=>⟨h,by omega⟩).below ah aA));have O:=Z (O.o.all ah);have aq:=Z (show wr.heap.size<=wc.heap.size/\wc.heap.size<(wc.alloc (.cells #[.string ⟨#[]⟩,.slice none 0 0,.int .i64 0,.bool false,.bool false,.slice none 0 0,.slice none 0 0,.int .i64 0] 67)).heap.size from⟨z.o.size,by simp⟩);have z:=Z (z.o.trans (eG.of ah));generalize b3:wc.alloc (.cells #[.string ⟨#[]⟩,.slice none 0 0,.int .i64 0,.bool false,.bool false,.slice none 0 0,.slice none 0 0,.int .i64 0] 67)=Y at *;clear b3 ah;generalize wc.heap.size=pt at *;obtain ⟨wc,rfl⟩:∃W,W=Y:=⟨_,rfl⟩;(try dsimp only);refine ae.out _ _ (by(exact z.o)) (fun hHeld2=>?_);clear ae aa;refine aV 11 fun aa ae=>?_;have ax:=Z (rG O.o (by omega) (by omega) f.res bb.o.1);go_simp
     go_at_call 97
     refine ax.o.mono ?_;rintro ce Y ⟨ev,Q,V,U,X,rfl,a0,av,am,P,aw⟩;obtain ⟨I,A,⟨H,K,D⟩,G⟩:=ev;have a9:=Z (And.intro a0 av);have aZ:=z.o.size
     first
      | (
        have ag:=Z (am.mono (S':=fun q=>wr.heap.size<=q/\q≠pt) fun q _ hd=>⟨aH aZ hd.2,by have:=aq.o;have:=hd.2;omega⟩);have d:=Z (P.at d.o (by have:=aq.o;have:=aJ.o;omega));have aq:=Z (show wr.heap.size<=pt/\pt<Y.heap.size from⟨aq.o.1,bG aq.o.2 P.size⟩))
      | have ag:=Z (am.mono (S':=fun q=>wr.heap.size<=q) fun q _ hd=>aH aZ hd.2)
     have O:=Z aw;have z:=Z (z.o.trans P);clear ax am P aw a0 av aZ;obtain ⟨wc,rfl⟩:∃W,W=Y:=⟨_,rfl⟩;(try dsimp only);refine ae.out _ _ (by(exact z.o)) (fun hHeld3=>?_);clear ae aa;(try simp only [Act.put,sA,sB,sC]);refine aE 12 ?_;refine cF (by decide +kernel) ?_;simp only [dL,cW];have aP:=E d.o 0;have z1:=E d.o 1;have z2:=E d.o 2;have z3:=E d.o 3;have z4:=E d.o 4;have z5:=E d.o 5;have bg:=E d.o 6;have b7:=E d.o 7;have d4:=aQ d.o 0;have bD:=aQ d.o 1;have cf:=aQ d.o 2;have cg:=aQ d.o 3;have bE:=aQ d.o 4;have ch:=aQ d.o 5;have cj:=aQ d.o 6;have d5:=aQ d.o 7;simp only [dW,fF,dS] at aP z1 z2 z3 z4 z5 bg b7;go_wp2;go_meet
     case rel=>
      exact aO5 (ev:=⟨I,A,⟨H,K,D⟩,G⟩) d.o aq.o a9.o.1 a9.o.2 ag.o z.o O.o aJ.o f.name aA
   case rest=>
    obtain ⟨pt,rfl,ev,a4,a6,a5,a7,bU,bL,a9,ag,z,O⟩:=hcut;obtain ⟨be,ey⟩:∃be,be=wr:=⟨_,rfl⟩;subst ey;have eR:=Z (show cc<pt from bG (uK be _ bN) bL.o);clear bN;go_wp2
    go_loopw [10,11,12] (fun cw _ _ bf=>∃(k:Nat) (v:Value) (af:List qH),k<=3/\cw = .int .i64 k/\Hid (sR gQ 80 67 be.heap.size nb pt 1 wc.heap.size (aLk f.name ev a4 a6 a5 a7) v af bf)/\Hid (K2 nb pt wc bf)/\Hid (WCl (jP 96 g nb) g nb (nb+1) a n c l (20 * i+2+6 * k) bf)/\Hid ((∀r∈af,Typed f.res r.val/\aDx r)/\af.length=k)) (fun cw _ _ _=>3 - (intOf cw).toNat)
    case atStart=>exact⟨0,_,[],by omega,rfl,bU.o,eG.refl _ _,O.o,⟨fun r h=>(by cases h),rfl⟩⟩
    case round=>
     obtain ⟨k,v,af,eW,rfl,aD,bi,bR,aT⟩:=hrel;have aU:=Z (show oN nb be wr from z.o.drop bi.o fun q m=>m.imp id fun e=>by subst e;exact bL.o);have dr:=aU.o.cell dq ba;by_cases dN:k<3/\0<f.args.length
     case pos=>
      have cZ:(k:Int)<3:=by omega
      have dA:(0:Int)<f.args.length:=by omega
      clear bU O;go_wp2;obtain ⟨ab,bd⟩:∃ab,ab=wr:=⟨_,rfl⟩;subst bd;have cd:Below ab.heap.size ab (ab.alloc (.cells #[.slice none 0 0,.int .i64 0,.bool false,.bool false,.slice none 0 0,.slice none 0 0,.int .i64 0] 80)):=bJ;have bd:=Z (show nb+1<ab.heap.size from bG aJ.o aU.o.size);have cE:=Z (sR.new (R:=iZ) (e:=64) (tb:=80) (lw:=ab.heap.size) (nb:=nb) (pt:=ab.heap.size) (B:=ab.heap.size+1) 0 #[.slice none 0 0,.int .i64 0,.bool false,.bool false,.slice none 0 0,.slice none 0 0,.int .i64 0] rfl (cC ab (.cells #[.slice none 0 0,.int .i64 0,.bool false,.bool false,.slice none 0 0,.slice none 0 0,.int .i64 0] 80)) (by have:=bd.o;omega) (by omega) (by simp) (by have:=bd.o;omega) (by omega));have c7:=Z (bR.o.all cd);have d0:=Z (show oN nb ab (ab.alloc (.cells #[.slice none 0 0,.int .i64 0,.bool false,.bool false,.slice none 0 0,.slice none 0 0,.int .i64 0] 80)) from eG.of cd);have e5:=Z (show(ab.alloc (.cells #[.slice none 0 0,.int .i64 0,.bool false,.bool false,.slice none 0 0,.slice none 0 0,.int .i64 0] 80)).heap.size=ab.heap.size+1 from by simp);clear cd;generalize e0:ab.alloc (.cells #[.slice none 0 0,.int .i64 0,.bool false,.bool false,.slice none 0 0,.slice none 0 0,.int .i64 0] 80)=eF at *;clear e0;generalize dk:ab.heap.size=L at *;have dl:=Z dk;clear dk;obtain ⟨e6,cp,dP,dQ,dR⟩:=info_parts aM0
      go_loopw [12] (fun cx bf=>∃(j:Nat) (b4:Value) (al:List bS),j<=f.args.length/\cx = .int .i64 j/\Hid (sR iZ 64 80 L nb L 0 (L+1) #[.slice none 0 0,.int .i64 0,.bool false,.bool false,.slice none 0 0,.slice none 0 0,.int .i64 0] b4 al bf)/\Hid (K2 nb L eF bf)/\Hid (WCl (jP 96 g nb) g nb (nb+1) a n c l (20 * i+2+6 * k+2 * j) bf)/\Hid ((∀x∈al,eB x)/\al.length=j)) (fun cx _=>f.args.length - (intOf cx).toNat)
      case atStart=>exact⟨0,_,[],aN,rfl,cE.o,eG.refl _ _,c7.o,⟨fun r h=>(by cases h),rfl⟩⟩
      case round=>
       obtain ⟨j,b4,al,eU,rfl,ad,bX,aS,bo⟩:=hrel;have bt:=Z (show oN nb ab wr from d0.o.drop bX.o fun q m=>m.imp id fun e=>by subst e;exact cD dl.o);clear cE c7;have ds:=bt.o.cell dr ba;by_cases ea:j<f.args.length
       case pos=>
         have eb:(j:Int)<f.args.length:=by omega
         obtain ⟨s,cr⟩:∃s,f.args[j]? = some s:=⟨_,cK ea⟩;have er:=Z (bb.o.2.2 s (fP cr));have bZ:=aU.o.trans bt.o;obtain ⟨cY,e9,cs,bz,dc,dm,dg⟩:=(da.o.keep (w':=wr) (fun q m aj=>bZ.block q m aj) bZ.size).at cr;subst bz;have e7:wr.cell? ⟨cY,e9+j,none⟩=some (.int .i64 s):=by
          have h:=dg 0 _ (by rw [dm.1];rfl);have e:cH.int.k=1:=rfl;rw [e,jN,cU] at h;exact h
         have dD:cY≠nb:=dc;have d3:=ad.o.cell (by simp);have ek:L≠nb:=by have:=bd.o;omega
         have ct:=Z bo.o.2;have eQ:=bb.o.2.1;have O:=aS;have eZ:=bd.o;have fa:=e5.o;clear bZ dg dm dc aS cr
         go_upto_region 17 with fail
         refine bF (S:=fun W=>oN nb wr W) 13 (by kernel_rfl) (by kernel_rfl) (eG.of (aF wr)) (fun hdr=>?_);have z:=Z (show oN nb wr wr.drew from eG.of (aF wr));have O:=Z (O.o.all (aF wr));have ad:=Z (ad.o.step z.o);generalize wr.drew=wc at *;refine aE 0 ?_;refine aE 1 (hy:=(Or.inl ⟨by rfl,by(intro W a8;have m:=eG.cell a8 d3 ek;go_simp <;> with_reducible rfl)⟩)) ?_;refine aE 2 ?_;refine aE 3 ?_;refine aE 4 ?_;refine aE 5 ?_;refine aE 6 ?_;refine aE 7 (hy:=(Or.inl ⟨by rfl,by(intro W a8;have m:=eG.cell a8 ds ba;go_simp <;> with_reducible rfl)⟩)) ?_;refine aE 8 ?_;refine aE 9 ?_;refine aE 10 (hy:=(Or.inl ⟨by rfl,by(intro W a8;have m:=eG.cell a8 e7 dD;go_simp <;> with_reducible rfl)⟩)) ?_;refine aV 11 fun aa ae=>?_;have ax:=Z (rG O.o (by omega) (by omega) s er.o);go_simp
         go_at_call 97
         refine ax.o.mono ?_;rintro ce Y ⟨c0,Q,V,U,X,rfl,a0,av,am,P,aw⟩;obtain ⟨I,A,⟨H,K,D⟩,G⟩:=c0;have e1:=Z av;have ag:=Z (am.mono (S':=aEw L nb L b4) fun q _ hd=>ad.o.fresh q hd.2);have ad:=Z (ad.o.step P);have O:=Z aw;have z:=Z (z.o.trans P);clear ax am P aw a0 av;obtain ⟨wc,rfl⟩:∃W,W=Y:=⟨_,rfl⟩;(try dsimp only);refine ae.out _ _ (by(exact z.o)) (fun hHeld2=>?_);clear ae aa;refine aV 12 fun aa ae=>?_;go_simp;have ah:Below wc.heap.size wc (wc.alloc (.cells #[.int .i64 I,.bool A,.bool H,.slice Q K.length V,.slice U D.length X,.int .i64 G] 64)):=bJ;have d2:=Z (cC wc (.cells #[.int .i64 I,.bool A,.bool H,.slice Q K.length V,.slice U D.length X,.int .i64 G] 64));have ag:=Z (ag.o.below ah aA);have O:=Z (O.o.all ah);have ad:=Z (ad.o.step (eG.of ah));have z:=Z (z.o.trans (eG.of ah));generalize b3:wc.alloc (.cells #[.int .i64 I,.bool A,.bool H,.slice Q K.length V,.slice U D.length X,.int .i64 G] 64)=Y at *;clear b3 ah;generalize wc.heap.size=eA at *;obtain ⟨wc,rfl⟩:∃W,W=Y:=⟨_,rfl⟩;(try dsimp only);refine ae.out _ _ (by(exact z.o)) (fun hHeld3=>?_);clear ae aa;(try simp only [Act.put,sA,sB,sC]);refine cF (by decide +kernel) ?_;simp only [dL,cW];obtain ⟨css,a3,aL,aK⟩:=ad.o.own;have cu:iZ.rd (aEw L nb L b4) wc ⟨I,A,⟨H,K,D⟩,G⟩ (aA2 ⟨I,A,⟨H,K,D⟩,G⟩ Q V U X):=qZ.2 ⟨_,_,_,_,rfl,ag.o⟩
         go_wp2_with (at_builtin;refine cI rfl (.tmp 59) (.tmp 70) rfl underlying78 cp dP dQ dR rfl (by decide) rfl rfl a3 (Src.one (b:=eA) (news:=aA2 ⟨I,A,⟨H,K,D⟩,G⟩ Q V U X) rfl (fun j u aC=>(E d2.o j).trans (by simpa [aA2] using aC))) (iZ.one cu) (by rw [ct.o];unfold maxLen;omega) (by rw [ct.o];omega) ad.o.lo.2.1 ?_)
         intro v' w4 ap ao ak;obtain ⟨ar,au,rfl,_,_⟩:=ap.slice;have bc:=(ao.block L (bH ad.o.blk).1 fun e=>by have:=(a3.lt L e.symm).1;omega).trans ad.o.blk;obtain ⟨az,br,bP,bO⟩:=ad.o.push (bX.o.trans (z.o.mono fun q h=>.inl h)) (by omega) a3 aL aK cu ap ao ak;have dE:w4.cell? ⟨L,0,none⟩=some b4:=(E bc 0).trans (by simp);have dG:w4.frozen? ⟨L,0,none⟩=false:=aQ bc 0;have az:=Z az;have br:=Z br;have b8:=Z (O.o.high bP fun q m=>bO q (by omega) (by omega));have et:=Z (show ∀y∈al ++ [(⟨I,A,⟨H,K,D⟩,G⟩:bS)],eB y from fun y hy=>by
          rcases fT.1 hy with hy | hy
          ·exact bo.o.1 y hy
          ·rw [eP.1 hy];exact e1.o)
         clear a3 aL aK cu ap ao ak bc bP bO;go_wp2
         go_roundw
         case rel=>exact⟨j+1,_,_,by omega,by go_num,az.o,br.o,b8.o.mono (by omega),et.o,by rw [dM,ct.o];rfl⟩
         case measure=>first | (simp [intOf];done) | (simp [intOf];omega)
       case neg=>
         obtain rfl:j=f.args.length:=by omega
         have eb:¬(f.args.length:Int)<f.args.length:=by omega
         have e8:=(aU.o.trans bt.o).cell cv ba;obtain ⟨aX,aY,dO,dJ,dK⟩:=ad.o.own.slice;subst dO;have ax:=Z (rG aS.o (by have:=bb.o.2.1;omega) (by omega) f.res bb.o.1)
         go_wp2_with fail
         refine ax.o.mono ?_;rintro ce Y ⟨c0,Q,V,U,X,rfl,a0,av,am,P,aw⟩;obtain ⟨I,A,⟨H,K,D⟩,G⟩:=c0;have cn:=Z (And.intro a0 av);have bq:=Z (ad.o.step P);have em:=dl.o;have ej:=bd.o;have ez:=ad.o.lo;have eu:=P.size;have bB:=Z (show Y.heap[L]? = some (.cells #[.slice aX al.length aY,.int .i64 0,.bool false,.bool false,.slice none 0 0,.slice none 0 0,.int .i64 0] 80 (0,0)) from by have h:=bq.o.blk;simpa using h);have di:=Z (show ∃W5,W5=((((((Y.setCell ⟨L,1,none⟩ (.int .i64 I)).setCell ⟨L,2,none⟩ (.bool A)).setCell ⟨L,3,none⟩ (.bool H)).setCell ⟨L,4,none⟩ (.slice Q K.length V)).setCell ⟨L,5,none⟩ (.slice U D.length X)).setCell ⟨L,6,none⟩ (.int .i64 G))/\W5.heap[L]? = some (.cells #[.slice aX al.length aY,.int .i64 I,.bool A,.bool H,.slice Q K.length V,.slice U D.length X,.int .i64 G] 80 (0,0))/\oN nb ab W5/\WCl (jP 96 g nb) g nb (nb+1) a n c l (20 * i+2+6 * k+2 * f.args.length+2) W5/\gQ.rd (aEw be.heap.size nb pt v) W5 ⟨al,⟨I,A,⟨H,K,D⟩,G⟩⟩ (aP2 ⟨al,⟨I,A,⟨H,K,D⟩,G⟩⟩ aX aY Q V U X) from by
          have dn:(setL L [(1,.int .i64 I),(2,.bool A),(3,.bool H),(4,.slice Q K.length V),(5,.slice U D.length X),(6,.int .i64 G)] Y).heap.size=Y.heap.size:=wE _ _;have co:=aD.o.fresh;refine⟨_,rfl,aVt bB.o,(bt.o.trans P).setL (.inl (by omega)) (by decide) (by decide) bB.o [(1,.int .i64 I),(2,.bool A),(3,.bool H),(4,.slice Q K.length V),(5,.slice U D.length X),(6,.int .i64 G)],aw.high (cD dn.symm) fun q m=>eK (by omega) [(1,.int .i64 I),(2,.bool A),(3,.bool H),(4,.slice Q K.length V),(5,.slice U D.length X),(6,.int .i64 G)] _,?_⟩;refine gQ.keep (w':=setL L [(1,.int .i64 I),(2,.bool A),(3,.bool H),(4,.slice Q K.length V),(5,.slice U D.length X),(6,.int .i64 G)] Y) (w:=Y) (wD.2 ⟨aX,aY,Q,V,U,X,rfl,⟨(bq.o.own.read (S':=fun q=>aEw be.heap.size nb pt v q/\q≠L) (fun q _ m=>⟨co q (by have:=m.2.2;omega),m.1.1⟩) fun q m=>⟨co q (by have:=(bq.o.own.lt q m).1;omega),by have:=(bq.o.own.lt q m).1;omega⟩),⟨dJ,dK⟩,am.mono fun q _ hd=>⟨co q (by have:=hd.2;omega),by have:=hd.2;omega⟩⟩⟩) (fun q _ m=>eK m.2 [(1,.int .i64 I),(2,.bool A),(3,.bool H),(4,.slice Q K.length V),(5,.slice U D.length X),(6,.int .i64 G)] _) (cD dn.symm) |> fun h=>gQ.mono h fun q _ m=>m.1)
         have aR:=bB.o;obtain ⟨aP,z1,z2,z3,z4,z5,bg⟩:=pT aR;have bD:=aQ aR 1;have cf:=aQ aR 2;have cg:=aQ aR 3;have bE:=aQ aR 4;have ch:=aQ aR 5;have cj:=aQ aR 6;have bM:=Z (And.intro bo.o.1 (And.intro bo.o.2 bb.o.2.1));clear am P aw a0 av ax em ej ez eu aR bq ad bX bt aS bo bB dr e8 ds
         go_upto_region 19 with fail
         obtain ⟨W5,dd,cL,bY,b8,bw⟩:=di.o;rw [<-dd];clear dd di aP z1 z2 z3 z4 z5 bg bD cf cg bE ch cj;have az:=Z (aD.o.step bY);have eN:=az.o.cell (by simp [aLk]);obtain ⟨y0,y1,y2,y3,y4,y5,fe⟩:=pT cL;have an:Below W5.heap.size W5 (W5.alloc (.cells #[.slice aX al.length aY,.int .i64 I,.bool A,.bool H,.slice Q K.length V,.slice U D.length X,.int .i64 G] 80)):=bJ;have ai:=Z (az.o.step (eG.of an));have bj:=Z (gQ.keep bw (fun q m _=>an.block q m) an.size);have bs:=Z (show K2 nb pt wc (W5.alloc (.cells #[.slice aX al.length aY,.int .i64 I,.bool A,.bool H,.slice Q K.length V,.slice U D.length X,.int .i64 G] 80)) from(bi.o.trans (bY.mono fun q h=>.inl h)).trans (eG.of an));have bn:=Z (b8.all an);have cq:=Z (show nb+1<pt/\wc.heap.size<=W5.heap.size from⟨by have:=bL.o;have:=aJ.o;omega,az.o.lo.2.1⟩);have ep:=Z (show ∀r∈af ++ [(⟨al,⟨I,A,⟨H,K,D⟩,G⟩⟩:qH)],Typed f.res r.val/\aDx r from fun r aB=>by
          rcases fT.1 aB with aB | aB
          ·exact aT.o.1 r aB
          ·rw [eP.1 aB];exact⟨cn.o.1,bM.o.1,cn.o.2,by have cl:=bM.o.2.1;have cm:=bM.o.2.2;show al.length<=_;omega⟩)
         have b1:=Z aT.o.2;obtain ⟨css,a3,aL,aK⟩:=ai.o.own;obtain ⟨fb,dU,dV,dX,dY⟩:=info_parts aJ7;have aI:=Z a3;have bv:=Z aL;have bu:=Z aK;clear a3 aL aK az cL bY b8 bw bi aD an aT cn
         go_wp2_with (at_builtin;refine cI rfl (.tmp 82) (.tmp 84) rfl underlying65 dU dV dX dY rfl (by decide) rfl rfl aI.o (Src.one (b:=W5.heap.size) (news:=aP2 ⟨al,⟨I,A,⟨H,K,D⟩,G⟩⟩ aX aY Q V U X) rfl ?c1) ?c2 ?c3 ?c4 ?c5 ?_)
         (try case c1=>intro j u aC;first | exact aC | (rw [kO];first | exact aC | simpa [aP2,aA2] using aC));(try case c2=>exact gQ.one bj.o);(try case c3=>rw [b1.o];unfold maxLen;omega);(try case c4=>rw [b1.o];omega);(try case c5=>have:=cq.o.2;simp;omega);intro v' w4 ap ao ak;obtain ⟨ar,au,rfl,_,_⟩:=ap.slice;have bc:=(ao.block pt (bH ai.o.blk).1 fun e=>by have:=(aI.o.lt pt e.symm).1;have:=ai.o.lo;omega).trans ai.o.blk;obtain ⟨bh,bW,bm,dt⟩:=ai.o.push bs.o aA aI.o bv.o bu.o bj.o ap ao (ak.imp id fun h k e=>by rw [iD];exact h k e);have dE:w4.cell? ⟨pt,1,none⟩=some v:=(E bc 1).trans (by simp [aLk]);have dG:w4.frozen? ⟨pt,1,none⟩=false:=aQ bc 1;have bh:=Z bh;have bW:=Z bW;have b9:=Z (bn.o.high bm fun q m=>dt q (by have:=cq.o.1;have:=ai.o.lo;omega) (by have:=cq.o.1;omega));clear ap ao ak bc bm dt ai bs bn aI bv bu bj;go_wp2
         go_roundw
         case rel=>exact⟨k+1,_,_,by omega,by go_num,bh.o,bW.o,b9.o.mono (by have:=bM.o.2.2;omega),ep.o,by rw [dM,b1.o];rfl⟩
         case measure=>first | (simp [intOf];done) | (simp [intOf];omega)
     case neg=>
      have dF:(¬(k:Int)<3)\/((k:Int)<3/\¬(0:Int)<f.args.length):=by omega
      have bV:=Z (ay.o.step aU.o);have d9:=bx.o;have d8:=bl.o;have b1:=aT.o.2;obtain ⟨aM,aO,ew,_,en⟩:=aD.o.own.slice;subst ew;obtain ⟨a1,a2,eg,_,_⟩:=ay.o.own.slice;subst eg;have bw:=Z (show vB.rd (aEw (nb+2) nb (g+2) (.slice a1 J.length a2)) wr ⟨f.name,af,ev⟩ (tbC ⟨f.name,af,ev⟩ aM aO a4 a6 a5 a7) from
       aJ6.2 ⟨aM,aO,a4,a6,a5,a7,rfl,aD.o.own.read (fun q _ m=>ay.o.fresh q m.2.2) (fun q m=>ay.o.fresh q (by have:=(aD.o.own.lt q m).1;have:=z.o.size;omega)),⟨by assumption,en⟩,(ag.o.keep (w':=wr) (fun q m aj=>bi.o.block q m fun e=>e.elim (fun e=>by have:=aJ.o;have:=aj.1;omega) aj.2) bi.o.size).mono fun q _ aj=>ay.o.fresh q aj.1⟩)
      have d:=Z (show wr.heap[pt]? = some (.cells #[.string f.name,.slice aM af.length aO,.int .i64 ev.sort,.bool ev.bool,.bool ev.num.neg,.slice a4 ev.num.num.length a6,.slice a5 ev.num.den.length a7,.int .i64 ev.el] 67 (0,0)) from by have h:=aD.o.blk;simpa [aLk] using h);have eM:=bV.o.cell (by simp);have aP:=E d.o 0;have z1:=E d.o 1;have z2:=E d.o 2;have z3:=E d.o 3;have z4:=E d.o 4;have z5:=E d.o 5;have bg:=E d.o 6;have b7:=E d.o 7;simp only [dW,fF,dS] at aP z1 z2 z3 z4 z5 bg b7;have dI:=Z (show qK (J ++ [⟨f.name,af,ev⟩]) (eC.take (i+1)) from by
       have e:eC.take (i+1)=eC.take i ++ [f]:=by
         rw [List.take_add_one,d7.o];rfl
       rw [e];exact F.o.snoc rfl ⟨a9.o.1,fun r aB=>(aT.o.1 r aB).1⟩)
      have es:=Z (show ∀t∈J ++ [(⟨f.name,af,ev⟩:TbD)],vC t from fun t b2=>by
       rcases fT.1 b2 with b2 | b2
       · exact M.o t b2
       · rw [eP.1 b2]
         exact⟨fun r aB=>(aT.o.1 r aB).2,a9.o.2,by show af.length<=_;omega⟩)
      have dp:=Z (show J.length<=10 from by have:=F.o.len;rw [this,eS];omega);have cG:=Z (show K2 nb (g+2) cz wr from aa.o.trans (aU.o.mono fun q h=>.inl h));have aS:=Z (bR.o.mono (k':=20 * (i+1)) (by omega));have an:Below wr.heap.size wr (wr.alloc (.cells #[.string f.name,.slice aM af.length aO,.int .i64 ev.sort,.bool ev.bool,.bool ev.num.neg,.slice a4 ev.num.num.length a6,.slice a5 ev.num.den.length a7,.int .i64 ev.el] 67)):=bJ;have ai:=Z (bV.o.step (eG.of an));have bj:=Z (vB.keep bw.o (fun q m _=>an.block q m) an.size);have bs:=Z (cG.o.trans (eG.of an));have bn:=Z (aS.o.all an);obtain ⟨css,a3,aL,aK⟩:=ai.o.own;have aI:=Z a3;have bv:=Z aL;have bu:=Z aK;have db:=Z (show nb+2<=(wr.alloc (.cells #[.string f.name,.slice aM af.length aO,.int .i64 ev.sort,.bool ev.bool,.bool ev.num.neg,.slice a4 ev.num.num.length a6,.slice a5 ev.num.den.length a7,.int .i64 ev.el] 67)).heap.size from ai.o.lo.2.1);have dH:=Z (fun(w4:World) (ar:Option Addr) (au:Nat) (ap:aW w4 (nb+2) 67 vB.k (.slice ar (J.length+1) au) (J.length+1) (css.flatten++tbC ⟨f.name,af,ev⟩ aM aO a4 a6 a5 a7)) (ao:(wr.alloc (.cells #[.string f.name,.slice aM af.length aO,.int .i64 ev.sort,.bool ev.bool,.bool ev.num.neg,.slice a4 ev.num.num.length a6,.slice a5 ev.num.den.length a7,.int .i64 ev.el] 67)).grownBy w4 (Value.slice a1 J.length a2).ownBlock)
         (ak:(Value.slice ar (J.length+1) au).ownBlock=(Value.slice a1 J.length a2).ownBlock\/∀k,(Value.slice ar (J.length+1) au).ownBlock=some k->wr.heap.size+1<=k)=>
       (show(sR vB 67 71 (nb+2) nb (g+2) 0 (nb+2) #[.slice none 0 0] (.slice ar (J.length+1) au) (J ++ [⟨f.name,af,ev⟩]) (w4.setCell ⟨g+2,0,none⟩ (.slice ar (J.length+1) au))/\K2 nb (g+2) cz (w4.setCell ⟨g+2,0,none⟩ (.slice ar (J.length+1) au))/\WCl (jP 96 g nb) g nb (nb+1) a n c l (20 * (i+1)) (w4.setCell ⟨g+2,0,none⟩ (.slice ar (J.length+1) au)))/\(w4.cell? ⟨g+2,0,none⟩=some (.slice a1 J.length a2)/\w4.frozen? ⟨g+2,0,none⟩=false) from by
         obtain ⟨az,br,bP,bO⟩:=ai.o.push bs.o (by have:=bx.o;omega) aI.o bv.o bu.o bj.o ap ao (ak.imp id fun h k e=>by rw [iD];exact h k e);have bl:=bl.o;have dj:w4.heap[g+2]? = some (.cells (#[Value.slice none 0 0].setIfInBounds 0 (.slice a1 J.length a2)) 71 (0,0)):=(ao.block _ (bH ai.o.blk).1 fun e=>by have:=(aI.o.lt _ e.symm).1;omega).trans ai.o.blk;exact⟨⟨az,br,bn.o.highX (pm:=g+2) ⟨by omega,by omega⟩ bP fun q m ei=>bO q (by omega) ei⟩,by rw [E dj];simp,aQ dj 0⟩))
      obtain ⟨e6,cp,e2,e3,e4⟩:=info_parts aW8;clear bU O dN a3 aL aK aD bi ag aT a9 ay F M aa d9 d8 b1 d bR ba aU z bL da bV bw cG aS bs bn bu bv ai an;rcases dF with cZ | ⟨cZ,dA⟩
      all_goals
       go_wp2_with (at_builtin;refine cI rfl (.tmp 88) (.tmp 90) rfl underlying69 cp e2 e3 e4 rfl (by decide) rfl rfl aI.o (Src.one (b:=wr.heap.size) (news:=tbC ⟨f.name,af,ev⟩ aM aO a4 a6 a5 a7) rfl ?c1) ?c2 ?c3 ?c4 ?c5 ?_)
       (try case c1=>intro j u aC;first | exact aC | (rw [kO];first | exact aC | simpa [tbC,aA2] using aC));(try case c2=>exact vB.one bj.o);(try case c3=>have:=dp.o;unfold maxLen;omega);(try case c4=>have:=dp.o;omega);(try case c5=>first | exact db.o | (have:=db.o;simp at this ⊢;omega))
      all_goals
       intro v' w4 ap ao ak;obtain ⟨ar,au,rfl,_,_⟩:=ap.slice;obtain ⟨bp,c4,bE⟩:=dH.o w4 ar au ap ao ak;have bp:=Z bp;clear ap ao ak;go_wp2
       go_roundw
       case rel=>exact⟨i+1,_,_,by omega,by go_num,bp.o.1,bp.o.2.1,bp.o.2.2,dI.o,es.o⟩
       case measure=>first | (simp [intOf];done) | (simp [intOf];omega)
def aBi (r:bS × Int):Bool:=decide (r.2=0) && (decide (r.1.sort=0) && r.1.bool)
theorem aAl {m:gL} {T:aC} (f:mD T) {x:Int} (i:dH T x=true) {v:bS} (h:ev m T x=some v) (g:v.sort=0):aBi (mG m T x)=v.bool:=by
 rcases aBr (m:=m) f i with ⟨u,c,d⟩ | ⟨c,_⟩
 ·rw [h] at c;injection c with c
  subst c;rw [d];unfold aBi;rw [g];simp
 ·rw [h] at c;cases c
theorem aLm {S:Nat->Prop} (B p:Nat) (T:aC) (c:gL) (f:Option Addr) (g:Nat) (i:Int) (w:World) (J:dG B p T w) (I:dR T) (H:ArT T) (h:yB S w c f g) (N:mO c) (M:eI i) :
  Calls prog 42 #[.pointer (some ⟨p,0,none⟩),.agg #[.slice f c.length g],.int .i64 i] w fun e w'=>e = .returned (.bool (aBi (mG c T i)))/\Below w.heap.size w w':=by
 have j:Below w.heap.size w (w.alloc (.cells #[.slice f c.length g] 71)):=bJ;have F:=cC w (.cells #[.slice f c.length g] 71);have L:=Z (aBd B p T c f g i _ (J.all j) I H ⟨h.tbs.below j aA,h.cap⟩ N M);have P:=Z j;have G:=E F 0;simp only [dW,dS] at G;clear J I H h N M j F;generalize mG c T i=R at *;obtain ⟨⟨s,b,⟨m,n,k⟩,l⟩,er⟩:=R;have d:=@Z (aBi (⟨s,b,⟨m,n,k⟩,l⟩,er)=(decide (er=0) && (decide (s=0) && b))) rfl;go_enter func42,ntmps42
 go_wp2_with fail
 refine L.o.mono ?_;rintro e O ⟨r,c1,t,y,rfl,Q,K⟩;have C:=Z (aG P K);have q:=Z (C.o.alloc C.o.size (.cells #[.int .i64 s,.bool b,.bool m,.slice r n.length c1,.slice t k.length y,.int .i64 l] 64));have D:=cC O (.cells #[.int .i64 s,.bool b,.bool m,.slice r n.length c1,.slice t k.length y,.int .i64 l] 64);obtain ⟨X,z1⟩:=kE D;clear Q K D L G
 go_upto_region 2 with fail
 generalize O.alloc (.cells #[.int .i64 s,.bool b,.bool m,.slice r n.length c1,.slice t k.length y,.int .i64 l] 64)=W at *;by_cases z:er=0
 case neg=>
  have U:(er == 0)=false:=by simpa using z
  have hd:decide (er=0)=false:=aR z;rw [hd] at d;go_wp2;go_ret;exact⟨by rw [d.o];rfl,q.o⟩
 case pos=>
  subst z;by_cases A:s=0
  case neg=>
   have V:(s == 0)=false:=by simpa using A
   have hd:decide (s=0)=false:=aR A;rw [hd] at d;go_wp2;go_ret;exact⟨by rw [d.o];rfl,q.o⟩
  case pos=>
   subst A;go_wp2;go_ret;exact⟨by rw [d.o];simp,q.o⟩
def eL {α:Type} (op:Int):List α->List (α × α)
 | []=>[]
 | a :: l=>((if op=9 then l else l.take 1).map fun b=>(a,b))++eL op l
def xG (op:Int) (a b:bS):Bool:=if op=8 then jJ a b else if op=9 then !jJ a b else nL op (uS a.num b.num)
theorem aEx {α c:Type} (op:Int) (f:α->c):∀l:List α,eL op (l.map f)=(eL op l).map fun p=>(f p.1,f p.2)
 | []=>rfl
 |
  a :: l=>by
  show((if op=9 then l.map f else(l.map f).take 1).map fun b=>(f a,b))++eL op (l.map f)=(((if op=9 then l else l.take 1).map fun b=>(a,b))++eL op l).map fun p=>(f p.1,f p.2)
  rw [aEx op f l,mL]
  congr 1
  split
  ·rw [vR,vR];rfl
  ·rw [<-List.map_take,vR,vR];rfl
theorem aGg {α:Type} (op:Int):∀(l:List α) (p:α × α),p∈eL op l->p.1∈l/\p.2∈l
 | [],p,h=>by cases h
 |
  a :: l,p,h=>by
  rcases fT.1 h with h | h
  ·obtain ⟨b,c,rfl⟩:=qA.1 h;refine⟨by simp,uL _ ?_⟩
   split at c
   ·exact c
   ·exact sY c
  ·obtain ⟨d,f⟩:=aGg op l p h;exact⟨uL _ d,uL _ f⟩
theorem aBj {α:Type} {op:Int} (h:op≠9):∀l:List α,(eL op l).length=l.length - 1
 | []=>rfl
 | [a]=>by unfold eL;rw [if_neg h];rfl
 |
  a :: b :: l=>by
  have:=aBj h (b :: l);unfold eL;rw [dM,this,if_neg h];simp;omega
theorem wO {α:Type}:∀l:List α,2 * (eL 9 l).length=l.length * (l.length - 1)
 | []=>rfl
 |
  a :: l=>by
  have:=wO l;unfold eL;rw [dM,if_pos rfl,lB,fQ,cN,this];cases l with
  | nil=>rfl
  |
   cons b l=>
   simp only [fQ,rH];rw [dK 2,<-cN,dK,oB 2]
theorem aLn {x y z:bS} (f:jJ x y=true) (g:jJ y z=true):jJ x z=true:=by
 unfold jJ at f g ⊢;simp only [jS,lA] at f g ⊢;obtain ⟨i,c⟩:=f;obtain ⟨j,b2⟩:=g;refine⟨i.trans j,?_⟩;rw [<-i] at b2
 split at c
 ·rename_i h;rw [if_pos h] at b2 ⊢;rw [beq_iff_eq] at *;exact c.trans b2
 ·rename_i h
  rw [if_neg h] at b2 ⊢
  split at c
  ·rename_i d;rw [if_pos d] at b2 ⊢;rw [aMq] at *;exact c.trans b2
  ·rename_i d;rw [if_neg d] at b2 ⊢;rw [lA] at *;exact c.trans b2
theorem aB0:∀l:List bS,iQ true l=(eL 8 l).all fun p=>xG 8 p.1 p.2
 | []=>rfl
 | [a]=>rfl
 |
  a :: b :: l=>by
  have g:=aB0 (b :: l);have e:eL 8 (a :: b :: l)=(a,b) :: eL 8 (b :: l):=rfl;rw [e,List.all_cons,<-g];show(((a :: b :: l).drop 1).all (fun y=>jJ a y == true) && iQ true (b :: l))=(jJ a b && iQ true (b :: l));cases c:iQ true (b :: l) with
  | false=>rw [zE,zE]
  |
   true=>
   rw [Bool.and_true,Bool.and_true];have d:∀y∈l,jJ b y=true:=by
    have:(sK true b l && iQ true l)=true:=c;rw [jS] at this;unfold sK at this;rw [oV] at this;intro y hy
    simpa using this.1 y hy
   show((jJ a b == true) && l.all fun y=>jJ a y == true)=jJ a b;cases f:jJ a b with
   | false=>rfl
   |
    true=>
    rw [beq_self_eq_true,eT,oV];intro y hy;rw [aLn f (d y hy)];rfl
theorem aAm:∀l:List bS,iQ false l=(eL 9 l).all fun p=>xG 9 p.1 p.2
 | []=>rfl
 |
  a :: l=>by
  show(sK false a l && iQ false l)=_;unfold eL;rw [aCu,<-aAm l,if_pos rfl]
  congr 1
  unfold sK;rw [List.all_map]
  congr 1
  funext y
  show(jJ a y == false) = !jJ a y;cases jJ a y <;> rfl
theorem oP {op:Int} (d:op≠8) (c:op≠9):∀l:List bS,mN op l=(eL op l).all fun p=>xG op p.1 p.2
 | []=>rfl
 | [a]=>by unfold eL mN;rw [if_neg c];rfl
 |
  a :: b :: l=>by
  have f:=oP d c (b :: l);have e:eL op (a :: b :: l)=(a,b) :: eL op (b :: l):=by
   conv=>lhs;unfold eL
   rw [if_neg c];rfl
  rw [e,List.all_cons,<-f];unfold xG;rw [if_neg d,if_neg c];rfl
theorem aB1 {m:gL} {x:aZ} {l:List bS} (h:dD x.op):bN m x l=(fW ((eL x.op l).all fun p=>xG x.op p.1 p.2),0):=by
 unfold bN;unfold dD at h;rcases h with h | h | h | h | h | h <;> rw [h]
 ·rw [<-aB0];rfl
 ·rw [<-oP (by decide) (by decide)];rfl
 ·rw [<-oP (by decide) (by decide)];rfl
 ·rw [<-oP (by decide) (by decide)];rfl
 ·rw [<-oP (by decide) (by decide)];rfl
 ·rw [<-aAm];rfl
structure aB2 (T:aC) (op a b:Int):Prop where
 ha:dH T a=true
 hb:dH T b=true
 so:(nodeAt T a).sort=(nodeAt T b).sort
 nu:op≠8->op≠9->(nodeAt T a).sort=1
structure aN2 (T:aC) (op a b x:Int):Prop where
 has:dH T x=true
 so:(nodeAt T x).sort=0
 op:(nodeAt T x).op=op
 args:(nodeAt T x).args = [a,b]
def qO (T:aC) (op a b x:Int):Prop:=
 if op=9 then ∃e,aN2 T 8 a b e/\dH T x=true/\(nodeAt T x).sort=0/\(nodeAt T x).op=3/\(nodeAt T x).args = [e] else aN2 T op a b x
def iH (T:aC) (op:Int):List (Int × Int)->List Int->Prop
 | [],[]=>True
 | p :: l,x :: ks=>qO T op p.1 p.2 x/\iH T op l ks
 | _,_=>False
structure aAn (T:aC):Prop where
 ti:pR T
 si:wU T
 dc:DcI T
section
variable {T T' : aC} {op a b x : Int}
theorem aN2.ext (h:aN2 T op a b x) (e:xE T T'):aN2 T' op a b x:=⟨e.has h.has,by rw [e.node h.has];exact h.so,by rw [e.node h.has];exact h.op,by rw [e.node h.has];exact h.args⟩
theorem qO.ext (h:qO T op a b x) (e:xE T T'):qO T' op a b x:=by
 unfold qO at *
 split
 ·rename_i d
  rw [if_pos d] at h;obtain ⟨y,f,c,g,i,j⟩:=h;exact⟨y,f.ext e,e.has c,by rw [e.node c];exact g,by rw [e.node c];exact i,by rw [e.node c];exact j⟩
 ·rename_i d
  rw [if_neg d] at h;exact h.ext e
theorem qO.has (h:qO T op a b x):dH T x=true/\(nodeAt T x).sort=0:=by
 unfold qO at h
 split at h
 ·obtain ⟨_,_,c,d,_⟩:=h;exact⟨c,d⟩
 ·exact⟨h.has,h.so⟩
theorem iH.ext (e:xE T T'):∀ {l:List (Int × Int)} {ks:List Int},iH T op l ks->iH T' op l ks
 | [],[],_=>trivial
 | _ :: _,_ :: _,h=>⟨h.1.ext e,iH.ext e h.2⟩
 | [],_ :: _,h=>h.elim
 | _ :: _,[],h=>h.elim
theorem iH.append:∀ {l:List (Int × Int)} {ks:List Int} {d:List (Int × Int)} {c:List Int},iH T op l ks->iH T op d c->iH T op (l++d) (ks++c)
 | [],[],_,_,_,h=>h
 | _ :: _,_ :: _,_,_,h,h'=>⟨h.1,iH.append h.2 h'⟩
 | [],_ :: _,_,_,h,_=>h.elim
 | _ :: _,[],_,_,h,_=>h.elim
theorem iH.len:∀ {l:List (Int × Int)} {ks:List Int},iH T op l ks->ks.length=l.length
 | [],[],_=>rfl
 | _ :: _,_ :: _,h=>by rw [fQ,fQ,iH.len h.2]
 | [],_ :: _,h=>h.elim
 | _ :: _,[],h=>h.elim
theorem iH.at:∀ {l:List (Int × Int)} {ks:List Int},iH T op l ks->∀k,k<ks.length->∃p,l[k]? = some p/\qO T op p.1 p.2 (nth ks k)
 | [],[],_,k,hk=>by cases hk
 | p :: l,x :: ks,h,0,_=>⟨p,rfl,h.1⟩
 | p :: l,x :: ks,h,k+1,hk=>iH.at h.2 k (by simpa using hk)
 | [],_ :: _,h,_,_=>h.elim
 | _ :: _,[],h,_,_=>h.elim
theorem aB2.ext (h:aB2 T op a b) (e:xE T T'):aB2 T' op a b:=⟨e.has h.ha,e.has h.hb,by rw [e.node h.ha,e.node h.hb];exact h.so,by rw [e.node h.ha];exact h.nu⟩
theorem aEy (h:aAn T) (p:T.nodes.length<16384) {args:List Int} (q:1<=op/\op<=20/\op≠11) (z:args.length<=64) (o:∀x∈args,dH T x=true) (r:aD T op ⟨#[]⟩ args=(0,true)) :
  ∃(j:Int) (c:aC),bQ T op ⟨#[]⟩ eA args=((j,0),c)/\(dH c j=true/\(nodeAt c j).sort=0/\(nodeAt c j).op=op/\(nodeAt c j).args=args)/\xE T c/\aAn c/\c.nodes.length<=T.nodes.length+1:=by
 obtain ⟨j,c,f,k,l,m,n,y⟩:=aVh h.ti (op:=op) (nm:=⟨#[]⟩) (val:=eA) (args:=args) (s:=0) aN aN (by unfold eN;simp;omega) (aKt q.2.2) o r p;obtain ⟨d,t⟩:=aQk k;have i:=h.si.make h.ti (op:=op) (nm:=⟨#[]⟩) (val:=eA) (args:=args) aN aN;have g:=h.dc.make h.ti (op:=op) (nm:=⟨#[]⟩) (val:=eA) (args:=args);rw [f] at i g;exact⟨j,c,f,⟨t,by rw [d],by rw [d],by rw [d]⟩,l,⟨m,i,g⟩,n⟩
theorem aGh (h:aB2 T op a b) (c:op=8\/op=17\/op=18\/op=19\/op=20):aD T op ⟨#[]⟩ [a,b]=(0,true):=by
 rcases c with rfl | c
 ·have:aD T 8 ⟨#[]⟩ [a,b]=(0,jV T [a,b]):=rfl;rw [this];unfold jV;rw [aIb fun y hy=>?_]
  ·rfl
  ·simp at hy;rcases hy with rfl | rfl
   ·rfl
   ·exact h.so.symm
 ·have d:=h.nu (by omega) (by omega);have f:=h.so;have g:bP T op [a,b]=true:=by
   unfold bP;rw [if_neg (by unfold jW;split <;> simp),if_pos (aIb fun y hy=>by
    simp at hy;rcases hy with rfl | rfl
    ·exact d
    ·rw [<-f];exact d),if_neg (by omega),if_neg (by omega)]
  have:aD T op ⟨#[]⟩ [a,b]=(0,bP T op [a,b]):=by rcases c with rfl | rfl | rfl | rfl <;> rfl
  rw [this,g]
theorem aVu (h:aAn T) (K:T.nodes.length+2<=16384) (C:dD op) (g:aB2 T op a b) :
  ∃(j:Int) (c:aC),oO T op a b=((j,0),c)/\qO c op a b j/\xE T c/\aAn c/\c.nodes.length<=T.nodes.length+2:=by
 have r:∀y ∈ [a,b],dH T y=true:=fun y hy=>by
  simp at hy;rcases hy with rfl | rfl
  ·exact g.ha
  ·exact g.hb
 unfold dD at C;by_cases o:op=9
 ·subst o;obtain ⟨d,f,l,⟨i,k,m,n⟩,q,p,I⟩:=aEy h (by omega) (op:=8) (args:=[a,b]) ⟨by decide,by decide,by decide⟩ (by simp) r (aGh ⟨g.ha,g.hb,g.so,fun h=>absurd rfl h⟩ (.inl rfl));obtain ⟨D,c,A,⟨E,F,G,H⟩,t,J,L⟩:=aEy p (by omega) (op:=3) (args:=[d]) ⟨by decide,by decide,by decide⟩ (by simp) (fun y hy=>by simp at hy;subst hy;exact i) (by
   have:aD f 3 ⟨#[]⟩ [d]=(0,decide ([d].length=1) && eM f [d] 0):=rfl;rw [this,aIb fun z s=>by simp at s;subst s;exact k];rfl)
  refine⟨D,c,?_,?_,q.trans t,J,by omega⟩
  ·unfold oO uA;rw [if_pos rfl,l];exact A
  ·unfold qO;rw [if_pos rfl];exact⟨d,(aN2.mk i k m n).ext t,E,F,G,H⟩
 ·obtain ⟨d,f,l,⟨i,k,m,n⟩,q,p,I⟩:=aEy h (by omega) (op:=op) (args:=[a,b]) ⟨by omega,by omega,by omega⟩ (by simp) r (aGh g (by omega));refine⟨d,f,?_,?_,q,p,by omega⟩
  ·unfold oO uA;rw [if_neg o];exact l
  ·unfold qO;rw [if_neg o];exact⟨i,k,m,n⟩
end
theorem aLo {op:Int} (f:dD op) (a:Int):∀(l:List Int) {T:aC} (out:List Int),aAn T->T.nodes.length+2 * l.length<=16384->(∀b∈l,aB2 T op a b) ->
  ∃(ks:List Int) (d:aC),kU T op a l out=((out++ks,0),d)/\iH d op (l.map fun b=>(a,b)) ks/\xE T d/\aAn d/\d.nodes.length<=T.nodes.length+2 * l.length
 | [],T,out,h,_,_=>⟨[],T,by rw [lZ];rfl,trivial,.refl _,h,by simp⟩
 |
  b :: l,T,out,h,hl,hg=>by
  rw [fQ] at hl;obtain ⟨j,s,k,n,g,q,t⟩:=aVu h (by omega) f (hg b (by simp));obtain ⟨ks,d,m,o,i,r,y⟩:=aLo f a l (out ++ [j]) q (by omega) fun c p=>(hg c (by simp [p])).ext g
  refine⟨j :: ks,d,?_,⟨n.ext i,o⟩,g.trans i,r,by rw [fQ];omega⟩;unfold kU;rw [k];simp only [if_true];rw [m,jM];rfl
theorem aLp {op:Int} (f:dD op):∀(l:List Int) {T:aC} (out:List Int),aAn T->T.nodes.length+2 * (eL op l).length<=16384->(∀a∈l,∀b∈l,aB2 T op a b) ->
  ∃(ks:List Int) (c:aC),pE T op l out=((out++ks,0),c)/\iH c op (eL op l) ks/\xE T c/\aAn c/\c.nodes.length<=T.nodes.length+2 * (eL op l).length
 | [],T,out,h,_,_=>⟨[],T,by rw [lZ];rfl,trivial,.refl _,h,by simp⟩
 |
  a :: l,T,out,h,hl,hg=>by
  have e:eL op (a :: l)=((if op=9 then l else l.take 1).map fun b=>(a,b))++eL op l:=rfl;rw [e,dM,lB] at hl;have q:∀b∈(if op=9 then l else l.take 1),b∈l:=fun b d=>by
   split at d
   ·exact d
   ·exact sY d
  obtain ⟨g,y,k,n,i,s,z⟩:=aLo f a (if op=9 then l else l.take 1) out h (by omega) fun b d=>hg a (by simp) b (by simp [q b d])
  obtain ⟨r,c,m,o,j,t,A⟩:=aLp f l (out++g) s (by omega) fun a p b d=>(hg a (by simp [p]) b (by simp [d])).ext i
  refine⟨g++r,c,?_,?_,i.trans j,t,?_⟩
  ·unfold pE;rw [k];simp only [if_true];rw [m,jM]
  ·rw [e];exact(n.ext j).append o
  ·rw [e,dM,lB];omega
theorem aEz {T:aC} (q:wU T) {i:Int} (n:dH T i=true) (p:mD T) (m:dD (nodeAt T i).op):2<=(nodeAt T i).args.length/\∀a∈(nodeAt T i).args,∀b∈(nodeAt T i).args,aB2 T (nodeAt T i).op a b:=by
 unfold dD at m;obtain ⟨k,y,z⟩:=aOy q n (by omega);have j:=fun a c=>aVj p n (a:=a) c
 by_cases l:(nodeAt T i).op=8\/(nodeAt T i).op=9
 ·have e:(aD T (nodeAt T i).op (nodeAt T i).name (nodeAt T i).args).2=jV T (nodeAt T i).args:=by
   unfold aD;rcases l with h | h <;> rw [h] <;> rfl
  rw [k] at e;have g:=e.symm;unfold jV at g;simp only [jS,lA] at g;have d:=aC4 g.2;exact⟨g.1,fun a c b f=>⟨j a c,j b f,(d a c).trans (d b f).symm,fun s t=>absurd l (by omega)⟩⟩
 ·have e:(aD T (nodeAt T i).op (nodeAt T i).name (nodeAt T i).args).2=bP T (nodeAt T i).op (nodeAt T i).args:=by
   unfold aD;rcases m with h | h | h | h | h | h <;> first | (exfalso;omega) | (rw [h];rfl)
  rw [k] at e;obtain ⟨o,r,_⟩:=yH e.symm;have d:=aC4 r;refine⟨?_,fun a c b f=>⟨j a c,j b f,(d a c).trans (d b f).symm,fun _ _=>d a c⟩⟩;unfold jW at o;rw [if_neg (by omega)] at o;omega
def qP (x:aZ):Prop:=dD x.op/\¬(x.args.length=2/\x.op≠9)
theorem aT5 {T:aC} (h:aAn T) (t:T.nodes.length<=100) {i:Int} (q:dH T i=true) (o:(nodeAt T i).args.length<=64) :
  ∃(ks:List Int) (c:aC),nK T i=((ks,0),c)/\xE T c/\aAn c/\c.nodes.length<=5000/\(qP (nodeAt T i)->iH c (nodeAt T i).op (eL (nodeAt T i).op (nodeAt T i).args) ks)/\(¬qP (nodeAt T i)->ks = [i]):=by
 unfold nK qP;by_cases d:dD (nodeAt T i).op
 ·rw [if_pos d];by_cases g:(nodeAt T i).args.length=2/\(nodeAt T i).op≠9
  ·rw [if_pos g];exact⟨[i],T,rfl,.refl _,h,by omega,fun f=>absurd g f.2,fun _=>rfl⟩
  ·rw [if_neg g];obtain ⟨_,p⟩:=aEz h.si q h.ti.ok.ord d;have y:(eL (nodeAt T i).op (nodeAt T i).args).length<=2016:=by
    by_cases j:(nodeAt T i).op=9
    ·rw [j];have:=wO (nodeAt T i).args;have s:(nodeAt T i).args.length * ((nodeAt T i).args.length - 1)<=64 * 63:=zD o (by omega);omega
    ·rw [aBj j];omega
   obtain ⟨ks,c,k,l,m,n,r⟩:=aLp d (nodeAt T i).args [] h (by omega) p;exact⟨ks,c,by rw [k];rfl,m,n,by omega,fun _=>l,fun f=>absurd ⟨d,g⟩ f⟩
 ·rw [if_neg d];exact⟨[i],T,rfl,.refl _,h,by omega,fun f=>absurd f.1 d,fun _=>rfl⟩
theorem aT6 {m:gL} {T:aC} (k:mD T) {op a b x:Int} (j:dD op) (f:op≠9) (h:aN2 T op a b x) {c d:bS} (g:ev m T a=some c) (i:ev m T b=some d):ev m T x=some (fW (xG op c d)):=by
 rw [aKj k h.has,h.args];have e:qJ (ev m T) [a,b]=some [c,d]:=by unfold qJ;rw [g];unfold qJ;rw [i];rfl
 rw [e];refine yF ?_;rw [aB1 (by rw [h.op];exact j),h.op];have:eL op [c,d] = [(c,d)]:=by
  unfold eL;rw [if_neg f];unfold eL;rw [if_neg f];rfl
 rw [this];simp
theorem aVv {m:gL} {T:aC} (g:mD T) {op a b x:Int} (q:dD op) (h:qO T op a b x) {c d:bS} (i:ev m T a=some c) (j:ev m T b=some d):ev m T x=some (fW (xG op c d)):=by
 unfold qO at h;by_cases f:op=9
 ·rw [if_pos f] at h;subst f;obtain ⟨e,l,n,s,o,p⟩:=h;have r:=aT6 g (.inl rfl) (by decide) l i j;rw [aKj g n,p];have k:qJ (ev m T) [e]=some [fW (xG 8 c d)]:=by unfold qJ;rw [r];rfl
  rw [k];refine yF ?_;unfold bN;rw [o];show(fW (xZ 3 [fW (xG 8 c d)]),(0:Int))=(fW (!jJ c d),0);rfl
 ·rw [if_neg f] at h;exact aT6 g q f h i j
theorem aN3 {m:gL} {T:aC} (l:mD T) {i:Int} (q:dH T i=true) (d:dD (nodeAt T i).op) {ks:List Int} (g:iH T (nodeAt T i).op (eL (nodeAt T i).op (nodeAt T i).args) ks) {v:bS} (y:ev m T i=some v) :
  ∃bs:List Bool,bs.length=ks.length/\(∀k,k<ks.length->ev m T (nth ks k)=some (fW (bs.getD k false)))/\v=fW (bs.all id):=by
 obtain ⟨o,c⟩:=aH6 l q y;rw [aB1 d,aEx] at c;injection c with c _
 refine⟨(eL (nodeAt T i).op (nodeAt T i).args).map fun p=>xG (nodeAt T i).op ((ev m T p.1).getD eZ) ((ev m T p.2).getD eZ),?_,fun k r=>?_,?_⟩
 ·rw [lB,g.len]
 ·obtain ⟨p,n,s⟩:=g.at k r;have j:=aGg _ _ p (fP n);have f:∀a∈(nodeAt T i).args,ev m T a=some ((ev m T a).getD eZ):=fun a h=>by
   cases t:ev m T a with
   | none=>exact absurd t (o a h)
   | some u=>rfl
  rw [aVv l d s (f _ j.1) (f _ j.2),iW,mZ,n];rfl
 ·rw [<-c,List.all_map,List.all_map];rfl
theorem aIk (k:Int):iS k≠⟨#[]⟩:=by
 intro h;unfold iS at h;injection h with h
 have c:=congrArg Array.toList h;simp at c
structure FrI (T:aC):Prop where
 nm:∀x∈T.nodes,∀k:Int,T.fresh<=k->x.name≠iS k
 fn:∀f∈T.S.funs,∀k:Int,f.name≠iS k
section
variable {T : aC}
theorem aQx {op:Int} {nm:ByteArray} {val:cJ} {args:List Int} (h:fR op nm val=false) (d:(aD T op nm args).2=true):nm=⟨#[]⟩\/∃f∈T.S.funs,f.name=nm:=by
 unfold fR at h;simp only [yN,aGt,aCo,beq_iff_eq,yQ] at h;obtain ⟨⟨c,_⟩,_⟩:=h;by_cases j:op=12
 ·subst j;have e:aD T 12 nm args=iA T nm args:=rfl;rw [e] at d;unfold iA at d
  split at d
  ·rename_i k
   cases i:jA T.S nm with
   | none=>rw [i] at k;exact absurd k.1 (by decide)
   |
    some f=>
    have g:=tI i;have m:f.name=nm:=by
     unfold eqS at g
     first | exact wF.1 g | simpa using g
    exact .inr ⟨f,mK i,m⟩
  ·cases d
 ·rcases c with c | c
  ·exact absurd c j
  ·obtain ⟨l⟩:=nm;have:l = #[]:=aC7 c;rw [this];exact .inl rfl
theorem aN4 (T:aC) (op:Int) (nm:ByteArray) (val:cJ) (args:List Int):(bQ T op nm val args).2=T \/
  (bQ T op nm val args).2=addN T ⟨op,nm,val,args,(aD T op nm args).1⟩/\fR op nm val=false/\(aD T op nm args).2=true:=by
 unfold bQ
 split
 ·exact .inl rfl
 ·split
  ·exact .inl rfl
  ·rename_i d
   split
   ·exact .inl rfl
   ·split
    ·rename_i g
     generalize h:(⟨op,nm,val,args,(aD T op nm args).1⟩:aZ)=x;cases c:T.ids (kT x) with
     | some i=>rw [jX c];exact .inl rfl
     |
      none=>
      by_cases f:16384<=T.nodes.length
      ·rw [kM c f];exact .inl rfl
      ·rw [iX c (by omega)];exact .inr ⟨rfl,by simpa using d,g⟩
    ·exact .inl rfl
theorem FrI.make (h:FrI T) (op:Int) (nm:ByteArray) (val:cJ) (args:List Int):FrI (bQ T op nm val args).2:=by
 rcases aN4 T op nm val args with e | ⟨e,i,m⟩
 ·rw [e];exact h
 ·rw [e];refine⟨fun x c k l=>?_,h.fn⟩;rcases fT.1 c with c | c
  ·exact h.nm x c k l
  ·obtain rfl:=eP.1 c;rcases aQx i m with d | ⟨f,j,d⟩
   ·show nm≠_;rw [d];exact fun g=>aIk k g.symm
   ·show nm≠_;rw [<-d];exact h.fn f j k
end
structure MdI (S:gE) (T:aC) (k:Nat):Prop where
 ti:pR T
 g:dR T
 len:T.nodes.length<=k
 fr:T.fresh=0
 s:T.S=S
 si:wU T
 fi:FrI T
 dc:DcI T
theorem MdI.make {S:gE} {T:aC} {k:Nat} (h:MdI S T k) (op:Int) (nm:ByteArray) (val:cJ) (args:List Int) (j:val.num.length<=8) (l:val.den.length<=8) (m:nm.size<=100):MdI S (bQ T op nm val args).2 (k+1):=by
 have g:=h.g.make op (nm:=nm) (val:=val) args (by omega) (by omega) (by omega);have e:(bQ T op nm val args).2=T\/∃n,(bQ T op nm val args).2=(eW T n).2:=by
  unfold bQ
  split
  ·exact .inl rfl
  ·split
   ·exact .inl rfl
   ·split
    ·exact .inl rfl
    ·split
     ·exact .inr ⟨_,rfl⟩
     ·exact .inl rfl
 refine⟨h.ti.make (by omega) (by omega),g.g,?_,?_,?_,h.si.make h.ti (by omega) (by omega),h.fi.make op nm val args,h.dc.make h.ti⟩
 ·rcases e with e | ⟨n,e⟩
  ·rw [e];have:=h.len;omega
  ·rw [e];rcases aA8 T n with c | c
   ·rw [c];have:=h.len;omega
   ·rw [c,dM,kZ];have:=h.len;omega
 ·rcases e with e | ⟨n,e⟩
  ·rw [e];exact h.fr
  ·rw [e,wJ];exact h.fr
 ·rcases e with e | ⟨n,e⟩
  ·rw [e];exact h.s
  ·rw [e];cases d:T.ids (kT n) with
   | some i=>rw [jX d];exact h.s
   |
    none=>
    by_cases f:16384<=T.nodes.length
    ·rw [kM d f];exact h.s
    ·rw [iX d (by omega)];exact h.s
theorem pR.X {T:aC} (h:pR T) (X:Nat->Prop):pR { T with X:=X }:=⟨h.ok.X X,⟨h.ids.back,h.ids.fwd,h.ids.q⟩,⟨h.nu.nums,h.nu.div,h.nu.num⟩,h.fq⟩
def aX9 (w0:World) (p r q:Nat) (S:gE) (n:Nat) (e:Ending) (w':World):Prop:=
 ∃(T:aC) (ids:List Int) (v:Value),e = .returned (.tuple #[v,.bool true])/\Two w0 p r q { T with X:=kI v } w'/\MdI S T n/\ids.length=n/\(∀i∈ids,-1<=i/\i<(T.nodes.length:Int))/\aW w' w0.heap.size 3 1 v ids.length (ids.map (Value.int .i64))
theorem Two.sameX {w0 w:World} {p r q:Nat} {T:aC} {X Y:Nat->Prop} (h:Two w0 p r q { T with X:=X } w) (c:∀k,Y k->X k):Two w0 p r q { T with X:=Y } w:=
 h.excl (X':=Y) (aO _ _) (fun _ _ _=>rfl) fun k d=>⟨.inl (c k d),(h.xd k (c k d)).2⟩
theorem Two.more {w0 w w':World} {p r q:Nat} {T:aC} {X Y:Nat->Prop} (h:Two w0 p r q { T with X:=X } w) (c:Below w.heap.size w w') (i:∀k,Y k->X k\/(w.heap.size<=k/\∃cs f,w'.heap[k]? = some (.cells cs 3 f))):Two w0 p r q { T with X:=Y } w':=
 h.excl (X':=Y) (c.mono h.st.b.size) (fun k d _=>c.block k d) fun k d=>by
  rcases i k d with e | e
  ·obtain ⟨_,cs,f,g⟩:=h.xd k e;exact⟨.inl e,cs,f,(c.block k (bH g).1).trans g⟩
  ·exact⟨.inr e.1,e.2⟩
theorem Two.push {w0 w w':World} {p r q:Nat} {T:aC} {v v':Value} {n m:Nat} {xs ys:List Value} (h:Two w0 p r q { T with X:=kI v } w) (j:aW w w0.heap.size 3 1 v n xs) (d:w.grownBy w' v.ownBlock) (l:aW w' w0.heap.size 3 1 v' m ys) (c:v'.ownBlock=v.ownBlock\/∀k,v'.ownBlock=some k->w.heap.size<=k):Two w0 p r q { T with X:=kI v' } w':=by
 have f:Below w0.heap.size w w':=(aO _ _).grown d h.st.b.size fun k g=>(j.lt k g).1
 refine h.excl (X':=kI v') f (fun k _ i=>d.block k ‹_› (fun e=>i e.symm)) (fun k e=>⟨?_,l.ty k e⟩);rcases c with c | c
 ·exact .inl (by show v.ownBlock=some k;rw [<-c];exact e)
 ·exact .inr (c k e)
theorem aW.datX {w:World} {base n c:Nat} {a:Option Addr} {xs:List Int} (h:aW w base 3 1 (.slice a n c) n (xs.map (Value.int .i64))) (i:∀x∈xs,eI x):bT cH.int (dU w) w a n xs:=
 bT.ofI (aW.rdX h i) fun y f e=>by
  obtain ⟨d,j,g,_,_⟩:=h.form f;injection g with h1 h2 h3
  rw [h1] at e;injection e with e
  subst e;exact h.dat d (by rw [h1];rfl)
theorem aW.rstep {w w':World} {base s n r:Nat} {v:Value} {xs:List Value} (h:aW w base 3 s v n xs) (hd:∃cs f,w.heap[r]? = some (.cells cs 51 f)) (d:uC r w w'):aW w' base 3 s v n xs:=
 h.same fun k c=>d.block k (h.lt k c).2 fun e=>by subst e;exact cO (by decide) (h.ty k c) hd
theorem bT.lowB {α:Type} {R:cH α} {w w':World} {a:Option Addr} {n B:Nat} {xs:List α} (h:bT R (fun k=>k<B) w a n xs) (c:Below B w w'):bT R (fun k=>k<B) w' a n xs:=h.keep (fun b _ d=>c.block b d) c.size
theorem aIl:lM prog 120 rF:=
 .map (fun s:uD=>(s.op,s.name,s.val,s.args,s.raw)) (fun x=>⟨x.1,x.2.1,x.2.2.1,x.2.2.2.1,x.2.2.2.2⟩) (fun _=>rfl)
  (.struct underlying120 (by kernel_rfl)
   (nJ.cons rfl (.int underlying3 (by kernel_rfl)) rfl
    (nJ.cons rfl (.str underlying9 (by kernel_rfl)) rfl
     (nJ.cons rfl aQr rfl
      (nJ.cons rfl (.slice (.int underlying3 (by kernel_rfl)) underlying23 (by kernel_rfl) (by decide)) rfl
       (nJ.one rfl (.bool underlying4 (by kernel_rfl))))))))
theorem aFe:lM prog 22 (.slice rF):=.slice aIl underlying22 (by kernel_rfl) (by decide)
theorem aQy (a:Option Addr) (n c:Nat) (xs:List uD) (w:World) (y:bT rF (fun _=>True) w a n xs) (am:n<=9223372036854775807) :
  Calls prog 13 #[.slice a n c] w fun e w'=>aYs xs w e w':=by
 have U:=Z y;have A:=Z y.1;clear y;go_enter func13,ntmps13
 go_wp2
 go_loopw [2,3] (fun X C wr=>∃k:Nat,k<=n/\k<=70/\X = .bool false/\C = .int .i64 k/\Hid (∀j s,j<k->xs[j]? = some s->aBc s)/\Hid (Below w.heap.size w wr)) (fun _ C _=>70 - (intOf C).toNat)
 case atStart=>exact⟨0,aN,by omega,rfl,rfl,fun j s i=>absurd i (by omega),aO _ _⟩
 case round=>
  obtain ⟨k,ah,ai,rfl,rfl,F,d⟩:=hrel;by_cases P:k<n
  case neg=>
   obtain rfl:k=n:=by omega
   have ag:((k:Int)<=60)\/¬((k:Int)<=60):=by omega
   have t:=Z (fun(h:decide ((k:Int)<=60)=true)=>show xs.length<=60/\∀s∈xs,aBc s from by
    have h:=oU h;refine⟨by rw [A.o];omega,fun s r=>?_⟩;obtain ⟨j,i,rfl⟩:=gU r;exact F.o j _ (by rw [A.o] at i;exact i) (cK i))
   have ao:¬(k:Int)<k:=by omega
   go_wp2;go_ret;exact⟨_,rfl,fun h=>t.o h,d.o⟩
  case pos=>
   have al:(k:Int)<n:=by omega
   by_cases aj:k<70
   case neg=>
    have G:¬(k:Int)<70:=by omega
    have ak:decide ((k:Int)<70)=false:=aR G;have S:¬(n:Int)<=60:=by omega
    have an:decide ((n:Int)<=60)=false:=aR S;go_wp2;go_ret;exact⟨false,rfl,fun h=>(by cases h),d.o⟩
   case pos=>
    have G:(k:Int)<70:=by omega
    have Q:k<xs.length:=by rw [A.o];exact P
    have z:=cK Q;obtain ⟨aa,aq,I,K,J,L,ad,ab,rfl,r,g⟩:=U.o.stepAt z;have ar:=aB d.o (g 1 _ rfl);have au:=aB d.o (g 2 _ rfl);have av:=aB d.o (g 3 _ rfl);have aw:=aB d.o (g 4 _ rfl);have ax:=aB d.o (g 5 _ rfl);have H:=Z (fun(h:aBc xs[k])=>show ∀j s,j<k+1->xs[j]? = some s->aBc s from fun j s i q=>by
     by_cases e:j=k
     ·rw [e,z] at q;cases q;exact h
     ·exact F.o j s (by omega) q)
    have m:=Z (aIg xs[k].val I J K L wr);clear r g z;generalize xs[k]=W at *;obtain ⟨op,nm,⟨ap,V,M⟩,args,ay⟩:=W;dsimp only at *;by_cases N:nm.size<=100
    case neg=>
     have D:(100:Int)<nm.size:=by omega
     go_wp2;go_ret;exact⟨false,rfl,fun h=>(by cases h),d.o⟩
    have D:¬(100:Int)<nm.size:=by omega
    have ae:decide ((100:Int)<nm.size)=false:=aR D;by_cases O:args.length<=66
    case neg=>
     have E:(66:Int)<args.length:=by omega
     go_wp2;go_ret;exact⟨false,rfl,fun h=>(by cases h),d.o⟩
    have E:¬(66:Int)<args.length:=by omega
    have af:decide ((66:Int)<args.length)=false:=aR E;cases f:(decide (V.length<=8) && decide (M.length<=8))
    case false=>
     rw [f] at m
     go_wp2_with fail
     refine m.o.mono ?_;rintro e Y ⟨rfl,l⟩;have p:=Z (aG d l);clear l;go_wp2;go_ret;exact⟨false,rfl,fun h=>(by cases h),p.o⟩
    case true=>
     rw [f] at m;have t:=Z (H.o ⟨N,O,by simp at f;exact f.1,by simp at f;exact f.2⟩);clear H f
     go_wp2_with fail
     refine m.o.mono ?_;rintro e Y ⟨rfl,l⟩;have p:=Z (aG d l);clear l;go_wp2
     go_roundw
     case rel=>exact⟨k+1,by omega,by omega,rfl,by go_num,t.o,p.o⟩
     case measure=>first | (simp [intOf];done) | (simp [intOf];omega)
theorem aFf (w:World) (P:Env w):Calls prog 15 #[] w fun e w'=>aXw w e w':=by
 have aY:=Z P;have J:=P.pos;have a6:=Z (aIr w);clear P;go_enter func15,ntmps15
 go_wp2_with fail
 refine a6.o.mono ?_;rintro e d ⟨p,rfl,K,s⟩;have G:=Z (show Duo w p d.heap.size ⟨[],[],[]⟩ (d.alloc (.cells #[.slice none 0 0,.slice none 0 0,.slice none 0 0] 107)) from by
  have I:Below d.heap.size d (d.alloc (.cells #[.slice none 0 0,.slice none 0 0,.slice none 0 0] 107)):=bJ;have ax:=cC d (.cells #[.slice none 0 0,.slice none 0 0,.slice none 0 0] 107);refine⟨K.all I,⟨s.size,fun _ h=>h.elim,_,_,_,ax,cA.nil _ _ _ _ _,cA.nil _ _ _ _ _,cA.nil _ _ _ _ _⟩,fun j U=>?_,s.trans (I.mono s.size),aY.o.all (s.trans (I.mono s.size))⟩;have bc:j=d.heap.size:=by
   rcases (qB ax).1 U with h | h | h | h
   ·exact h
   ·simp [Value.ownBlock] at h
   ·simp [Value.ownBlock] at h
   ·simp [Value.ownBlock] at h
  subst bc;refine⟨by simp,fun e=>?_⟩;have:=(K.ownB ((eQ.same (I.block p K.plt)).1 e)).2;omega)
 clear K s a6
 go_wp2_with fail
 generalize (d.alloc (.cells #[.slice none 0 0,.slice none 0 0,.slice none 0 0] 107))=bo at *;generalize d.heap.size=q at *;have a5:=Z (aIs w.heap.size p ⟨[],[],[]⟩ sU bo G.o.t G.o.e (by decide));refine a5.o.mono ?_;rintro e aF ao;obtain ⟨rfl,aE,aC⟩:=ao.yes aVa;obtain ⟨V,ai,ak,am⟩:=G.o.step J aC;have z:=Z (And.intro aE (And.intro ai (And.intro ak am)));have ag:=Z V;have a4:=Z (aF7 w.heap.size q ⟨[],[],[]⟩ sU aF V (by decide));clear ao aE aC V ai ak am a5
 go_wp2_with fail
 refine a4.o.mono ?_;rintro e w4 y;have aX:e = .returned (.tuple #[.int .i64 2,.int .i64 0])/\kC (fun _=>False) w.heap.size q (T7 0) w4/\iI q aF w4:=by
  unfold pS at y;rw [if_neg (by rw [aVa];decide)] at y;exact⟨y.1.1,y.1.2,y.2⟩
 obtain ⟨rfl,aA,aD⟩:=aX;have m:=Z (Duo.step2 (T':=T7 0) J z.o.1 ag.o z.o.2.1 z.o.2.2.1 z.o.2.2.2 aA aD);have ay:=Z (qN w4);clear y aA aD z ag a4
 go_wp2_with fail
 refine ay.o.mono ?_;rintro e F ⟨rfl,a1,H,z5⟩;have aL:=Z (m.o.all H);have aI:=Z (show wZ (fun k=>w4.heap.size<=k/\k<F.heap.size) p q F from fun k l=>⟨l.2,fun e=>by
  have:=(m.o.t.ownB ((eQ.same (H.block p m.o.t.plt)).1 e)).2;omega,fun e=>by
  have:=(m.o.r.ownB ((eQ.same (H.block q m.o.r.plt)).1 e)).2;omega⟩)
 have aN:=Z (show bT oZ (fun k=>w4.heap.size<=k/\k<F.heap.size) F (some ⟨w4.heap.size+3,0,none⟩) 10 eC from a1.mono fun b A l=>⟨l,A⟩);clear a1 H z5 ay G m;go_wp2;generalize w4.heap.size+3=g at *;generalize ba:(fun k=>w4.heap.size<=k/\k<F.heap.size)=ah at *;clear ba
 go_loopw [5] (fun i wr=>∃k:Nat,k<=10/\i = .int .i64 k/\Hid (Duo w p q (T7 k) wr)/\Hid (wZ ah p q wr)/\Hid (bT oZ ah wr (some ⟨g,0,none⟩) 10 eC)) (fun i _=>10 - (intOf i).toNat)
 case atStart=>exact⟨0,by omega,rfl,aL.o,aI.o,aN.o⟩
 case round=>
  obtain ⟨k,l,rfl,c,aZ,ar⟩:=hrel;by_cases be:k<10
  ·have C:eC[k]? = some (eC[k]'(by show k<10;omega)):=cK _;generalize (eC[k]'(by show k<10;omega))=f at *;obtain ⟨b,o,aT,aV,S,a7,a8,a9,aB,or,bu,_⟩:=ar.o.funAt C;cases S;simp only [dT] at a7 a8 a9;have bs:f.args.length<=2:=by
    have:f∈eC:=fP C;simp [eC] at this;rcases this with rfl | rfl | rfl | rfl | rfl | rfl | rfl | rfl | rfl | rfl <;> decide
   obtain ⟨az,av⟩:=aXs be f C;have bt:(k:Int)<10:=by omega
   have a0:=Z (aOb w.heap.size p (T7 k) f aT aV wr c.o.t (aD3 k) c.o.e aB.toI (by omega));have aw:=Z av;have br:=Z az;have bb:=Z C;clear C az av or
   go_wp2_with fail
   refine a0.o.mono ?_;rintro e bp ⟨rfl,Y,D⟩;rw [aw.o] at Y;obtain ⟨W,aj,al,an⟩:=c.o.step J D;have a3:=(D.block q (c.o.ap q (.inl rfl)).1 (c.o.ap q (.inl rfl)).2).1;obtain ⟨ab,ae⟩:=aZ.o.stepP D a3;have M:=ar.o.keep (fun b _ A=>ae b A) D.size;obtain ⟨bq,bv,aU,aW,S,bk,bl,bm,bn,_,bj,_⟩:=M.funAt bb.o;cases S;simp only [dT] at bk bl bm;have n:=Z (And.intro Y (And.intro aj (And.intro al an)));have aQ:=Z W;have aJ:=Z ab;have aO:=Z M;have bg:=Z (aKb w.heap.size q (T7 k) f aU aW bp W (aD3 k) bn.toI (by omega) bj);clear Y D W aj al an a3 ab ae M a0 a7 a8 a9 aB
   go_wp2_with fail
   refine bg.o.mono ?_;rintro e bw ⟨rfl,X,E⟩;rw [aw.o] at X;have aM:=Z (Duo.step2 (T':=T7 (k+1)) J n.o.1 aQ.o n.o.2.1 n.o.2.2.1 n.o.2.2.2 X E);have Q:=n.o.2.1.symm fun j U=>(n.o.1.ownB U).2
   have a2:=(E.block p (Q p (.inl rfl)).1 (Q p (.inl rfl)).2).1;obtain ⟨ad,af⟩:=aJ.o.stepQ E a2;have aK:=Z ad;have aP:=Z (aO.o.keep (fun b _ A=>af b A) E.size);clear X E Q a2 ad af;go_wp2
   go_roundw
   case rel=>exact⟨k+1,by omega,by go_num,aM.o,aK.o,aP.o⟩
   case measure=>simp [intOf];omega
  ·have bd:k=10:=by omega
   subst bd;have bf:=Z (aOp w.heap.size p (T7 10) wr c.o.t)
   go_wp2_with fail
   refine bf.o.mono ?_;rintro e L ⟨rfl,au,N⟩;have aS:=Z au;have aR:=Z (c.o.r.all N);have aa:=Z (c.o.b.trans (N.mono c.o.b.size));have bh:=c.o.b.size;clear au N;go_wp2;go_ret2;have O:Below L.heap.size L (L.alloc (.cells #[.pointer (some ⟨q,0,none⟩),.slice none 0 0,.int .i64 0] 51)):=bJ;have aq:=cC L (.cells #[.pointer (some ⟨q,0,none⟩),.slice none 0 0,.int .i64 0] 51);have aH:=aG aa O;refine⟨_,_,q,rfl,⟨⟨(aS.o.lower bh).all O,aH⟩,⟨aa.o.size,⟨_,aq,cA.nil _ _ _ _ _⟩,(aR.o.all O)⟩,fun k l=>?_,fun k l=>l.elim⟩⟩;obtain ⟨u,v,x,t,f,e,bi⟩:=l;rw [aq] at e;cases e;simp [Value.ownBlock] at bi
theorem aN5 {w0:World} (bs:lF w0) (p r q:Nat) (S:gE) (aG:aC) (xs:List uD) (a:Option Addr) (n c:Nat) (w:World) (I:Two w0 p r q { aG with X:=fun _=>False } w) (bt:MdI S aG 0) (aV:bT rF (fun k=>k<w0.heap.size) w0 a n xs) (b5:∀s∈xs,aBc s) (cD:n<=60) :
  Calls prog 16 #[.pointer (some ⟨p,0,none⟩),.pointer (some ⟨r,0,none⟩),.slice a n c] w fun e w'=>aX9 w0 p r q S n e w':=by
 have bP:=Z bs;have b9:=Z aV;have bE:=Z aV.1;have b6:=Z b5;have bq:=Z I;have bj:=Z bt;clear bs aV b5 I bt;go_enter func16,ntmps16
 go_wp2
 go_loopw [8,9,10,11,12,13,14,15,16,17] (fun bI aZ _ _ _ _ _ _ _ _ wr=>∃(k:Nat) (T:aC) (ids:List Int),k<=n/\aZ = .int .i64 k/\Hid (Two w0 p r q { T with X:=kI bI } wr)/\Hid (MdI S T k)/\ids.length=k/\Hid (∀i∈ids,-1<=i/\i<(T.nodes.length:Int))/\Hid (aW wr w0.heap.size 3 1 bI ids.length (ids.map (Value.int .i64)))) (fun _ aZ _ _ _ _ _ _ _ _ _=>n - (intOf aZ).toNat)
 case atStart=>exact⟨0,aG,[],aN,rfl,bq.o.sameX (fun k f=>by simp [kI,Value.ownBlock] at f),bj.o,rfl,fun i d=>by simp at d,aW.nil _ _ _ _⟩
 case round=>
  obtain ⟨k,T,ids,f,rfl,I,N,rfl,a4,P⟩:=hrel;obtain ⟨A,rfl⟩:∃A,A=wr:=⟨_,rfl⟩;clear bq bj;by_cases bW:ids.length<n
  case neg=>
   obtain rfl:ids.length=n:=by omega
   have cF:¬(ids.length:Int)<ids.length:=by omega
   go_wp2;go_ret2;exact⟨T,ids,_,rfl,I.o,N.o,rfl,a4.o,P.o⟩
  case pos=>
   have cA:(ids.length:Int)<n:=by omega
   have aL:ids.length<xs.length:=by rw [bE.o];exact bW
   have bB:=cK aL;have l:=Z (b6.o _ (qS aL));have bC:=(b9.o.below I.o.st.b aA);obtain ⟨cv,cJ,aa,ae,ad,ag,a0,az,rfl,b4,Q⟩:=bC.stepAt bB;have bF:=Q 0 _ rfl;rw [cU] at bF;have ch:=Q 1 _ rfl;have cj:=Q 2 _ rfl;have ck:=Q 3 _ rfl;have cl:=Q 4 _ rfl;have cm:=Q 5 _ rfl;have cn:=Q 6 _ rfl;have F:=Z b4;clear bC Q bB b4;generalize xs[ids.length]=cp at *;clear aL;obtain ⟨op,nm,⟨G,H,D⟩,args,au⟩:=cp;dsimp only [aTt] at *;have bA:=Z (cC A (.cells #[.int .i64 op,.string nm,.bool G,.slice aa H.length ae,.slice ad D.length ag,.slice a0 args.length az,.bool au] 120));have br:=Z (show Below A.heap.size A (A.alloc (.cells #[.int .i64 op,.string nm,.bool G,.slice aa H.length ae,.slice ad D.length ag,.slice a0 args.length az,.bool au] 120)) from bJ);have a8:=Z (iD A (.cells #[.int .i64 op,.string nm,.bool G,.slice aa H.length ae,.slice ad D.length ag,.slice a0 args.length az,.bool au] 120));go_wp2
   go_loopw [11,12,13] (fun cq aY _ bL=>∃(j:Nat) (out:List Int),j<=args.length/\aY = .int .i64 j/\out.length=j/\Hid (∀i∈out,eI i)/\Hid (aW bL (A.heap.size+1) 3 1 cq out.length (out.map (Value.int .i64)))/\Hid (Below (A.heap.size+1) (A.alloc (.cells #[.int .i64 op,.string nm,.bool G,.slice aa H.length ae,.slice ad D.length ag,.slice a0 args.length az,.bool au] 120)) bL)) (fun _ aY _ _=>args.length - (intOf aY).toNat)
   case atStart=>exact⟨0,[],aN,rfl,rfl,fun i d=>by simp at d,aW.nil _ _ _ _,aO _ _⟩
   case round=>
    obtain ⟨j,out,c7,rfl,rfl,aQ,O,ah⟩:=hrel;have ai:=Z (br.o.trans (ah.o.mono (by omega)));have aq:=Z ((ah.o.block A.heap.size (by omega)).trans bA.o);obtain ⟨bb,bc,bd,be,bf,bg,bh⟩:=pT aq.o;by_cases b0:out.length<args.length
    case pos=>
     have c9:(out.length:Int)<args.length:=by omega
     obtain ⟨ab,af,rfl,_,_⟩:=P.o.slice;obtain ⟨K,L,rfl,aH,aI⟩:=O.o.slice;obtain ⟨bN,cL,rfl,bD⟩:=F.o.args.toI.at out.length b0;have cH:=aB ai.o bD;have ca:eI (nth args out.length):=F.o.args.toI.wf _ (cB b0);have aM:=Z l.o.2.1;clear bD;generalize nth args out.length=x at *
     go_upto_region 11 with fail
     go_cut [47] from 40 to 47 (fun ct wc=>(∃ay:Bool,(ay=true->0<ids.length)/\ct = .bool ay)/\wc=wr)
     case first=>
      cases au
      case true=>
       go_wp2;go_meet
       case rel=>exact⟨⟨false,fun h=>(by cases h),rfl⟩,rfl⟩
      case false=>
       by_cases aK:0<ids.length
       case neg=>
        have ar:¬(0:Int)<ids.length:=by omega
        have c6:decide ((0:Int)<ids.length)=false:=aR ar;go_wp2;go_meet
        case rel=>exact⟨⟨false,fun h=>(by cases h),rfl⟩,rfl⟩
       case pos=>
        have ar:(0:Int)<ids.length:=by omega
        go_wp2;go_meet
        case rel=>exact⟨⟨true,fun _=>aK,rfl⟩,rfl⟩
     obtain ⟨⟨ay,bv,rfl⟩,rfl⟩:=hcut;obtain ⟨wr,rfl⟩:∃wr,wr=wc:=⟨_,rfl⟩;have bS:=Z bv;clear bv
     go_upto_if 47 with fail
     go_cut [13] from 48 to 54 (fun cr wc=>(∃x,eI x/\cr = .int .i64 x)/\wc=wr)
     case first=>
      cases ay
      case false=>
       go_wp2;go_meet
       case rel=>exact⟨⟨x,ca,rfl⟩,rfl⟩
      case true=>
        have aK:=bS.o rfl;have ar:(0:Int)<ids.length:=by omega
        obtain ⟨bO,cw,ce,_,_⟩:=P.o.form aK;cases ce;have am:=P.o.cells (g:=bO) rfl;have b3:=Z (aIi x ids.length wr ar (by omega));have a1:=aIh x ids.length ar;obtain ⟨t,b7⟩:=fK a1.1;rw [b7] at b3 a1;have aU:t<ids.length:=by omega
        have cG:(t:Int)<ids.length:=a1.2;have cz:=aB ai.o (am t (.int .i64 (nth ids t)) (by rw [mZ,cK aU,cE aU];rfl));have cb:eI (nth ids t):=by have:=a4.o _ (cB aU);have:=N.o.g.ok.sm.le;unfold eI;omega
        clear am a1 b7;generalize nth ids t=y at *
        go_wp2_with fail
        refine b3.o.mono ?_;rintro e bK ⟨rfl,rfl⟩;go_wp2;go_meet
        case rel=>exact⟨⟨y,cb,rfl⟩,rfl⟩
     case rest=>
      obtain ⟨⟨y,hy,rfl⟩,rfl⟩:=hcut;obtain ⟨cg,a2,a5,a6,a7⟩:=info_parts lE;have bX:=aM.o;dsimp only at bX
      go_wp2_with (at_builtin;refine cI rfl (.tmp 55) (.tmp 57) rfl underlying23 a2 a5 a6 a7 rfl (by decide) rfl rfl (O.o.alloc _) (Src.one (b:=wc.heap.size) (news:=[.int .i64 y]) rfl ?c1) ?c2 ?c3 ?c4 ?c5 ?_)
      (try case c1=>intro j u z;rw [kO];simpa using z)
      case c2=>first | rfl | (intro u z;simp at z;subst z;rfl)
      case c3=>unfold maxLen;omega
      case c4=>omega
      case c5=>have:=ah.o.size;have:=a8.o;first | omega | (simp;omega)
      intro v' an J U aj;have bM:=Z (show Below (A.heap.size+1) _ an from ah.o.trans (((aO _ _).alloc (by have:=ah.o.size;have:=a8.o;omega) _).trans ((aO _ _).grown U (by have:=ah.o.size;have:=a8.o;first | omega | (simp;omega)) (fun k f=>(O.o.lt k f).1))));have ap:=Z (show aW an (A.heap.size+1) 3 1 v' (out ++ [y]).length ((out ++ [y]).map (Value.int .i64)) from by rw [dM,kZ,mL];exact J);clear J U aj;go_wp2
      go_roundw
      case rel=>exact⟨out.length+1,out ++ [y],by omega,by go_num,by simp,fun i d=>by
       rcases fT.1 d with d | d
       ·exact aQ.o i d
       ·obtain rfl:=eP.1 d;exact hy,ap.o,bM.o⟩
      case measure=>first | (simp [intOf];done) | (simp [intOf];omega)
    case neg=>
     have c8:¬(out.length:Int)<args.length:=by omega
     obtain ⟨ab,af,rfl,_,_⟩:=P.o.slice;obtain ⟨K,L,rfl,aH,aI⟩:=O.o.slice;have cy:=(bH aq.o).1;have C:=Z (I.o.more (Y:=fun k=>kI (.slice ab ids.length af) k\/kI (.slice K out.length L) k) ai.o (fun k f=>f.imp (fun h=>h) fun h=>⟨by have:=(O.o.lt k h).1;omega,O.o.ty k h⟩));have bl:=Z (P.o.same fun k f=>ai.o.block k (P.o.lt k f).2);have aD:=Z (F.o.num.lowB (ai.o.mono I.o.st.b.size));have a9:=Z (F.o.den.lowB (ai.o.mono I.o.st.b.size));have a3:=sH w0.heap.size p { T with X:=fun k=>kI (.slice ab ids.length af) k\/kI (.slice K out.length L) k } op nm ⟨G,H,D⟩ out aa ad K ae ag L wr C.o.st.t (N.o.g.ok.sm.X _) (C.o.st.env bP.o) ⟨aD.o.mono fun _ _ _=>trivial,a9.o.mono fun _ _ _=>trivial,aW.datX O.o aQ.o,F.o.nc,F.o.dc,⟨aH,aI⟩,by have:=l.o.2.2.1;dsimp only at this ⊢;omega,by have:=l.o.1;dsimp only at this ⊢;omega,F.o.op,fun _=>by have:=l.o.2.2.2;dsimp only at this ⊢;omega⟩;unfold cZ at a3;rw [wI] at a3;have aS:=fun(W:World) (m2:uJ (fun k=>kI (.slice ab ids.length af) k\/kI (.slice K out.length L) k) w0.heap.size r q T.S T.nodes W) (co:aWa w0.heap.size (fun k=>kI (.slice ab ids.length af) k\/kI (.slice K out.length L) k) W ⟨G,H,D⟩ out op aa ad K ae ag L)=>aQo T op nm ⟨G,H,D⟩ out aa ad K ae ag L W m2 N.o.ti C.o.st.t.srts.1 C.o.st.t.srts.2 co
     unfold fS at aS;have av:=Z (N.o.make op nm ⟨G,H,D⟩ out l.o.2.2.1 l.o.2.2.2 l.o.1);have bz:=Z (aTb N.o.ti (op:=op) (nm:=nm) (val:=⟨G,H,D⟩) (args:=out));have aJ:=Z (N.o.g.make op (nm:=nm) (val:=⟨G,H,D⟩) out (by have:=l.o.2.2.1;dsimp only at this ⊢;omega) (by have:=l.o.2.2.2;dsimp only at this ⊢;omega) (by have:=l.o.1;dsimp only at this ⊢;omega)).len;have cf:=Z I.o.st.b.size;have aP:=Z a3;have aT:=Z aS;clear a3 aS;generalize bQ T op nm ⟨G,H,D⟩ out=M at *;obtain ⟨⟨id,er⟩,al⟩:=M;dsimp only at aP aT av bz aJ;have aM:=Z l.o.2.1;have bY:=Z l.o.2.2.1;have bU:=Z l.o.2.2.2;have cc:=Z F.o.op;have bZ:=Z F.o.nc;have bV:=Z F.o.dc;have cd:=Z (show al.S=T.S from av.o.s.trans N.o.s.symm);clear l F bF ch cj ck cl cm cn bA br a8 N b6 b9 bE P I ai
     go_wp2_with fail
     refine aP.o.mono ?_;rintro e bK ⟨rfl,bG,V⟩;have ak:=Z (C.o.tstep V);have bp:=Z (C.o.st.step bG V);have bu:=Z ((C.o.st.t.stay V ⟨_,_,aq.o⟩ (by decide) (by decide) (by decide)).trans aq.o);have bn:=Z (aW.tstep bl.o C.o.st (fun k f=>.inl f) V);have bm:=Z (aW.tstep (O.o.lower (base':=w0.heap.size) (by have:=cf.o;omega)) C.o.st (fun k f=>.inr f) V);have bk:=Z (aD.o.lowB (C.o.st.t.stepBelow V));have bi:=Z (a9.o.lowB (C.o.st.t.stepBelow V));clear bG V aP C bl O aD a9 aq ah bb bc bd be bf bg bh;obtain ⟨bb,bc,bd,be,bf,bg,bh⟩:=pT bu.o;have b2:=Z (aT.o bK ak.o.1 ⟨bk.o.mono fun _ _ h=>.inl h,bi.o.mono fun _ _ h=>.inl h,aW.rdX bm.o aQ.o,bZ.o,bV.o,⟨aH,aI⟩,by have:=bY.o;dsimp only at this ⊢;omega,by have:=bU.o;dsimp only at this ⊢;omega,by have:=aM.o;change args.length<=66 at this;show out.length<=_;omega,cc.o⟩);clear aT
     go_wp2_with fail
     refine b2.o.mono ?_;rintro e ba ⟨rfl,m3,aX⟩;have aw:=Z (Two.rstep (T':={ T with X:=fun k=>kI (.slice ab ids.length af) k\/kI (.slice K out.length L) k }) bp.o ak.o.1 ak.o.2.1 ak.o.2.2 aX (by show uJ _ _ _ _ al.S _ _;rw [cd.o];exact m3));have bo:=Z (bn.o.rstep ak.o.1.hd aX);clear m3 aX b2 bp ak bk bi bn bm bu bb bc bd be bf bg bh;have b1:=Z (fun(W:World) (bR:Below ba.heap.size ba W)=>show Calls prog 46 #[.pointer (some ⟨p,0,none⟩)] W fun e w'=>e = .returned (.int .i64 al.nodes.length)/\w'=W from(aOd w0.heap.size p _ W (aw.o.st.t.all bR)).mono fun _ _ h=>⟨h.1,h.2.symm⟩);obtain ⟨u1,cu,cx,bN,bw,_⟩:=aw.o.m.rd;have am:=E bw 1;simp only [dW,fF,dS] at am;(try dsimp only at am);clear bw;go_wp2
     go_quiet ((go_at_call 46;exact Calls.quiet_of_same (b1.o _ ((aO _ _).drewN _))))
     have aE:=Z ((aw.o.all ((aO _ _).drewN nq)).sameX (T:=al) (Y:=kI (.slice ab ids.length af)) fun k f=>.inl f);have ax:=Z (bo.o.drewN nq);clear aw bo b1 am;generalize ba.drewN nq=w4 at *;have b8:=Z aE.o.st.b.size;obtain ⟨cg,a2,a5,a6,a7⟩:=info_parts lE;by_cases bx:er=0
     case pos=>
      subst bx
      go_wp2_with (at_builtin;refine cI rfl (.tmp 103) (.tmp 105) rfl underlying23 a2 a5 a6 a7 rfl (by decide) rfl rfl (ax.o.alloc _) (Src.one (b:=w4.heap.size) (news:=[.int .i64 id]) rfl ?y1) ?y2 ?y3 ?y4 ?y5 ?_)
      (try case y1=>intro j u z;rw [kO];simpa using z);(try case y2=>first | rfl | (intro u z;simp at z;subst z;rfl));(try case y3=>unfold maxLen;omega);(try case y4=>omega);(try case y5=>have:=b8.o;first | omega | (simp;omega));intro v' an J U aj;have ao:Below w4.heap.size w4 (w4.alloc (.cells #[.int .i64 id] 3)):=bJ;have ap:=Z (show aW an w0.heap.size 3 1 v' (ids ++ [id]).length ((ids ++ [id]).map (Value.int .i64)) from by rw [dM,kZ,mL];exact J);have aF:=Z ((aE.o.all ao).push (ax.o.alloc _) U J (aj.imp (fun h=>h) fun h k f=>by rw [iD];exact h k f));clear J U aj ao;go_wp2
      go_roundw
      case rel=>exact⟨ids.length+1,al,ids ++ [id],by omega,by go_num,aF.o,av.o,by simp,fun i d=>by
       rcases fT.1 d with d | d
       ·have:=a4.o i d;have:=aJ.o;omega
       ·obtain rfl:=eP.1 d;have:=cX.1 (bz.o (by first | rfl | trivial));omega,ap.o⟩
      case measure=>first | (simp [intOf];done) | (simp [intOf];omega)
     case neg=>
      have c0:(er == 0)=false:=by simpa using bx
      go_wp2_with (at_builtin;refine cI rfl (.tmp 103) (.tmp 105) rfl underlying23 a2 a5 a6 a7 rfl (by decide) rfl rfl (ax.o.alloc _) (Src.one (b:=w4.heap.size) (news:=[.int .i64 (-1)]) rfl ?z1) ?z2 ?z3 ?z4 ?z5 ?_)
      (try case z1=>intro j u z;rw [kO];simpa using z);(try case z2=>first | rfl | (intro u z;simp at z;subst z;rfl));(try case z3=>unfold maxLen;omega);(try case z4=>omega);(try case z5=>have:=b8.o;first | omega | (simp;omega));intro v' an J U aj;have ao:Below w4.heap.size w4 (w4.alloc (.cells #[.int .i64 (-1)] 3)):=bJ;have ap:=Z (show aW an w0.heap.size 3 1 v' (ids ++ [(-1)]).length ((ids ++ [(-1)]).map (Value.int .i64)) from by rw [dM,kZ,mL];exact J);have aF:=Z ((aE.o.all ao).push (ax.o.alloc _) U J (aj.imp (fun h=>h) fun h k f=>by rw [iD];exact h k f));clear J U aj ao;go_wp2
      go_roundw
      case rel=>exact⟨ids.length+1,al,ids ++ [(-1)],by omega,by go_num,aF.o,av.o,by simp,fun i d=>by
       rcases fT.1 d with d | d
       ·have:=a4.o i d;have:=aJ.o;omega
       ·obtain rfl:=eP.1 d;omega,ap.o⟩
      case measure=>first | (simp [intOf];done) | (simp [intOf];omega)
def szA (L:List Int) (s:Int) (l:List Int):Int:=l.foldl (fun s a=>min (s+nth L a.toNat) 1000000) s
def aLq (L:List Int) (n:aZ):List Int:=L ++ [szA L 1 n.args]
def szs (M:List aZ):List Int:=M.foldl aLq []
theorem aT7 (M:List aZ) (n:aZ):szs (M ++ [n])=szs M ++ [szA (szs M) 1 n.args]:=by unfold szs;rw [vN];rfl
theorem aT8 (c:List Int) (s:Int) (l:List Int) (a:Int):szA c s (l ++ [a])=min (szA c s l+nth c a.toNat) 1000000:=by unfold szA;rw [vN];rfl
theorem aN6 {c:List Int} (d:∀x∈c,0<=x/\x<=1000000):∀(l:List Int) (s:Int),0<=s->s<=1000000->0<=szA c s l/\szA c s l<=1000000
 | [],s,h0,h1=>⟨h0,h1⟩
 |
  a :: l,s,h0,h1=>by
  have f:0<=nth c a.toNat/\nth c a.toNat<=1000000:=by
   by_cases h:a.toNat<c.length
   ·exact d _ (cB h)
   ·unfold nth;rw [iW,vJ (by omega)];simp
  exact aN6 d l (min (s+nth c a.toNat) 1000000) (by omega) (by omega)
theorem aUa:∀(M:List aZ) (c:List Int),(∀x∈c,0<=x/\x<=1000000)->(∀x∈M.foldl aLq c,0<=x/\x<=1000000)/\(M.foldl aLq c).length=c.length+M.length
 | [],c,h=>⟨h,rfl⟩
 |
  n :: M,c,h=>by
  have f:∀x∈aLq c n,0<=x/\x<=1000000:=fun x d=>by
   rcases fT.1 d with d | d
   ·exact h x d
   ·obtain rfl:=eP.1 d;exact aN6 h _ _ (by omega) (by omega)
  have:=aUa M (aLq c n) f;refine⟨this.1,?_⟩;show(M.foldl aLq (aLq c n)).length=_;rw [this.2];unfold aLq;rw [dM,kZ,fQ];omega
theorem aUb (M:List aZ):(∀x∈szs M,0<=x/\x<=1000000)/\(szs M).length=M.length:=by
 have:=aUa M [] (fun x c=>by simp at c);exact⟨this.1,by have:=this.2;simpa [szs] using this⟩
def aW9 (T:aC) (w:World) (e:Ending) (w':World):Prop:=
 ∃a c,e = .returned (.slice a T.nodes.length c)/\aW w' w.heap.size 3 1 (.slice a T.nodes.length c) T.nodes.length ((szs T.nodes).map (Value.int .i64))/\Below w.heap.size w w'
theorem RRd.argsRow {r:Nat} {T:aC} {w:World} (h:RRd r T.nodes w) {k:Nat} (j:k<T.nodes.length):∃b o c g e,w.cell? ⟨r,1,none⟩=some (.slice (some ⟨b,o,none⟩) T.nodes.length c)/\w.cell? ⟨b,o+k * 7+5,none⟩=some (.slice g (nodeAt T k).args.length e)/\jQ w g (nodeAt T k).args.length (nodeAt T k).args:=by
 obtain ⟨m,c,d,f⟩:=h.len;obtain ⟨b,o,_,_,_,_,g,e,rfl,l,i⟩:=f.nodeAt (cR j);exact⟨b,o,c,g,e,d,i 5 _ rfl,l.args.toI⟩
theorem aQ0 (r:Nat) (T:aC) (w:World) (h:RRd r T.nodes w) (N:mD T) (aA:T.nodes.length<=16384) (L:∀x∈T.nodes,x.args.length<=64) :
  Calls prog 68 #[.pointer (some ⟨r,0,none⟩)] w fun e w'=>aW9 T w e w':=by
 have I:=Z h;have ai:=Z N;have ab:=Z L;clear h N L;go_enter func68,ntmps68
 go_wp2
 go_loopw [3,4,5,6] (fun ar D _ _ wr=>∃(i:Nat) (q:Option Addr) (c3:Nat),i<=T.nodes.length/\D = .int .i64 i/\ar = .slice q i c3/\Hid (aW wr w.heap.size 3 1 (.slice q i c3) i ((szs (T.nodes.take i)).map (Value.int .i64)))/\Hid (Below w.heap.size w wr)) (fun _ D _ _ _=>T.nodes.length - (intOf D).toNat)
 case atStart=>exact⟨0,none,0,aN,rfl,rfl,aW.nil _ _ _ _,aO _ _⟩
 case round=>
  obtain ⟨i,q,c3,a6,rfl,rfl,f,d⟩:=hrel;obtain ⟨p,rfl⟩:∃p,p=wr:=⟨_,rfl⟩;by_cases l:i<T.nodes.length
  case neg=>
   obtain rfl:i=T.nodes.length:=by omega
   obtain ⟨av,W,a4,_⟩:=(I.o.all d.o).len;have ah:¬(T.nodes.length:Int)<T.nodes.length:=by omega
   have J:=Z f.o;rw [nA] at J;clear f;go_wp2;go_ret;exact⟨_,_,rfl,J.o,d.o⟩
  case pos=>
   have a7:(i:Int)<T.nodes.length:=by omega
   obtain ⟨ax,aF,W,a0,az,y1,y2,K⟩:=(I.o.all d.o).argsRow l;have aj:=@Z (szs (T.nodes.take (i+1))=szs (T.nodes.take i) ++ [szA (szs (T.nodes.take i)) 1 (nodeAt T i).args]) (by
    have:=cR l;rw [cK l] at this;injection this with this
    rw [jD l,aT7,this])
   have y:=Z (aUb (T.nodes.take i));have ag:=Z (show(T.nodes.take i).length=i by rw [eS];omega);have Y:=Z K;have a1:=ab.o _ (fP (cR l));have aa:=Z (ai.o i _ (cR l));clear K;generalize (nodeAt T i).args=args at *;generalize szs (T.nodes.take i)=c at *;go_wp2
   go_loopw [5,6] (fun au E wr=>∃j:Nat,j<=args.length/\E = .int .i64 j/\au = .int .i64 (szA c 1 (args.take j))/\p=wr) (fun _ E _=>args.length - (intOf E).toNat)
   case atStart=>exact⟨0,aN,rfl,rfl,rfl⟩
   case round=>
    obtain ⟨j,a8,rfl,rfl,rfl⟩:=hrel;by_cases m:j<args.length
    case pos=>
     have a9:(j:Int)<args.length:=by omega
     obtain ⟨aw,aE,rfl,aq⟩:=Y.o.at j m;obtain ⟨G,H⟩:=aa.o (nth args j) (cB m);have A:=@Z (szA c 1 (args.take (j+1))=min (szA c 1 (args.take j)+nth c (nth args j).toNat) 1000000) (by rw [jD m,aT8,cE m]);obtain ⟨t,P⟩:=fK G;rw [P] at aq H A;rw [pX] at A;have ak:t<i:=by omega
     have aB:(t:Int)<i:=H;have C:t<c.length:=by rw [y.o.2,ag.o];exact ak
     obtain ⟨X,ay,al,_,_⟩:=f.o.form (by omega);cases al;have a5:=f.o.cells (g:=X) rfl t (.int .i64 (nth c t)) (by rw [mZ,cK C,cE C];rfl);have a2:=aN6 y.o.1 (args.take j) 1 (by omega) (by omega);have a3:=y.o.1 _ (cB C);clear G P;generalize szA c 1 (args.take j)=s at *;generalize nth c t=z at *;go_wp2
     go_roundw
     case rel=>exact⟨j+1,by omega,by go_num,by rw [A.o] <;> rfl,by first | rfl | trivial⟩
     case measure=>first | (simp [intOf];done) | (simp [intOf];omega)
    case neg=>
     obtain rfl:j=args.length:=by omega
     have ah:¬(args.length:Int)<args.length:=by omega
     rw [nA];obtain ⟨aD,ad,am,an,ao⟩:=info_parts lE;generalize szA c 1 args=s at *
     go_wp2_with (at_builtin;refine cI rfl (.tmp 46) (.tmp 48) rfl underlying23 ad am an ao rfl (by decide) rfl rfl (f.o.alloc _) (Src.one (b:=p.heap.size) (news:=[.int .i64 s]) rfl ?c1) ?c2 ?c3 ?c4 ?c5 ?_)
     (try case c1=>intro j u n;rw [kO];simpa using n);(try case c2=>first | rfl | (intro u n;simp at n;subst n;rfl));(try case c3=>unfold maxLen;omega);(try case c4=>omega);(try case c5=>have:=d.o.size;first | omega | (simp;omega));intro v' Q O M af;have ap:=d.o.size;have S:=Z (show Below w.heap.size w Q from(d.o.alloc d.o.size _).trans ((aO _ _).grown M (by simp;omega) (fun k ae=>(f.o.lt k ae).1)));have F:=Z (show aW Q w.heap.size 3 1 v' (i+1) ((szs (T.nodes.take (i+1))).map (Value.int .i64)) from by rw [aj.o,mL];exact O);obtain ⟨U,V,rfl,_,_⟩:=F.o.slice;clear O M af ap;go_wp2
     go_roundw
     case rel=>exact⟨i+1,U,V,by omega,by go_num,rfl,F.o,S.o⟩
     case measure=>first | (simp [intOf];done) | (simp [intOf];omega)
theorem aQ1 (r:Nat) (T:aC) (w:World) (h:RRd r T.nodes w) (D:mD T) (H:T.nodes.length<=16384) (A:∀x∈T.nodes,x.args.length<=64) :
  Calls prog 17 #[.pointer (some ⟨r,0,none⟩)] w fun e w'=>e = .returned (.bool ((szs T.nodes).all fun x=>decide (x<=1000)))/\Below w.heap.size w w':=by
 have g:=Z (aQ0 r T w h D H A);have l:=Z (aUb T.nodes);clear h D A;go_enter func17,ntmps17
 go_wp2_with fail
 refine g.o.mono ?_;rintro e J ⟨a,c,rfl,y,z⟩;have E:=Z (aW.rdX y (fun x n=>by have:=l.o.1 x n;unfold eI;omega));have q:=Z z;clear y z g;generalize s:szs T.nodes=d at *;have t:=Z s;clear s;go_wp2
 go_loopw [4] (fun p wr=>∃k:Nat,k<=T.nodes.length/\p = .int .i64 k/\Hid (∀j,j<k->nth d j<=1000)/\wr=J) (fun p _=>T.nodes.length - (intOf p).toNat)
 case atStart=>exact⟨0,aN,rfl,fun j f=>absurd f (by omega),rfl⟩
 case round=>
  obtain ⟨k,K,rfl,i,rfl⟩:=hrel;by_cases C:k<T.nodes.length
  case neg=>
   obtain rfl:k=T.nodes.length:=by omega
   have M:¬(T.nodes.length:Int)<T.nodes.length:=by omega
   have m:=Z (show true=d.all (fun x=>decide (x<=1000)) from(oV.2 fun x n=>by
    obtain ⟨j,f,rfl⟩:=gU n;have:=i.o j (by rw [l.o.2] at f;exact f);rw [cE f] at this;exact bV this).symm)
   go_wp2;go_ret;exact⟨aI (by rw [t.o];exact m.o),q.o⟩
  case pos=>
   have L:(k:Int)<T.nodes.length:=by omega
   have G:=Z (show k<d.length by rw [l.o.2];exact C);obtain ⟨b,o,rfl,N⟩:=E.o.at k C;by_cases g:nth d k<=1000
   case pos=>
    have F:=Z (show ∀j,j<k+1->nth d j<=1000 from fun j f=>by
     by_cases e:j=k
     ·rw [e];exact g
     ·exact i.o j (by omega))
    have I:¬1000<nth d k:=by omega
    clear i;go_wp2
    go_roundw
    case rel=>exact⟨k+1,by omega,by go_num,F.o,by first | rfl | trivial⟩
    case measure=>first | (simp [intOf];done) | (simp [intOf];omega)
   case neg=>
    have m:=Z (show false=d.all (fun x=>decide (x<=1000)) from by
     symm
     rw [Bool.eq_false_iff];intro h;have:=oV.1 h _ (cB G.o);exact g (oU this))
    have I:1000<nth d k:=by omega
    go_wp2;go_ret;exact⟨aI (by rw [t.o];exact m.o),q.o⟩
def aXa (T:aC) (w:World) (e:Ending) (w':World):Prop:=
 ∃(L:List Int) (a:Option Addr) (c:Nat),e = .returned (.slice a L.length c)/\aW w' w.heap.size 3 1 (.slice a L.length c) L.length (L.map (Value.int .i64))/\Below w.heap.size w w'/\L.length<=8/\∀x∈L,dH T x=true/\(nodeAt T x).sort=0
theorem aLs (r:Nat) (T:aC) (ids D:List Int) (K L:Option Addr) (f n ci ab:Nat) (w:World) (h:RRd r T.nodes w) (F:jQ w K f ids) (a6:f<=60) (Q:∀i∈ids,-1<=i/\i<(T.nodes.length:Int)) (G:jQ w L n D) (a3:n<=8) :
  Calls prog 18 #[.pointer (some ⟨r,0,none⟩),.slice K f ci,.slice L n ab] w fun e w'=>aXa T w e w':=by
 have ad:=Z h;have af:=Z F;have al:=Z G;have am:=Z Q;have a2:=Z G.len;have ak:=Z F.len;clear h F G Q;go_enter func18,ntmps18
 go_wp2
 go_loopw [7,8,9] (fun au I _ wr=>∃(k:Nat) (c:List Int) (g:Option Addr) (l:Nat),k<=n/\I = .int .i64 k/\au = .slice g c.length l/\c.length<=k/\Hid (aW wr w.heap.size 3 1 (.slice g c.length l) c.length (c.map (Value.int .i64)))/\Hid (Below w.heap.size w wr)/\Hid (∀x∈c,dH T x=true/\(nodeAt T x).sort=0)) (fun _ I _ _=>n - (intOf I).toNat)
 case atStart=>exact⟨0,[],none,0,aN,rfl,rfl,aA,aW.nil _ _ _ _,aO _ _,fun x m=>by simp at m⟩
 case round=>
  obtain ⟨k,c,g,l,N,rfl,rfl,az,q,d,p⟩:=hrel;by_cases ai:k<n
  case neg=>
   have O:¬(k:Int)<n:=by omega
   have a1:decide ((k:Int)<n)=false:=aR O;go_wp2;go_ret;exact⟨c,g,l,rfl,q.o,d.o,by omega,p.o⟩
  case pos=>
   have O:(k:Int)<n:=by omega
   by_cases a4:0<f
   case neg=>
    have A:¬(0:Int)<f:=by omega
    have a5:decide ((0:Int)<f)=false:=aR A;go_wp2;go_ret;exact⟨c,g,l,rfl,q.o,d.o,by omega,p.o⟩
   case pos=>
    have A:(0:Int)<f:=by omega
    obtain ⟨ax,op,rfl,aF⟩:=(al.o.below d.o aA).at k ai;have H:=Z (aIi (nth D k) f wr A (by omega));have z:=aIh (nth D k) f A;obtain ⟨t,S⟩:=fK z.1;rw [S] at H z;have U:t<f:=by omega
    have a9:(t:Int)<f:=z.2;obtain ⟨aw,aH,rfl,aE⟩:=(af.o.below d.o aA).at t U;have an:=am.o _ (cB (show t<ids.length by rw [ak.o];exact U));clear z S;generalize nth D k=aI at *;generalize nth ids t=x at *
    go_wp2_with fail
    refine H.o.mono ?_;rintro e aJ ⟨rfl,rfl⟩;clear H;by_cases V:0<=x
    case neg=>
     have aB:decide (0<=x)=false:=aR V;go_wp2
     go_roundw
     case rel=>exact⟨k+1,c,g,l,by omega,by go_num,rfl,by omega,q.o,d.o,p.o⟩
     case measure=>first | (simp [intOf];done) | (simp [intOf];omega)
    case pos=>
     obtain ⟨j,rfl⟩:=fK V;have ah:j<T.nodes.length:=by omega
     have a0:(j:Int)<T.nodes.length:=an.2;obtain ⟨av,aG,ay,y1,y2⟩:=(ad.o.all d.o).sortCell ah;have E:dH T (j:Int)=true:=cX.2 ⟨by omega,by omega⟩;by_cases y:(nodeAt T (j:Int)).sort=0
     case neg=>
      have a8:decide ((nodeAt T (j:Int)).sort=0)=false:=aR y;have a7:((nodeAt T (j:Int)).sort == 0)=false:=by simpa using y
      generalize (nodeAt T (j:Int)).sort=s at *;clear E;go_wp2
      go_roundw
      case rel=>exact⟨k+1,c,g,l,by omega,by go_num,rfl,by omega,q.o,d.o,p.o⟩
      case measure=>first | (simp [intOf];done) | (simp [intOf];omega)
     case pos=>
      have ae:=Z (show ∀x∈c ++ [(j:Int)],dH T x=true/\(nodeAt T x).sort=0 from fun x m=>by
       rcases fT.1 m with m | m
       ·exact p.o x m
       ·obtain rfl:=eP.1 m;exact⟨E,y⟩)
      rw [y] at y2;obtain ⟨aD,ag,ao,ap,aq⟩:=info_parts lE;clear y E p
      go_wp2_with (at_builtin;refine cI rfl (.tmp 44) (.tmp 46) rfl underlying23 ag ao ap aq rfl (by decide) rfl rfl (q.o.alloc _) (Src.one (b:=wr.heap.size) (news:=[.int .i64 j]) rfl ?c1) ?c2 ?c3 ?c4 ?c5 ?_)
      (try case c1=>intro j u C;rw [kO];simpa using C);(try case c2=>first | rfl | (intro u C;simp at C;subst C;rfl));(try case c3=>unfold maxLen;omega);(try case c4=>omega);(try case c5=>have:=d.o.size;first | omega | (simp;omega));intro v' W P M aj;have ar:=d.o.size;have X:=Z (show Below w.heap.size w W from(d.o.alloc d.o.size _).trans ((aO _ _).grown M (by simp;omega) (fun k N=>(q.o.lt k N).1)));have J:=Z (show aW W w.heap.size 3 1 v' (c ++ [(j:Int)]).length ((c ++ [(j:Int)]).map (Value.int .i64)) from by rw [dM,kZ,mL];exact P);obtain ⟨Y,aa,rfl,_,_⟩:=J.o.slice;clear P M aj ar;go_wp2
      go_roundw
      case rel=>exact⟨k+1,c ++ [(j:Int)],Y,aa,by omega,by go_num,by first | rfl | (congr 1;simp),by simp;omega,J.o,X.o,ae.o⟩
      case measure=>first | (simp [intOf];done) | (simp [intOf];omega)
theorem aN7:∀f∈(T7 10).funs,aBu f.name:=by
 intro f c;have:f∈eC:=c;simp only [eC,mB,List.not_mem_nil,or_false] at this;rcases this with rfl | rfl | rfl | rfl | rfl | rfl | rfl | rfl | rfl | rfl <;> exact⟨by decide +kernel,by decide +kernel⟩
theorem aVx:∀f∈(T7 10).funs,∀k:Int,f.name≠iS k:=fun f d k e=>by
 have c:=(by decide +kernel:∀f∈(T7 10).funs,f.name.data.toList.head? ≠ some 124) f d;rw [e] at c;exact c (by unfold iS;simp)
theorem MdI.start:MdI (T7 10) (jO (T7 10)) 0:=
 ⟨⟨iP.empty 10,⟨fun k i h=>(by cases h),fun j n h=>(by simp [jO] at h),fun n h=>(by simp [jO] at h)⟩,⟨fun k x h=>(by simp [jO] at h),fun x h=>(by simp [jO] at h),fun x h=>(by simp [jO] at h)⟩,aN7⟩,⟨iP.empty 10,fun x h=>(by simp [jO] at h)⟩,aA,rfl,rfl,⟨fun x h=>(by simp [jO] at h),fun x h=>(by simp [jO] at h),by decide +kernel,fun x h=>(by simp [jO] at h)⟩,⟨fun x h=>(by simp [jO] at h),aVx⟩,⟨fun x h=>(by simp [jO] at h)⟩⟩
theorem DcI.X {T:aC} (h:DcI T) (X:Nat->Prop):DcI { T with X:=X }:=⟨fun x d c=>by rw [aA6];exact h.so x d c⟩
theorem aWg {g wc:World} {f:Nat} {v:bS} (h:wc.heap[f]? = some (.cells #[.int .i64 0,.bool false,.bool false,.slice none 0 0,.slice none 0 0,.int .i64 0] 64 (0,0))) (i:g.heap.size<=f) (B:Below g.heap.size g wc) (a:Option Addr) (c:Nat) (b:Option Addr) (d:Nat) :
  (setL f [(0,.int .i64 v.sort),(1,.bool v.bool),(2,.bool v.num.neg),(3,.slice a v.num.num.length c),(4,.slice b v.num.den.length d),(5,.int .i64 v.el)] wc).cell? ⟨f,1,none⟩=some (.bool v.bool)/\Below g.heap.size g (setL f [(0,.int .i64 v.sort),(1,.bool v.bool),(2,.bool v.num.neg),(3,.slice a v.num.num.length c),(4,.slice b v.num.den.length d),(5,.int .i64 v.el)] wc):=by
 refine⟨?_,(dQ (t:=64) (by decide) (by decide) _ _ _ h).2.2 _ _ i B⟩;rw [E (lR _ wc _ h)];simp only [tD,pJ];simp
theorem aUc {bs:List Bool} {j:Nat} (h:j<bs.length):(bs.take (j+1)).all id=((bs.take j).all id && bs.getD j false):=by
 rw [jD h,aCu,iW,cK h];simp
theorem aWh {T:aC} (h:wU T) (X:Nat->Prop):wU { T with X:=X }:=⟨fun x d c=>by rw [aA6];exact h.so x d c,h.sb,h.fb,h.vl⟩
theorem aWi (T:aC) (X:Nat->Prop):xE T { T with X:=X }:=⟨⟨[],by simp⟩,fun _ _=>rfl,rfl⟩
theorem iH.mem {T:aC} {op:Int} {l:List (Int × Int)} {ks:List Int} (h:iH T op l ks):∀x∈ks,dH T x=true:=fun x f=>by
 obtain ⟨j,c,rfl⟩:=gU f;obtain ⟨p,_,d⟩:=h.at j c;rw [<-cE c];exact d.has.1
structure aXb (U:aC) (k:Int) (ks:List Int):Prop where
 has:∀x∈ks,dH U x=true
 no:¬dD (nodeAt U k).op->ks.length=1/\nth ks 0=k
 two:dD (nodeAt U k).op->(nodeAt U k).args.length=2->ks.length=1
 adj:dD (nodeAt U k).op->(nodeAt U k).op≠9->2<(nodeAt U k).args.length->ks.length+1=(nodeAt U k).args.length
 all:(nodeAt U k).op=9->2<(nodeAt U k).args.length->2 * ks.length=(nodeAt U k).args.length * ((nodeAt U k).args.length - 1)
 le:dD (nodeAt U k).op->2<=(nodeAt U k).args.length
 li:dD (nodeAt U k).op->∀j,j<ks.length->((nodeAt U k).op=9->(nodeAt U (nth ks j)).op=3)/\((nodeAt U k).op≠9->(nodeAt U (nth ks j)).op≠3/\(nodeAt U (nth ks j)).args.length=2)
theorem aVy {d:aC} (q:aAn d) {k:Int} (r:dH d k=true) {ks:List Int} (t:qP (nodeAt d k)->iH d (nodeAt d k).op (eL (nodeAt d k).op (nodeAt d k).args) ks) (y:¬qP (nodeAt d k)->ks = [k]):aXb d k ks:=by
 have s:=fun f=>(aEz q.si r q.ti.ok.ord f).1
 by_cases l:qP (nodeAt d k)
 ·have o:=t l;have m:=o.len;refine⟨o.mem,fun g=>absurd l.1 g,fun _ h=>?_,fun _ c D=>?_,fun c _=>?_,s,fun f j n=>?_⟩
  ·have c:(nodeAt d k).op=9:=Decidable.byContradiction fun c=>l.2 ⟨h,c⟩
   rw [c] at m;have:=wO (nodeAt d k).args;rw [h] at this;omega
  ·rw [m,aBj c];omega
  ·rw [c] at m;rw [m];exact wO _
  ·obtain ⟨p,_,i⟩:=o.at j n;unfold qO at i;constructor
   ·intro c;rw [if_pos c] at i;obtain ⟨_,_,_,_,h,_⟩:=i;exact h
   ·intro c;rw [if_neg c] at i;have:=i.op;refine⟨?_,by rw [i.args];rfl⟩;unfold dD at f;omega
 ·have A:=y l;subst A;have g:dD (nodeAt d k).op->(nodeAt d k).args.length=2/\(nodeAt d k).op≠9:=fun f=>Decidable.byContradiction fun h=>l ⟨f,h⟩
  refine⟨fun x C=>by rw [eP.1 C];exact r,fun _=>⟨rfl,rfl⟩,fun _ _=>rfl,fun f _ h=>by have:=(g f).1;omega,fun c _=>absurd c (g (by rw [c];unfold dD;omega)).2,s,fun f j n=>?_⟩;have z:j=0:=by simpa using n
  subst z;have e:nth [k] 0=k:=rfl;rw [e];refine⟨fun c=>absurd c (g f).2,fun _=>⟨?_,(g f).1⟩⟩;unfold dD at f;omega
theorem aVz {c:aC} (n:aAn c) {m:gL} {k:Int} (h:dH c k=true) {ks:List Int} (q:qP (nodeAt c k)->iH c (nodeAt c k).op (eL (nodeAt c k).op (nodeAt c k).args) ks) (r:¬qP (nodeAt c k)->ks = [k]) {v:bS} (l:ev m c k=some v) (y:v.sort=0) :
  ∃bs:List Bool,bs.length=ks.length/\(∀j,j<ks.length->aBi (mG m c (nth ks j))=bs.getD j false)/\v.bool=bs.all id:=by
 have g:=n.ti.ok.ord;by_cases f:qP (nodeAt c k)
 ·have i:=q f;obtain ⟨bs,o,b2,p⟩:=aN3 g h f.1 i l;exact⟨bs,o,fun j d=>aAl g (i.mem _ (cB d)) (b2 j d) rfl,by rw [p];rfl⟩
 ·have t:=r f;subst t;refine⟨[v.bool],rfl,fun j d=>?_,by simp⟩;have s:j=0:=by simpa using d
  subst s;exact aAl g h l y
theorem aCa (a:Option Addr) (n c:Nat) (xs:List uD) (aL:Int) (ch:Option Addr) (al bw:Nat) (ws:List Int) (w:World) (dT:lF w) (I:bT rF (fun _=>True) w a n xs) (gd:n<=c/\c<=9223372036854775807) (e3:eI aL) (eo:jQ w ch al ws) (fF:al<=bw/\bw<=9223372036854775807) :
  Calls prog 10 #[.slice a n c,.int .i64 aL,.slice ch al bw] w fun e w'=>e = .returned (.bool true)/\Below w.heap.size w w':=by
 have ef:=Z (aQy a n c xs w I (by omega));have dU:=Z dT;have e2:=Z I;have ep:=Z eo;have fw:=Z e3;clear dT I eo e3;go_enter func10,ntmps10
 go_wp2_with fail
 refine ef.o.mono ?_;rintro e Y ⟨t,rfl,et,aT⟩;have ad:=Z aT;have bn:=Z (dU.o.all aT);have cb:=Z (e2.o.below aT aA);have P1:=Z (ep.o.below aT aA);have cJ:=Z et;clear aT et ef dU e2 ep;have a6:=Z (fun(W:World) (bd:Below Y.heap.size Y W)=>aLj W (bn.o.all bd));cases t
 case false=>
  have ag:=Z (a6.o Y (aO _ _))
  go_wp2_with fail
  refine ag.o.mono ?_;rintro e dr ⟨rfl,b2⟩;have bG:=Z (aG ad b2);clear b2;go_wp2;go_ret;exact⟨rfl,bG.o⟩
 case true=>
  by_cases fQ:al<=60
  case neg=>
   have dS:(60:Int)<al:=by omega
   have ag:=Z (a6.o Y (aO _ _))
   go_wp2_with fail
   refine ag.o.mono ?_;rintro e dr ⟨rfl,b2⟩;have bG:=Z (aG ad b2);clear b2;go_wp2;go_ret;exact⟨rfl,bG.o⟩
  case pos=>
  have dS:¬(60:Int)<al:=by omega
  have fR:decide ((60:Int)<al)=false:=aR dS;have fu:=(cJ.o rfl).1;have eu:=Z (cJ.o rfl).2;have em:n<=60:=by have:=cb.o.1;omega
  have ev:=Z (aFf Y bn.o.env);clear cJ fu
  go_wp2_with fail
  refine ev.o.mono ?_;rintro e dr ⟨p,r,q,rfl,V⟩;have el:=Z (aN5 bn.o p r q (T7 10) (jO (T7 10)) xs a n c dr V MdI.start (cb.o.mono fun b bd _=>bd) eu.o em);clear V ev
  go_wp2_with fail
  refine el.o.mono ?_;rintro e aJ ⟨T,ids,v,rfl,dX,af,fi,cE,cy⟩;have L:=Z dX;have a0:=Z (show dR { T with X:=kI v } from⟨af.g.ok.X _,af.g.ng⟩);have fg:({ T with X:=kI v }:aC).nodes.length<=60:=aH af.len em;have dH:=Z (show aAn { T with X:=kI v } from⟨af.ti.X (kI v),aWh af.si (kI v),af.dc.X (kI v)⟩);have dx:=Z (show({ T with X:=kI v }:aC).S.funs=eC from by show T.S.funs=eC;rw [af.s];rfl);obtain ⟨cg,cp,rfl,_,_⟩:=cy.slice;have dA:=Z (aW.rdX cy (fun x I=>by have:=cE x I;have:=af.g.ok.sm.le;unfold eI;omega));have d1:=Z (show ∀i∈ids,-1<=i/\i<(({ T with X:=kI (.slice cg ids.length cp) }:aC).nodes.length:Int) from cE);have fj:ids.length<=60:=by omega
  clear dX af fi cE cy el eu cb;generalize ({ T with X:=kI (.slice cg ids.length cp) }:aC)=T' at *;clear T;obtain ⟨T,rfl⟩:∃T,T=T':=⟨_,rfl⟩;have br:Below aJ.heap.size aJ (aJ.alloc (.cells #[.int .i64 aL] 3)):=bJ;have ec:=Z (aLs r T ids [aL] cg (some ⟨aJ.heap.size,0,none⟩) ids.length 1 cp 1 (aJ.alloc (.cells #[.int .i64 aL] 3)) (L.o.m.rd.all br) (dA.o.below br aA) fj d1.o (jQ.lit [aL] 3 aJ (fun x I=>by rw [eP.1 I];exact fw.o)) (by decide));have bI:=Z br;clear br
  go_wp2_with fail
  refine ec.o.mono ?_;rintro e ds ⟨O,fH,fL,rfl,dW,aU,fT,dV⟩;have aP:=Z (aG bI aU);have bQ:=Z (dW.lower bI.o.size);have bO:=Z dV;have bZ:=Z (L.o.all aP.o);clear dW aU dV ec dA d1 bI;by_cases fm:O.length=0
  case pos=>
   have cA:(O.length:Int)=0:=by omega
   have fo:((O.length:Int) == 0)=true:=by rw [cA];rfl
   have ag:=Z (a6.o ds (L.o.st.b.trans (aP.o.mono L.o.st.b.size)))
   go_wp2_with fail
   refine ag.o.mono ?_;rintro e dt ⟨rfl,aq⟩;have eD:=Z (ad.o.trans ((L.o.st.b.trans ((aG aP aq).mono L.o.st.b.size)).mono ad.o.size));clear aq;go_wp2;go_ret;exact⟨rfl,eD.o⟩
  case neg=>
  have cA:¬(O.length:Int)=0:=by omega
  have fo:((O.length:Int) == 0)=false:=yQ.2 cA;have es:=Z (aQ1 r T ds bZ.o.m.rd a0.o.ok.ord (by omega) (fun x I=>(a0.o.ng x I).args));generalize ((szs T.nodes).all fun x=>decide (x<=1000))=f3 at *
  go_wp2_with fail
  refine es.o.mono ?_;rintro e dt ⟨rfl,aq⟩;have bK:=Z (aG aP aq);have bp:=Z (bQ.o.same fun k bj=>aq.block k (bQ.o.lt k bj).2);have ca:=Z (bZ.o.all aq);clear aq es bQ bZ aP;cases f3
  case false=>
   have ag:=Z (a6.o dt (L.o.st.b.trans (bK.o.mono L.o.st.b.size)))
   go_wp2_with fail
   refine ag.o.mono ?_;rintro e ds ⟨rfl,aU⟩;have eB:=Z (ad.o.trans ((L.o.st.b.trans ((aG bK aU).mono L.o.st.b.size)).mono ad.o.size));clear aU;go_wp2;go_ret;exact⟨rfl,eB.o⟩
  case true=>
  have cD:0<O.length:=by omega
  have gc:(0:Int)<O.length:=by omega
  obtain ⟨a7,cI⟩:=bO.o _ (cB cD);obtain ⟨aY,b0⟩:=cX.1 a7;obtain ⟨k,bj⟩:=fK aY;have cG:∀x∈O,eI x:=fun x I=>by have:=cX.1 (bO.o x I).1;unfold eI;omega
  obtain ⟨bl,e7,b6,cO⟩:=(aW.rdX bp.o cG).at 0 cD;subst b6;rw [bj] at a7 cI b0 cO;rw [cU] at cO;have c9:k<T.nodes.length:=by omega
  have bf:=aBh bn.o p T.X T k dt ca.o.st a0.o c9;obtain ⟨ks,C,U,au,bx,dN,dO,dP⟩:=aT5 dH.o (by omega) a7 (a0.o.at c9).args;have bi:=aEu a0.o (k:Int);rw [U] at bi;unfold nV at bf;rw [U] at bf;dsimp only at bf bi;have ed:=Z bf;have bo:xE T { C with X:=T.X }:=au.trans (aWi C T.X);have b9:=bo.node a7;have c1:=bo.has a7;have a1:=Z (show dR { C with X:=T.X } from⟨bi.ok.X _,bi.ng⟩);have ai:=Z (show aAn { C with X:=T.X } from⟨bx.ti.X _,aWh bx.si _,bx.dc.X _⟩);have dE:=Z (show({ C with X:=T.X }:aC).S.funs=eC from by rw [bo.s];exact dx.o);have d6:=Z (show({ C with X:=T.X }:aC).nodes.length<=5000 from dN);have bM:=Z (show qP (nodeAt { C with X:=T.X } (k:Int))->iH { C with X:=T.X } (nodeAt { C with X:=T.X } (k:Int)).op (eL (nodeAt { C with X:=T.X } (k:Int)).op (nodeAt { C with X:=T.X } (k:Int)).args) ks from fun av=>by rw [b9] at av ⊢;exact(dO av).ext (aWi C T.X));have bN:=Z (show ¬qP (nodeAt { C with X:=T.X } (k:Int))->ks = [(k:Int)] from fun av=>dP (by rw [b9] at av;exact av));have dg:=Z (show(nodeAt { C with X:=T.X } (k:Int)).sort=0 from by rw [b9];exact cI);have aQ:=Z c1;have N:=Z (aVy ai.o c1 bM.o bN.o);have c8:=Z (fun(W:World) (R:jQ W (some ⟨bl,e7,none⟩) O.length O)=>(show W.cell? ⟨bl,e7,none⟩=some (.int .i64 k) from by
   obtain ⟨b,o,e,h⟩:=R.at 0 cD;injection e with e
   injection e with U au _
   subst U au;rw [bj,cU] at h;exact h))
  have en:=Z cG;clear bf U au bx dN dO dP bo b9 c1 bi cI cG aY bj
  go_wp2_with fail
  refine ed.o.mono ?_;rintro e eA ⟨fG,fJ,rfl,e6,di,dj⟩;have bY:=Z di;have d7:=Z (bp.o.same fun q bA=>ca.o.st.t.dat dj (bp.o.dat q bA));have d8:=Z (P1.o.below di.b aA);have dv:=Z e6;have gh:=Z dj.size;clear e6 di dj ed ca bp bK P1 dH dx bO cO fm a7;generalize c0:({ C with X:=T.X }:aC)=y at *;have eM:=Z (show y.S.funs=eC from by rw [<-c0];exact dE.o);have d5:=Z (show y.nodes.length<=5000 from by rw [<-c0];exact d6.o);clear c0 dE d6 L a0 fg c9 b0;have bW:=Z (aW.rdX d7.o en.o);have c7:=Z (show k<y.nodes.length from by have:=(cX.1 aQ.o).2;omega);have db:∀x∈ks,eI x:=fun x I=>by have:=cX.1 (N.o.has x I);have:=d5.o;unfold eI;omega
  have dB:=Z (aW.rdX dv.o db);have ft:=Z db;have fx:=c8.o eA bW.o;have ax:=Z (zY Y.heap.size p y k eA bY.o.t c7.o a1.o.ok.sn);have fv:=Z (fun av=>N.o.two av);have eH:=N;have cL:=Z (show(nodeAt y (k:Int)).op<=20 from by
   by_cases eZ:(nodeAt y (k:Int)).op=12
   ·omega
   ·have:=(aOy ai.o.si aQ.o eZ).2.1;unfold eN at this;simp at this;omega)
  have b5:=Z (a1.o.at c7.o).args;obtain ⟨x,cM⟩:∃x,nodeAt y (k:Int)=x:=⟨_,rfl⟩;have eK:=Z cM;have aX:=Z N.o.no;have bv:=Z N.o.two;have bt:=Z N.o.adj;have call:=Z N.o.all;have bu:=Z N.o.le;have co:=Z N.o.li;rw [cM] at ax cL b5 dg aX bv bt call bu co;clear fv eH cM dv d7 db en;obtain ⟨op,nm,⟨cT,cZ,cu⟩,args,df⟩:=x;dsimp only at cL b5 dg aX bv bt call bu co
  go_wp2_with fail
  refine ax.o.mono ?_;rintro e aK ⟨cf,cn,cj,cr,b3,bz,rfl,f0,c5⟩;have eb:Below aK.heap.size aK (aK.alloc (.cells #[.int .i64 op,.string nm,.bool cT,.slice cf cZ.length cn,.slice cj cu.length cr,.slice b3 args.length bz,.int .i64 df] 38)):=bJ;have bq:=Z (cC aK (.cells #[.int .i64 op,.string nm,.bool cT,.slice cf cZ.length cn,.slice cj cu.length cr,.slice b3 args.length bz,.int .i64 df] 38));have bm:=Z (c5.trans (eb.mono c5.size));clear f0 c5 eb ax
  go_upto_region 15 with fail
  generalize (aK.alloc (.cells #[.int .i64 op,.string nm,.bool cT,.slice cf cZ.length cn,.slice cj cu.length cr,.slice b3 args.length bz,.int .i64 df] 38))=du at *;generalize aK.heap.size=dd at *;have y0:du.cell? ⟨dd,0,none⟩=some (.int .i64 op):=E bq.o 0;have y5:du.cell? ⟨dd,5,none⟩=some (.slice b3 args.length bz):=E bq.o 5;obtain ⟨Q,ee⟩:∃b:Bool,decide (dD op)=b:=⟨_,rfl⟩;have aw:=Z ee;clear ee
  go_cut [17] from 79 to 91 (fun f6 wc=>f6 = .bool Q/\wc=du)
  case first=>
   have fa:=cL.o;by_cases a5:op=8
   ·have e:Q=true:=by rw [<-aw.o];exact bV (by unfold dD;omega)
    have fS:decide (op=8)=true:=bV a5;have fd:(op == 8)=true:=by simpa using a5
    subst e;clear a5;go_wp2;go_meet
    case rel=>exact⟨rfl,rfl⟩
   ·have fd:(op == 8)=false:=by simpa using a5
    by_cases f:op=9
    ·have e:Q=true:=by rw [<-aw.o];exact bV (by unfold dD;omega)
     have aZ:(op == 9)=true:=by simpa using f
     subst e;clear a5 f;go_wp2;go_meet
     case rel=>exact⟨rfl,rfl⟩
    ·have aZ:(op == 9)=false:=by simpa using f
     have e:decide (17<=op)=Q:=by
      rw [<-aw.o];by_cases h:17<=op
      ·rw [bV h];exact(bV (by unfold dD;omega)).symm
      ·rw [aR h];exact(aR (by unfold dD;omega)).symm
     clear a5 f fa;go_wp2;go_meet
     case rel=>exact⟨rfl,rfl⟩
  case rest=>
   obtain ⟨rfl,rfl⟩:=hcut;obtain ⟨aa,rfl⟩:∃W,W=wc:=⟨_,rfl⟩
   go_upto_region 16 with fail
   go_cut [98] from 92 to 98 (fun fB ab=>fB = .bool (Q && decide ((2:Int)<args.length))/\ab=aa)
   case first=>
    obtain ⟨b2,b7⟩:∃b:Bool,decide ((2:Int)<args.length)=b:=⟨_,rfl⟩;cases Q
    case false=>
     go_wp2;go_meet
     case rel=>exact⟨rfl,rfl⟩
    case true=>
     go_wp2;go_meet
     case rel=>exact⟨by rw [b7];rfl,rfl⟩
   case rest=>
   obtain ⟨rfl,rfl⟩:=hcut;obtain ⟨aa,rfl⟩:∃W,W=wc:=⟨_,rfl⟩;obtain ⟨f2,bk⟩:∃b:Bool,(Q && decide ((2:Int)<args.length))=b:=⟨_,rfl⟩;have eq:=Z bk;rw [bk];clear bk
   go_upto_if 98 with fail
   go_cut [16] from 99 to 114 (fun f5 ab=>f5 = .int .i64 ks.length/\ab=aa)
   case first=>
    cases f2
    case false=>
     have U:ks.length=1:=by
      have h:=eq.o;by_cases H:dD op
      ·have e:Q=true:=by rw [<-aw.o];exact bV H
       rw [e,eT] at h;have V:=aGy h;exact bv.o H (by have:=bu.o H;omega)
      ·exact(aX.o H).1
     have c6:=Z (show Value.int .i64 1=Value.int .i64 (ks.length:Int) from by rw [U];rfl);clear U;go_wp2;go_meet
     case rel=>exact⟨c6.o,rfl⟩
    case true=>
     have h:=eq.o;rw [jS] at h;have H:=Z (show dD op from oU (by rw [aw.o];exact h.1));have b4:(2:Int)<args.length:=oU h.2;have V:2<args.length:=by omega
     clear h;have cx:=b5.o;have ge:IntKind.i64.wrap ((args.length:Int) - 1)=((args.length - 1:Nat):Int):=by rw [show((args.length:Int) - 1)=((args.length - 1:Nat):Int) by omega];exact qV _ ⟨by omega,by omega⟩
     by_cases f:op=9
     case neg=>
      have aZ:(op == 9)=false:=by simpa using f
      have c6:=Z (show Value.int .i64 ((args.length - 1:Nat):Int)=Value.int .i64 (ks.length:Int) from by rw [show args.length - 1=ks.length from by have:=bt.o H.o f V;omega]);go_wp2;go_meet
      case rel=>exact⟨c6.o,rfl⟩
     case pos=>
      have aZ:(op == 9)=true:=by simpa using f
      have b6:=call.o f V;have fp:args.length * (args.length - 1)<=64 * 63:=zD cx (by omega);have a8:(args.length:Int) * ((args.length - 1:Nat):Int)=((args.length * (args.length - 1):Nat):Int):=by rw [Int.natCast_mul]
      have gf:IntKind.i64.wrap ((args.length:Int) * ((args.length - 1:Nat):Int))=((2 * ks.length:Nat):Int):=by rw [a8,<-b6];exact qV _ ⟨by omega,by omega⟩
      have bA:(((2 * ks.length:Nat):Int)).tdiv 2=(ks.length:Int):=by rw [aAp (by omega)];omega
      have gg:IntKind.i64.wrap (ks.length:Int)=(ks.length:Int):=qV _ ⟨by omega,by omega⟩;clear b6 fp a8 f;go_wp2;go_meet
      case rel=>exact⟨rfl,rfl⟩
   case rest=>
    obtain ⟨rfl,rfl⟩:=hcut;obtain ⟨aa,rfl⟩:∃W,W=wc:=⟨_,rfl⟩;have bS:=Z (dB.o.below bm.o aA);have bX:=Z (bW.o.below bm.o aA);have dG:=Z (bY.o.all bm.o);have d9:=Z (d8.o.below bm.o aA);have fy:=c8.o aa bX.o;clear y0 y5 dB bW bY d8 fx
    go_upto_region 20 with fail
    go_cut [135] from 115 to 135 (fun f4 ab=>f4 = .bool false/\∃q,ab=aa.drewN q)
    case first=>
     have gb:((ks.length:Int) != (ks.length:Int))=false:=by simp
     have ga:decide ((ks.length:Int)=(ks.length:Int))=true:=bV rfl;cases Q
     case false=>
      obtain ⟨U,au⟩:=aX.o (aGy aw.o);obtain ⟨eS,f1,rfl,bC⟩:=bS.o.at 0 (by omega);rw [au,cU] at bC;have fN:(0:Int)<ks.length:=by omega
      have fZ:((k:Int) != (k:Int))=false:=by simp
      have fY:decide ((k:Int)=(k:Int))=true:=bV rfl;clear U au
      go_quiet (fail)
      go_wp2;go_meet
      case rel=>exact⟨rfl,_,rfl⟩
     case true=>
      go_quiet (fail)
      go_wp2;go_meet
      case rel=>exact⟨rfl,_,rfl⟩
    case rest=>
    obtain ⟨rfl,e9,rfl⟩:=hcut;have cm:Below aa.heap.size aa (aa.drewN e9):=(aO _ _).drewN _;have e1:=Z (aLl ch al bw ws (aa.drewN e9) (d9.o.below cm aA) (by omega));have bH:=Z cm;clear cm fy
    go_wp2_with fail
    refine e1.o.mono ?_;rintro e az ⟨z,J,K,rfl,bR,d3,dy,cl⟩;have bP:=Z d3;have eJ:=Z dy;obtain ⟨_,_,fs,ej,ek⟩:=bR.slice;injection fs with h1 V ae
    subst h1 ae;have a2:Below az.heap.size az (az.alloc (.cells #[.slice J z.length K] 71)):=bJ;have cd:=Z (cC az (.cells #[.slice J z.length K] 71));have P:=Z (show yB (fun _=>True) (az.alloc (.cells #[.slice J z.length K] 71)) z J K from⟨(bR.read (S':=fun _=>True) (fun _ _ _=>trivial) (fun _ _=>trivial)).below a2 aA,ej,ek⟩);have aM:=Z (bH.o.trans ((cl.trans (a2.mono cl.size)).mono bH.o.size));clear bR d3 dy cl a2 ej ek e1
    go_upto_region 23 with fail
    generalize az.alloc (.cells #[.slice J z.length K] 71)=F at *;generalize az.heap.size=pm at *;have dK:F.cell? ⟨pm,0,none⟩=some (.slice J z.length K):=E cd.o 0;have ao:=Z (dG.o.all aM.o);have dI:=Z (bD aM.o bq.o);have dC:=Z (bS.o.below aM.o aA);have e5:=c8.o F (bX.o.below aM.o aA);have d2:=Z ao.o.t.limbs;have bE:=Z (aW4 ai.o.si);have eh:=Z (show eI (k:Int) from by have:=c7.o;have:=d5.o;unfold eI;omega);have bB:=Z (aKx (m:=z) ai.o.ti ai.o.si d2.o aQ.o (aTo ai.o.dc ai.o.ti.ok.ord eM.o eJ.o aQ.o));clear bq dG bS bX d9 bH d2
    go_cut [19,20] from 138 to 146 (fun f8 f9 ab=>∃ay:Nat,f8 = .pointer (some ⟨ay,0,none⟩)/\f9 = .int .i64 (mG z y (k:Int)).2/\(ab.cell? ⟨ay,1,none⟩=some (.bool (mG z y (k:Int)).1.bool)/\Below F.heap.size F ab))
    case first=>
     clear bB;refine bF (S:=fun W=>Below F.heap.size F W) 11 (by kernel_rfl) (by kernel_rfl) (aF F) (fun hdr=>?_);have d:=Z (show Below F.heap.size F F.drew from aF F);generalize F.drew=wc at *;refine aE 0 ?_;refine dF 1 (fun W h=>aB h dK) ?_;refine aE 2 ?_;refine aE 3 ?_;refine dF 4 (fun W h=>aB h e5) ?_;refine gW (rs:=[5,9]) (by decide +kernel) (cQ (by rfl) (fun G l=>?_) (cQ (by rfl) (fun G l=>?_) gV))
     ·skip
      have bg:=aBd Y.heap.size p y z J K (k:Int) wc (ao.o.all d.o).t a1.o bE.o ⟨P.o.tbs.below d.o aA,P.o.cap⟩ bP.o eh.o;have bh:=Z bg;clear bg;go_simp
      go_at_call 35
      refine bh.o.mono ?_;rintro dQ ah cz;generalize mG z y (k:Int)=R at *;obtain ⟨⟨de,ck,⟨cS,dk,ct⟩,cw⟩,er⟩:=R;obtain ⟨dm,dp,dn,dq,rfl,_,A⟩:=cz;(try have M:=Z (bD A M.o));have d:=Z (aG d A);clear A bh;obtain ⟨wc,rfl⟩:∃W,W=ah:=⟨_,rfl⟩;(try dsimp only);refine l.out _ _ (by(exact d.o)) (fun hHeld2=>?_);clear l G;(try simp only [Act.put,sA,sB,sC]);refine aE 6 ?_;refine aE 7 ?_;refine aE 8 ?_;refine aV 9 fun G l=>?_;go_simp;have A:Below wc.heap.size wc (wc.alloc (.cells #[.int .i64 0,.bool false,.bool false,.slice none 0 0,.slice none 0 0,.int .i64 0] 64)):=bJ;have M:=Z (cC wc (.cells #[.int .i64 0,.bool false,.bool false,.slice none 0 0,.slice none 0 0,.int .i64 0] 64));have cH:=Z (show F.heap.size<=wc.heap.size from d.o.size);have d:=Z (aG d A);generalize cK:wc.alloc (.cells #[.int .i64 0,.bool false,.bool false,.slice none 0 0,.slice none 0 0,.int .i64 0] 64)=ah at *;clear cK A;generalize wc.heap.size=ay at *;obtain ⟨wc,rfl⟩:∃W,W=ah:=⟨_,rfl⟩;(try dsimp only);refine l.out _ _ (by(exact d.o)) (fun hHeld3=>?_);clear l G;refine aV 10 fun G l=>?_;obtain ⟨fE,z1,z2,z3,z4,z5⟩:=gC M.o;obtain ⟨eU,eV,a4,eW,eX,eY⟩:=jC M.o;have ba:=aWg (v:=⟨de,ck,⟨cS,dk,ct⟩,cw⟩) M.o cH.o d.o dm dp dn dq;go_simp;refine l.out _ _ (by(exact ba.2)) (fun hHeld4=>?_);clear l G;(try simp only [Act.put,sA,sB,sC]);refine cF (by decide +kernel) ?_;simp only [dL,cW];go_wp2;go_meet
      case rel=>exact⟨ay,rfl,rfl,ba⟩
     ·skip
      go_simp;have A:Below wc.heap.size wc (wc.alloc (.cells #[.int .i64 0,.bool false,.bool false,.slice none 0 0,.slice none 0 0,.int .i64 0] 64)):=bJ;have M:=Z (cC wc (.cells #[.int .i64 0,.bool false,.bool false,.slice none 0 0,.slice none 0 0,.int .i64 0] 64));have cH:=Z (show F.heap.size<=wc.heap.size from d.o.size);have d:=Z (aG d A);generalize cK:wc.alloc (.cells #[.int .i64 0,.bool false,.bool false,.slice none 0 0,.slice none 0 0,.int .i64 0] 64)=ah at *;clear cK A;generalize wc.heap.size=ay at *;obtain ⟨wc,rfl⟩:∃W,W=ah:=⟨_,rfl⟩;(try dsimp only);refine l.out _ _ (by(exact d.o)) (fun hHeld2=>?_);clear l G;refine aV 5 fun G l=>?_;have bg:=aBd Y.heap.size p y z J K (k:Int) wc (ao.o.all d.o).t a1.o bE.o ⟨P.o.tbs.below d.o aA,P.o.cap⟩ bP.o eh.o;have bh:=Z bg;clear bg;go_simp
      go_at_call 35
      refine bh.o.mono ?_;rintro dQ ah cz;generalize mG z y (k:Int)=R at *;obtain ⟨⟨de,ck,⟨cS,dk,ct⟩,cw⟩,er⟩:=R;obtain ⟨dm,dp,dn,dq,rfl,_,A⟩:=cz;(try have M:=Z (bD A M.o));have d:=Z (aG d A);clear A bh;obtain ⟨wc,rfl⟩:∃W,W=ah:=⟨_,rfl⟩;(try dsimp only);refine l.out _ _ (by(exact d.o)) (fun hHeld3=>?_);clear l G;(try simp only [Act.put,sA,sB,sC]);refine aE 6 ?_;refine aE 7 ?_;refine aE 8 ?_;refine aV 10 fun G l=>?_;obtain ⟨fE,z1,z2,z3,z4,z5⟩:=gC M.o;obtain ⟨eU,eV,a4,eW,eX,eY⟩:=jC M.o;have ba:=aWg (v:=⟨de,ck,⟨cS,dk,ct⟩,cw⟩) M.o cH.o d.o dm dp dn dq;go_simp;refine l.out _ _ (by(exact ba.2)) (fun hHeld4=>?_);clear l G;(try simp only [Act.put,sA,sB,sC]);refine cF (by decide +kernel) ?_;simp only [dL,cW];go_wp2;go_meet
      case rel=>exact⟨ay,rfl,rfl,ba⟩
    case rest=>
    obtain ⟨ay,rfl,rfl,a3,ar⟩:=hcut;have eG:=Z ar;have eQ:=Z (bD ar cd.o);have eO:=Z (bD ar dI.o);have bU:=Z (dC.o.below ar aA);have aS:=Z (ao.o.all ar);have d4:=Z (show yB (fun _=>True) wc z J K from⟨P.o.tbs.below ar aA,P.o.cap⟩);have dw:=Z (ad.o.trans (aS.o.b.mono ad.o.size));have fh:=Z (fun(W:World) (bd:Below wc.heap.size wc W)=>a6.o W (aS.o.b.trans (bd.mono aS.o.b.size)));clear ar cd dI dC ao P eG dK e5 aM a6 ad;rcases bB.o with ⟨v,ey,aD,ez⟩ | ⟨_,aD⟩
    case inr=>
     rw [aD] at a3;rw [aD];dsimp only;clear a3 bB;go_wp2;go_ret;exact⟨rfl,dw.o⟩
    case inl=>
    rw [aD] at a3;rw [aD];dsimp only at a3 ⊢;have e0:v.sort=0:=by rw [ez.so,eK.o];exact dg.o
    obtain ⟨bs,dZ,b7,ea⟩:=aVz ai.o aQ.o bM.o bN.o ey e0;have bL:=Z dZ;have dz:=Z b7;have d0:=Z ea;clear bB ey aD ez e0 dZ b7 ea bM bN;have fX:ks.length<=5000:=by
     by_cases H:dD op
     ·have V:=bu.o H;have cx:=b5.o;by_cases fl:args.length=2
      ·have:=bv.o H fl;omega
      ·by_cases f:op=9
       ·have h:=call.o f (by omega);have:args.length * (args.length - 1)<=64 * 63:=zD cx (by omega);omega
       ·have:=bt.o H f (by omega);omega
     ·have:=(aX.o H).1;omega
    go_wp2
    go_loopw [21,22,23,24] (fun fA dl _ _ wr=>∃j:Nat,j<=ks.length/\dl = .int .i64 j/\fA = .bool ((bs.take j).all id)/\Hid (Below wc.heap.size wc wr)) (fun _ dl _ _ _=>ks.length - (intOf dl).toNat)
    case atStart=>exact⟨0,aN,rfl,rfl,aO _ _⟩
    case round=>
     obtain ⟨j,fV,rfl,rfl,aj⟩:=hrel;by_cases ak:j<ks.length
     case neg=>
      obtain rfl:j=ks.length:=by omega
      have fk:¬(ks.length:Int)<ks.length:=by omega
      have fM:=aB aj.o a3;have a9:(bs.take ks.length).all id=v.bool:=by rw [<-bL.o,nA,d0.o]
      rw [a9];have fU:(v.bool == v.bool)=true:=by simp
      have ag:=Z (fh.o wr aj.o);have eE:=Z (aG dw aj.o);clear a9 bL dz d0 a3
      go_wp2_with fail
      refine ag.o.mono ?_;rintro e gj ⟨rfl,dJ⟩;have eF:=Z (aG eE dJ);clear dJ;go_wp2;go_ret;exact⟨rfl,eF.o⟩
     case pos=>
      have fk:(j:Int)<ks.length:=by omega
      have c3:=aUc (bs:=bs) (j:=j) (by rw [bL.o];exact ak);rw [<-dz.o j ak] at c3;have bc:=Z c3;have eg:=N.o.has _ (cB ak);obtain ⟨aY,b0⟩:=cX.1 eg;have ei:=Z (show eI (nth ks j) from ft.o _ (cB ak));have b8:=Z (fun H=>co.o H j ak);obtain ⟨eS,f1,rfl,bC⟩:=(bU.o.below aj.o aA).at j ak;obtain ⟨m,a8⟩:=fK aY;rw [a8] at bc ei b8 bC b0;have fr:m<y.nodes.length:=by omega
      have ax:=Z (zY Y.heap.size p y m wr (aS.o.all aj.o).t fr a1.o.ok.sn);have fq:=Z a8;clear c3 eg aY a8;obtain ⟨fD,e4⟩:∃x,nodeAt y (m:Int)=x:=⟨_,rfl⟩;rw [e4] at ax b8;clear e4;obtain ⟨am,cY,⟨cV,da,cv⟩,ap,dh⟩:=fD;dsimp only at b8
      go_wp2_with fail
      refine ax.o.mono ?_;rintro e aI ⟨ce,c2,b2,cq,b1,a4,rfl,fz,c4⟩;have a2:Below aI.heap.size aI (aI.alloc (.cells #[.int .i64 am,.string cY,.bool cV,.slice ce da.length c2,.slice b2 cv.length cq,.slice b1 ap.length a4,.int .i64 dh] 38)):=bJ;have cc:=Z (cC aI (.cells #[.int .i64 am,.string cY,.bool cV,.slice ce da.length c2,.slice b2 cv.length cq,.slice b1 ap.length a4,.int .i64 dh] 38));have an:=Z (aj.o.trans ((c4.trans (a2.mono c4.size)).mono aj.o.size));clear fz c4 a2 ax bC aj
      go_upto_region 31 with fail
      generalize aI.alloc (.cells #[.int .i64 am,.string cY,.bool cV,.slice ce da.length c2,.slice b2 cv.length cq,.slice b1 ap.length a4,.int .i64 dh] 38)=D at *;generalize aI.heap.size=e8 at *;have y0:D.cell? ⟨e8,0,none⟩=some (.int .i64 am):=E cc.o 0;have y3:D.cell? ⟨e8,5,none⟩=some (.slice b1 ap.length a4):=E cc.o 5;have fC:D.cell? ⟨dd,0,none⟩=some (.int .i64 op):=E (bD an.o eO.o) 0;have dM:D.cell? ⟨pm,0,none⟩=some (.slice J z.length K):=E (bD an.o eQ.o) 0;obtain ⟨fI,gi,be,cN⟩:=(bU.o.below an.o aA).at j ak;injection be with be
      injection be with be hoa2 _
      subst be hoa2;rw [fq.o] at cN;clear cc bU
      go_cut [189] from 166 to 189 (fun f7 ab=>f7 = .bool false/\ab=D)
      case first=>
       cases Q
       case false=>
        go_wp2;go_meet
        case rel=>exact⟨rfl,rfl⟩
       case true=>
        obtain ⟨cP,cR⟩:=b8.o (oU aw.o);by_cases f:op=9
        case pos=>
         have ae:=cP f;have aZ:(op == 9)=true:=by simpa using f
         have ff:(op != 9)=false:=by simpa using f
         have fe:decide (op=9)=true:=bV f;have fb:(am == 3)=true:=by simpa using ae
         have fc:decide (am=3)=true:=bV ae;clear cP cR ae f;go_wp2;go_meet
         case rel=>exact⟨rfl,rfl⟩
        case neg=>
         obtain ⟨ae,V⟩:=cR f;have aZ:(op == 9)=false:=by simpa using f
         have ff:(op != 9)=true:=by simpa using f
         have fe:decide (op=9)=false:=aR f;have fb:(am == 3)=false:=by simpa using ae
         have fc:decide (am=3)=false:=aR ae;have b4:(ap.length:Int)=2:=by omega
         have fO:((ap.length:Int) != 2)=false:=by rw [b4];rfl
         have fP:decide ((ap.length:Int)=2)=true:=bV b4;clear cP cR ae f V b4;go_wp2;go_meet
         case rel=>exact⟨rfl,rfl⟩
      case rest=>
      obtain ⟨rfl,rfl⟩:=hcut;obtain ⟨D,rfl⟩:∃W,W=wc:=⟨_,rfl⟩;have ao:=Z (aS.o.all an.o);have P:=Z (show yB (fun _=>True) D z J K from⟨d4.o.tbs.below an.o aA,d4.o.cap⟩);have fW:=ak;clear y0 y3 fC;obtain ⟨eR,dY⟩:∃b:Bool,(bs.take j).all id=b:=⟨_,rfl⟩;rw [dY] at bc ⊢;clear dY;cases eR
      case false=>
       have a9:=Z (show(bs.take (j+1)).all id=false from by rw [bc.o];rfl)
       go_upto_region 33 with fail
       go_quiet (fail)
       have d:=Z (an.o.drewN nq);go_wp2
       go_roundw
       case rel=>exact⟨j+1,by omega,by go_num,by rw [a9.o],d.o⟩
       case measure=>first | (simp [intOf];done) | (simp [intOf];omega)
      case true=>
       have a9:=Z (show(bs.take (j+1)).all id=aBi (mG z y (m:Int)) from by rw [bc.o];rfl);clear bc
       go_upto_region 33 with fail
       refine bF (S:=fun W=>Below D.heap.size D W) 9 (by kernel_rfl) (by kernel_rfl) (aF D) (fun hdr=>?_);have d:=Z (show Below D.heap.size D D.drew from aF D);generalize D.drew=wc at *;refine aE 0 ?_;refine aE 1 ?_;refine aE 2 ?_;refine aE 3 (hy:=(by first | exact Or.inl ⟨by rfl,by(intro W bb;(try have bA:=aB bb dM);(try have bk:=aB bb cN);go_simp <;> with_reducible rfl)⟩ | exact Or.inr ⟨by rfl,rfl⟩)) ?_;refine aE 4 ?_;refine aE 5 ?_;refine aE 6 ?_;refine aE 7 (hy:=(by first | exact Or.inl ⟨by rfl,by(intro W bb;(try have bA:=aB bb dM);(try have bk:=aB bb cN);go_simp <;> with_reducible rfl)⟩ | exact Or.inr ⟨by rfl,rfl⟩)) ?_;refine aV 8 fun G l=>?_;have ew:=aLm Y.heap.size p y z J K (m:Int) wc (ao.o.all d.o).t a1.o bE.o ⟨P.o.tbs.below d.o aA,P.o.cap⟩ bP.o ei.o;have ex:=Z ew;clear ew;go_simp
       go_at_call 42
       refine ex.o.mono ?_;rintro dQ ah ⟨rfl,A⟩;have d:=Z (aG d A);clear A ex;obtain ⟨wc,rfl⟩:∃W,W=ah:=⟨_,rfl⟩;(try dsimp only);refine l.out _ _ (by(exact d.o)) (fun hHeld2=>?_);clear l G;(try simp only [Act.put,sA,sB,sC]);refine cF (by decide +kernel) ?_;simp only [dL,cW];go_wp2
       go_roundw
       case rel=>exact⟨j+1,by omega,by go_num,by rw [a9.o],aG an d.o⟩
       case measure=>first | (simp [intOf];done) | (simp [intOf];omega)
end Go.Proofs.YtgoojkiccdjplaaGreatDoor
namespace Go.Proofs.YtgoojkiccdjplaaGreatDoor
open Go.RowKit Go.Lib Go.Proofs.Tryz
abbrev oQ:List (String × DataW Unit):=[("math/bits.deBruijn32tab",Rows.laid_math_bits_deBruijn32tab),("math/bits.deBruijn64tab",Rows.laid_math_bits_deBruijn64tab),("internal/strconv.uint64pow10",Rows.laid_internal_strconv_uint64pow10),("unicode/utf8.acceptRanges",Rows.laid_unicode_utf8_acceptRanges),("unicode.White_Space",Rows.laid_unicode_White_Space),("strings.asciiSpace",Rows.laid_strings_asciiSpace),("strconv.isGraphic",Rows.laid_strconv_isGraphic),("strconv.isNotPrint16",Rows.laid_strconv_isNotPrint16),("strconv.isNotPrint32",Rows.laid_strconv_isNotPrint32),("strconv.isPrint16",Rows.laid_strconv_isPrint16),("strconv.isPrint32",Rows.laid_strconv_isPrint32),("unicode/utf8.first",Rows.laid_unicode_utf8_first)]
theorem aUd:(Rows.laid_strings_asciiSpace:DataW Unit)=tabData .u8 asciiSpaceTab:=by kernel_rfl
theorem aUe:(Rows.laid_internal_strconv_uint64pow10:DataW Unit)=tabData .u64 Lib.pow10Tab:=by kernel_rfl
theorem aUf:(Rows.laid_unicode_utf8_acceptRanges:DataW Unit)=acceptData:=by kernel_rfl
theorem aV0:Tryz.prog.globalNamed "strings.asciiSpace" = some 0:=by kernel_rfl
theorem aV1:∃t e,(Tryz.prog.globals[0]?).map (·.type)=some t/\Tryz.prog.underlying t=some (.array 256 e)/\Tryz.prog.underlying e=some (.int .u8)/\Tryz.prog.cellsOf e=1/\Tryz.prog.cellsOf t=256:=
 ⟨250,5,by kernel_rfl,by kernel_rfl,by kernel_rfl,by kernel_rfl,by kernel_rfl⟩
theorem aYa:∃t e,(Tryz.prog.globals[2]?).map (·.type)=some t/\Tryz.prog.underlying t=some (.array 20 e)/\Tryz.prog.underlying e=some (.int .u64)/\Tryz.prog.cellsOf e=1/\Tryz.prog.cellsOf t=20:=
 ⟨285,177,by kernel_rfl,by kernel_rfl,by kernel_rfl,by kernel_rfl,by kernel_rfl⟩
theorem aLt {W:World} (h:laidMetH prog oQ W):lF W:=by
 rw [MakeChecks.laidMetH_plain _ _ _ (by kernel_rfl)] at h;refine⟨?_,?_,?_,?_⟩
 ·obtain ⟨q,t',cs,o,p,k,l,m,hd⟩:=laidMet.reads h (n:="strings.asciiSpace") (d:=Rows.laid_strings_asciiSpace) (by simp)
  obtain ⟨t,e,c,f,g,i,j⟩:=aV1;obtain rfl:=tK (aV0.symm.trans k);obtain rfl:=tK (c.symm.trans l);rw [aUd] at hd;unfold Env Lib.TabIs;rw [m,<-cells_of_tab f g i j hd]
 ·obtain ⟨q,t',cs,o,p,k,l,m,hd⟩:=laidMet.reads h (n:="internal/strconv.uint64pow10") (d:=Rows.laid_internal_strconv_uint64pow10) (by simp)
  obtain ⟨t,e,c,f,g,i,j⟩:=aYa;obtain rfl:=tK (aIz.symm.trans k);obtain rfl:=tK (c.symm.trans l);rw [aUe] at hd;unfold Lib.TabIs;rw [m,<-cells_of_tab f g i j hd]
 ·exact printTabs_of_reads (ρ:=Tryz.lays339_ren) { Tryz.lays339 with } ⟨by kernel_rfl,by kernel_rfl,by kernel_rfl,by kernel_rfl,by kernel_rfl,by kernel_rfl,by kernel_rfl,by kernel_rfl,by kernel_rfl,by kernel_rfl⟩
   (Pinned.isPrint16_eq ▸ laidMet.reads h (n:="strconv.isPrint16") (d:=Pinned.isPrint16) (by simp [Rows.laid_strconv_isPrint16]))
   (Pinned.isNotPrint16_eq ▸ laidMet.reads h (n:="strconv.isNotPrint16") (d:=Pinned.isNotPrint16) (by simp [Rows.laid_strconv_isNotPrint16]))
   (Pinned.isPrint32_eq ▸ laidMet.reads h (n:="strconv.isPrint32") (d:=Pinned.isPrint32) (by simp [Rows.laid_strconv_isPrint32]))
   (Pinned.isNotPrint32_eq ▸ laidMet.reads h (n:="strconv.isNotPrint32") (d:=Pinned.isNotPrint32) (by simp [Rows.laid_strconv_isNotPrint32]))
 ·exact utf8Tabs_of_reads (ρ:=Tryz.lays260_ren) { Tryz.lays260 with } ⟨by kernel_rfl,by kernel_rfl,by kernel_rfl,by kernel_rfl,by kernel_rfl,by kernel_rfl,by kernel_rfl⟩
   (Pinned.utf8First_eq ▸ laidMet.reads h (n:="unicode/utf8.first") (d:=Pinned.utf8First) (by simp [Rows.laid_unicode_utf8_first]))
   (aUf ▸ laidMet.reads h (n:="unicode/utf8.acceptRanges") (d:=Rows.laid_unicode_utf8_acceptRanges) (by simp))
end Go.Proofs.YtgoojkiccdjplaaGreatDoor
namespace Go.Proofs.YtgoojkiccdjplaaGreatDoor
open Go.RowKit Go.Lib Go.Proofs.Tryz
theorem aLu (os:Os) (args:Array Value):((World.laidAll prog os oQ).forCall (fun _ _=>0) ⟨#[],args,[]⟩).Shaped Tryz.checked.prog:=World.shaped_of_ZipB (by kernel_rfl) (by kernel_rfl)
theorem aUg (os:Os) (args:Array Value):laidMetH prog oQ ((World.laidAll prog os oQ).forCall (fun _ _=>0) ⟨#[],args,[]⟩).memory:=by
 rw [MakeChecks.laidMetH_plain _ _ _ (by kernel_rfl)];exact laidMet_laidAll _ (by kernel_rfl) (by kernel_rfl)
end Go.Proofs.YtgoojkiccdjplaaGreatDoor
