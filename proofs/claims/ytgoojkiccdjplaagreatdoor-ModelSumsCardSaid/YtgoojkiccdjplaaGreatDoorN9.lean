/-
  Parts of this claim's texts, one behind the other: BE BF BG BH BI BJ BK BL BM. No condition.
-/
import Derived.Test.YtgoojkiccdjplaaGreatDoorN8
import Derived.Test.YtgoojkiccdjplaaGreatDoorN4
import Derived.Laws.OwnMore
import Derived.Shelf.Spec.BitsCarry
set_option linter.unusedVariables false
set_option linter.unusedSimpArgs false
set_option maxRecDepth 100000
set_option maxHeartbeats 16000000
namespace Go.Proofs.YtgoojkiccdjplaaGreatDoor
open Go.RowKit Go.Sort Go.Lib
def eW (w:World) (base g n:Nat) (xs:List Int):Prop:=xs.length=n/\base<=g/\bO xs/\∃cur:Array Value,w.heap[g]? = some (.cells cur 177 (0,0))/\cur.toList=xs.map (Value.int .u64)
section
variable {w w' : World} {base g n : Nat} {xs : List Int}
theorem eW.lt (h:eW w base g n xs):g<w.heap.size:=by obtain ⟨_,_,_,cur,hc,_⟩:=h;exact(bQ hc).1
theorem eW.same (h:eW w base g n xs) (hb:w'.heap[g]? = w.heap[g]?):eW w' base g n xs:=by obtain ⟨h1,h2,h3,cur,hc,h4⟩:=h;exact⟨h1,h2,h3,cur,hb.trans hc,h4⟩
theorem eW.cell (h:eW w base g n xs) {j:Nat} (hj:j<n):w.cell? ⟨g,j,none⟩=some (.int .u64 (nth xs j)):=by
 obtain ⟨h1,h2,h3,cur,hc,h4⟩:=h;have h5:cur.toList[j]? = some (.int .u64 (nth xs j)):=by rw [h4,List.getElem?_map,List.getElem?_eq_getElem (by omega),cK (by omega)];rfl
 simp only [World.cell?,hc,Option.isSome_none,Bool.false_eq_true,if_false];rw [<-Array.getElem?_toList];exact h5
theorem eW.frz (h:eW w base g n xs) (j:Nat):w.frozen? ⟨g,j,none⟩=false:=by obtain ⟨h1,h2,h3,cur,hc,h4⟩:=h;exact aY hc j
theorem eW.set (h:eW w base g n xs) {j:Nat} {x:Int} (hx:uX x):eW (w.setCell ⟨g,j,none⟩ (.int .u64 x)) base g n (xs.set j x):=by
 obtain ⟨h1,h2,h3,cur,hc,h4⟩:=h;refine⟨by rw [List.length_set];exact h1,h2,fun y hy=>?_,cur.setIfInBounds j (.int .u64 x),?_,?_⟩
 ·rcases List.mem_or_eq_of_mem_set hy with hy | rfl
  ·exact h3 y hy
  ·exact hx
 ·unfold World.setCell;rw [Array.getElem?_modify,if_pos rfl,hc];rfl
 ·rw [Array.toList_setIfInBounds,h4,List.map_set]
theorem eW.rd (h:eW w base g n xs):bJ bV.u64 (fun k=>k=g) w (some ⟨g,0,none⟩) n xs:=by
 refine⟨h.1,fun hn=>⟨g,0,rfl,h.lt,rfl,fun j x hx=>?_⟩⟩;have hj:=(List.getElem?_eq_some_iff.1 hx).1;refine⟨[.int .u64 x],⟨rfl,h.2.2.1 x (List.mem_of_getElem? hx)⟩,fun i u hu=>?_⟩
 match i with
 |
  0=>
  simp at hu;subst hu;have:=h.cell (j:=j) (by have:=h.1;omega);rw [cK hj] at this;rw [List.getElem?_eq_getElem hj] at hx;injection hx with hx
  rw [hx] at this
  simpa [bV.u64] using this
 | i+1=>simp at hu
theorem eW.datB (h:eW w base g n xs):dO w g:=by obtain ⟨h1,h2,h3,cur,hc,h4⟩:=h;exact⟨_,_,.inr hc⟩
theorem eW.datF (h:eW w base g n xs):bJ bV.u64 (dM base w) w (some ⟨g,0,none⟩) n xs:=h.rd.mono fun k _ e=>by rw [e];exact⟨h.datB,h.2.1⟩
end
theorem bO.zeros (n:Nat):bO (List.replicate n 0):=fun x hx=>by rw [List.eq_of_mem_replicate hx];exact⟨by decide,by decide⟩
theorem mE (n:Nat):aM (List.replicate n 0)=0:=by
 induction n with
 | zero=>rfl
 | succ n ih=>rw [List.replicate_succ,eY,ih];rfl
theorem iV (n base:Nat) (w:World) (hn:n<=1099511627776) (hb:base<=w.heap.size) :
  ∃w',(Instr.makeSlice 34 (.int .i64 n) (.int .i64 n)).run Tryz.prog w = .ok (.slice (some ⟨w.heap.size,0,none⟩) n n) w'/\eW w' base w.heap.size n (List.replicate n 0)/\Below w.heap.size w w'/\w.heap.size<w'.heap.size:=by
 obtain ⟨i0,hi,hz0,hz1,hz2⟩:=info_parts lL;obtain ⟨w',h1,h2,h3⟩:=run_make_full (P:=Tryz.prog) w base 34 177 i0 (.int .u64 0) 1 Tryz.underlying34 hi hz0 hz1 .i64 .i64 n (by rw [hz2];omega) (by unfold maxLen;omega) hb;refine⟨w',h1,⟨by simp,hb,bO.zeros n,?_⟩,⟨h3.os,h3.tape,h3.output,h3.size,fun k hk=>h3.block k hk (by simp)⟩,?_⟩
 ·rcases h2.2 with ⟨hv,_⟩ | ⟨g,cap,cur,hv,_,hh,q1,q2,q3,q4⟩
  ·cases hv
  ·cases hv;refine⟨cur,hh,?_⟩;rw [Nat.mul_one] at q3 q4;rw [show(Value.int IntKind.u64 0).cells = #[.int .u64 0] from rfl,toList_madeCells_one] at q4;rw [List.map_replicate,<-q4,List.take_of_length_le (by rw [Array.length_toList];omega)]
 ·rcases h2.2 with ⟨hv,_⟩ | ⟨g,cap,cur,hv,_,hh,q1,q2,q3,q4⟩
  ·cases hv
  ·cases hv;exact(bQ hh).1
def aF1 (x r:Nat) (w:World) (e:Ending) (w':World):Prop:=∃a c,e = .returned (.tuple #[.slice a (aF x).length c,.int .u64 r])/\bJ bV.u64 (dM w.heap.size w') w' a (aF x).length (aF x)/\(aF x).length<=c/\c<=maxLen/\Below w.heap.size w w'
theorem aC4 (i:Nat) (ds:List Int) (d:Int):(List.replicate (i+1) 0++ds).set i d=List.replicate i 0++(d :: ds):=by
 rw [List.replicate_succ',List.append_assoc,List.set_append_right _ _ (by simp)];simp
theorem aBy {S:Nat->Prop} (a:Option Addr) (n c x k:Nat) (w:World) (hx:bJ bV.u64 S w a n (aF x)) (hn:n<=1099511627776) (hk:0<k) (hkl:k<18446744073709551616) :
  Calls Tryz.prog 198 #[.slice a n c,.int .u64 k] w fun e w'=>aF1 (x / k) (x % k) w e w':=by
 obtain ⟨w1,hmk,ho1,hb1,hs1⟩:=iV n w.heap.size w hn aB;have hx':=hid hx;have lx:=hid hx.1;have hox:=hid (dL x);have hvx:=hid (aU x);have O1:=hid ho1;have B1:=hid hb1;have S1:=hid hs1;generalize aF x=xs at *;clear hx ho1 hb1 hs1;go_enter Tryz.func198,Tryz.ntmps198
 go_wp2
 go_loopw [5,6] (fun v5 v6 wr=>∃(j r:Nat) (ds:List Int),j<=n/\v5 = .int .u64 r/\v6 = .int .i64 ((j:Int) - 1)/\r<k/\Hid (ds.length=n - j)/\Hid (bO ds)/\Hid (aM (xs.drop j)=aM ds * k+r)/\Hid (eW wr w.heap.size w.heap.size n (List.replicate j 0++ds))/\Hid (Below w.heap.size w wr)) (fun _ v6 _=>(intOf v6+1).toNat)
 case atStart=>exact⟨n,0,[],aB,rfl,rfl,hk,(by show([]:List Int).length=n - n;simp),(fun x hx=>(by simp at hx):bO []),(by show aM (xs.drop n)=aM [] * k+0;rw [<-lx.out,List.drop_length];simp [eV]),(by rw [List.append_nil];exact O1.out),B1.out⟩
 case round=>
  obtain ⟨j,r,ds,hj,rfl,rfl,hrk,hdl,hdo,hdv,hO,hB⟩:=hrel;by_cases hj0:j=0
  ·subst hj0;have hds:xs.length=xs.length:=rfl;have hv0:=hdv.out;rw [bT,hvx.out] at hv0;have hq:aM ds=x / k/\r=x % k:=by
    have h1:x / k=aM ds:=by
     rw [hv0,Nat.mul_comm,Nat.mul_add_div hk,Nat.div_eq_of_lt hrk,Nat.add_zero]
    have h2:x % k=r:=by rw [hv0,Nat.mul_comm,Nat.mul_add_mod,Nat.mod_eq_of_lt hrk]
    exact⟨h1.symm,h2.symm⟩
   have hO2:eW wr w.heap.size w.heap.size n ds:=by have:=hO.out;simpa using this
   have htr:=eO (some ⟨w.heap.size,0,none⟩) n n ds wr hO2.datF (by omega) aB (by unfold maxLen;omega);have hv1:=hid hq.1;have hr1:=hid hq.2;have htr':=hid htr;clear hds hv0 hq hO2 htr
   go_wp2_with fail
   refine htr'.out.mono ?_;rintro e w2 ⟨a',c',rfl,hs,hc1,hc2,_,rfl⟩;have HS:=hid hs;clear hs htr';go_wp2;go_ret2;rw [<-hv1.out,<-hr1.out];exact⟨a',c',rfl,HS.out,hc1,hc2,hB.out⟩
  ·obtain ⟨i,rfl⟩:∃i,j=i+1:=⟨j - 1,by omega⟩;have hil:i<xs.length:=by have:=lx.out;omega
   obtain ⟨b,o,rfl,kx,ux⟩:=(hx'.out).at64 hil;have hblt:=(hx'.out.2 (by omega)).choose_spec;have kx':wr.cell? ⟨b,o+i,none⟩=some (.int .u64 (nth xs i)):=by
    obtain ⟨o',he,hlt,_⟩:=hblt;injection he with he
    injection he with h1 h2 _
    rw [World.cell?_of_block (w:=w) (a:=⟨b,o+i,none⟩) (hB.out.block b (by rw [h1];exact hlt))];exact kx
   have hxi:nth xs i=((nth xs i).toNat:Int):=by have:=ux.1;omega
   have hxl:(nth xs i).toNat<18446744073709551616:=by have:=ux.2;omega
   have hst:=zX (N:=aM (xs.drop (i+1))) (Q:=aM ds) (r:=r) (x:=(nth xs i).toNat) (k:=k) hdv.out hk hrk hxl;have hdr:=rN hil;generalize hxn:(nth xs i).toNat=xi at *;rw [hxi] at kx';have hW:aO=18446744073709551616:=rfl;rw [hW] at hst hdr;have hdv2:=wD r xi k wr hrk hkl hxl;have hji:(((i+1:Nat):Int) - 1)=i:=by omega
   have hii:(i:Int)<n:=by omega
   have hst1:=hid (show aM (xs.drop i)=(aM ds * 18446744073709551616+nB r xi k) * k+rO r xi k from by
    rw [hdr,Nat.mul_comm 18446744073709551616,Nat.add_comm xi];exact hst.1)
   have hst2:rO r xi k<k:=hst.2.1;have hst3:nB r xi k<18446744073709551616:=hst.2.2;generalize nB r xi k=d at *;generalize rO r xi k=r' at *;have hdv2':=hid hdv2;rw [hji];clear hst hdr kx ux hblt hxi hxn hdv2 hW hji
   go_wp2_with fail
   refine hdv2'.out.mono ?_;rintro e w2 ⟨rfl,qq,hw2⟩;have O2:=hO.out.same (w':=w2) (by rw [hw2];rfl);have y0:=O2.cell (j:=i) (by omega);have f0:=O2.frz i;have O3:=hid (O2.set (j:=i) (x:=(d:Int)) (eF hst3));have B3:=hid (show Below w.heap.size w (w2.setCell ⟨w.heap.size,i,none⟩ (.int .u64 d)) from by rw [hw2];exact(hB.out.drewN qq).setCell aB _);have hz:w.heap.size<w2.heap.size:=O2.lt;clear hw2 hdv2' O2;go_wp2
   go_roundw
   case rel=>
    refine⟨i,r',(d:Int) :: ds,by omega,rfl,by go_num,hst2,(by have:=hdl.out;show(_ :: ds).length=_;rw [List.length_cons];omega),(fun y hy=>by
     rcases List.mem_cons.1 hy with rfl | hy
     ·exact eF hst3
     ·exact hdo.out y hy:bO _),(by
     have:=hst1.out;show aM (xs.drop i)=aM (_ :: ds) * k+r';rw [this,eY,Int.toNat_natCast,show aO=18446744073709551616 from rfl,Nat.mul_comm 18446744073709551616,Nat.add_comm d]),?_,B3.out⟩
    have:=O3.out
    rwa [aC4] at this
   case measure=>first | (simp [intOf];done) | (simp [intOf];omega)
def vD (n:Nat):Nat:=n / 18446744073709551616
def sO (n:Nat):Nat:=n % 18446744073709551616
theorem aI2 (n:Nat):sO n+aO * vD n=n:=Nat.mod_add_div n aO
theorem pN (n:Nat):sO n<aO:=Nat.mod_lt _ eL
theorem rP (x y c:Nat) (hc:c<=1) (w:World):(callFunc 238 #[.int .u64 x,.int .u64 y,.int .u64 c]).run Tryz.prog w = .ok (.value (.tuple #[.int .u64 (sO (x+y+c):Nat),.int .u64 (vD (x+y+c):Nat)])) w:=by
 rw [run_callFunc_extern Tryz.func238 (by kernel_rfl) (by kernel_rfl) (by kernel_rfl) (e:=add64Entry) (by kernel_rfl),run_add64 x y c (by omega) (by omega) (by omega) (by omega)];simp only [Result.andThen,sO,vD]
 congr 5 <;> omega
theorem pP (x y:Nat) (w:World):(callFunc 238 #[.int .u64 x,.int .u64 y,.int .u64 0]).run Tryz.prog w = .ok (.value (.tuple #[.int .u64 (sO (x+y):Nat),.int .u64 (vD (x+y):Nat)])) w:=rP x y 0 (by omega) w
theorem aBz (x y b:Nat) (hb:b<=1):∃d b':Nat,(∀w,(callFunc 239 #[.int .u64 x,.int .u64 y,.int .u64 b]).run Tryz.prog w = .ok (.value (.tuple #[.int .u64 d,.int .u64 b'])) w)/\d=(x+18446744073709551616 - y - b) % 18446744073709551616/\b'=if x<y+b then 1 else 0:=by
 refine⟨_,_,fun w=>?_,rfl,rfl⟩;rw [run_callFunc_extern Tryz.func239 (by kernel_rfl) (by kernel_rfl) (by kernel_rfl) (e:=sub64Entry) (by kernel_rfl),run_sub64 (P:=Tryz.prog) x y b hb w];rfl
structure qP (g:Nat) (w w':World):Prop where
 below:Below g w w'
 size:w'.heap.size=w.heap.size
 other:∀k,k≠g->w'.heap[k]? = w.heap[k]?
theorem qP.refl (g:Nat) (w:World):qP g w w:=⟨Below.refl _ _,rfl,fun _ _=>rfl⟩
theorem qP.trans {g:Nat} {a b c:World} (h:qP g a b) (k:qP g b c):qP g a c:=⟨h.below.trans k.below,k.size.trans h.size,fun i hi=>(k.other i hi).trans (h.other i hi)⟩
theorem qP.setCell {g:Nat} {a w:World} (h:qP g a w) (j:Nat) (v:Value):qP g a (w.setCell ⟨g,j,none⟩ v):=⟨h.below.setCell aB _,fD.trans h.size,fun k hk=>(Below.heap_setCell _ _ _ _ hk).trans (h.other k hk)⟩
theorem qP.rd {g:Nat} {w w':World} (h:qP g w w') {α:Type} {R:bV α} {a:Option Addr} {n:Nat} {xs:List α} (k:bJ R (fun k=>k≠g) w a n xs):bJ R (fun k=>k≠g) w' a n xs:=
 k.keep (fun b _ hb=>h.other b hb) (Nat.le_of_eq h.size.symm)
section
variable {pre ds win post : List Int} {o i : Nat}
theorem mF (hp:pre.length=o) (hd:ds.length=i) (hi:i<win.length):nth (pre++((ds++win.drop i)++post)) (o+i)=nth win i:=by
 have hl:o+i<(pre++((ds++win.drop i)++post)).length:=by simp;omega
 rw [cK hl,cK hi];rw [List.getElem_append_right (by omega),List.getElem_append_left (by simp;omega),List.getElem_append_right (by omega),List.getElem_drop]
 congr 1
 omega
theorem oC (d:Int) (hp:pre.length=o) (hd:ds.length=i) (hi:i<win.length):(pre++((ds++win.drop i)++post)).set (o+i) d=pre++(((ds ++ [d])++win.drop (i+1))++post):=by
 rw [List.set_append_right _ _ (by omega),List.set_append_left _ _ (by simp;omega),List.set_append_right _ _ (by omega),show o+i - pre.length - ds.length=0 by omega,List.drop_eq_getElem_cons hi,List.set_cons_zero];simp
end
theorem aF2 (g o n N c m base:Nat) (pre win post ys:List Int) (b:Option Addr) (w:World) (hO:eW w base g N (pre++(win++post))) (hp:pre.length=o) (hwl:win.length=n+1)
  (hy:bJ bV.u64 (fun k=>k≠g) w b n ys) (hyo:bO ys) (hn:n<=1099511627776) (hc:n+1<=c) :
  Calls Tryz.prog 203 #[.slice (some ⟨g,o,none⟩) (n+1:Nat) c,.slice b n m] w fun e w'=>e = .returned (.tuple #[]) /\
   ∃ds:List Int,ds.length=n+1/\aM ds=(aM win+aM ys) % aO ^ (n+1)/\eW w' base g N (pre++(ds++post))/\qP g w w':=by
 have hO':=hid hO;have hY:=hid hy;have ly:=hid hy.1;have hyo':=hid hyo;have hp':=hid hp;have hwl':=hid hwl;have hwo:=hid (show bO win from fun x hx=>hO.2.2.1 x (by simp [hx]));have hNl:=hid (show o+n+1<=N from by have:=hO.1;simp at this;omega);clear hO hy hyo hp hwl;go_enter Tryz.func203,Tryz.ntmps203
 go_wp2
 go_loopw [4,9] (fun v4 v9 wr=>∃(i cy:Nat) (ds:List Int),i<=n/\v4 = .int .u64 cy/\v9 = .int .i64 i/\cy<=1/\Hid (ds.length=i)/\Hid (aM ds+aO ^ i * cy=aM (win.take i)+aM (ys.take i))/\Hid (eW wr base g N (pre++((ds++win.drop i)++post)))/\Hid (qP g w wr)) (fun _ v9 _=>n - (intOf v9).toNat)
 case atStart=>exact⟨0,0,[],aV,rfl,rfl,by omega,(by show([]:List Int).length=0;rfl),(by show aM []+_=_;simp [eV]),(by have:=hO'.out;rw [List.nil_append,bT];exact this),qP.refl _ _⟩
 case round=>
  obtain ⟨i,cy,ds,hi,rfl,rfl,hcy,hdl,hdv,hOi,hC⟩:=hrel;by_cases hin:i<n
  case pos=>
   obtain ⟨b1,o1,rfl,k1,u1⟩:=((hC.out).rd (hY.out)).at64 (k:=i) (by rw [ly.out];exact hin);have y0:=hOi.out.cell (j:=o+i) (by have:=hNl.out;omega);have f0:=hOi.out.frz (o+i);rw [mF hp'.out hdl.out (by rw [hwl'.out];omega)] at y0;have hxo:=hwo.out.nth (i:=i) (by rw [hwl'.out];omega);have e1:=hxo.cast;have e2:=u1.cast;have l1:=hxo.lt;have l2:=u1.lt;have tw:=hid (bI (l:=win) (i:=i) (by rw [hwl'.out];omega));have ty:=hid (bI (l:=ys) (i:=i) (by rw [ly.out];exact hin));rw [<-e1] at y0;rw [<-e2] at k1;generalize (nth win i).toNat=x at *;generalize (nth ys i).toNat=y at *;clear e1 e2 hxo u1;have hs:=fun W=>rP x y cy hcy W
   have hst:=hid (aFt (x:=x) (y:=y) hdv.out hdl.out);have hcl:vD (x+y+cy)<=1:=tU l1 l2 hcy;have hdl2:sO (x+y+cy)<aO:=pN _;have O2:=hid (hOi.out.set (j:=o+i) (x:=(sO (x+y+cy):Nat)) (eF hdl2));have hst2:=@hid (aM (ds ++ [((sO (x+y+cy):Nat):Int)])+aO ^ (i+1) * vD (x+y+cy)=aM (win.take i)+aO ^ i * x+(aM (ys.take i)+aO ^ i * y)) hst.out;have hii:(i:Int)<n:=by omega
   have C2:=hid (hC.out.setCell (o+i) (.int .u64 (sO (x+y+cy):Nat)));clear hst;generalize sO (x+y+cy)=d at *;generalize vD (x+y+cy)=c' at *;go_wp2
   go_roundw
   case rel=>
    refine⟨i+1,c',ds ++ [(d:Int)],by omega,rfl,by go_num,hcl,(by show(ds++_).length=_;have:=hdl.out;simp;omega),(by show aM _+_=_;rw [tw.out,ty.out];exact hst2.out),?_,C2.out⟩;have:=O2.out;rw [oC _ hp'.out hdl.out (by rw [hwl'.out];omega)] at this;exact this
   case measure=>first | (simp [intOf];done) | (simp [intOf];omega)
  case neg=>
   obtain rfl:i=n:=by omega
   have y0:=hOi.out.cell (j:=o+i) (by have:=hNl.out;omega);have f0:=hOi.out.frz (o+i);rw [mF hp'.out hdl.out (by rw [hwl'.out];omega)] at y0;have hxo:=hwo.out.nth (i:=i) (by rw [hwl'.out];omega);have e1:=hxo.cast;have l1:=hxo.lt;have tw:=hid (bI (l:=win) (i:=i) (by rw [hwl'.out];omega));rw [<-e1] at y0;generalize (nth win i).toNat=x at *;clear e1 hxo;have e3:IntKind.u64.wrap ((x:Int)+cy)=(sO (x+cy):Nat):=by unfold sO;simp only [IntKind.wrap_u64];omega
   have hdl2:sO (x+cy)<aO:=pN _;have O2:=hid (hOi.out.set (j:=o+i) (x:=(sO (x+cy):Nat)) (eF hdl2));have C2:=hid (hC.out.setCell (o+i) (.int .u64 (sO (x+cy):Nat)));have hfin:=hid (show aM (ds ++ [((sO (x+cy):Nat):Int)])=(aM win+aM ys) % aO ^ (i+1) from by
    have h1:=aI2 (x+cy);have h2:=hdv.out;have h3:=tw.out;rw [List.take_of_length_le (by rw [hwl'.out];exact aB)] at h3;rw [List.take_of_length_le (l:=ys) (by rw [ly.out];exact aB)] at h2;have hlt:=eR (l:=ds ++ [((sO (x+cy):Nat):Int)]) (bO.snoc (fun z hz=>hOi.out.2.2.1 z (by simp [hz])) hdl2);have hl2:(ds ++ [((sO (x+cy):Nat):Int)]).length=i+1:=by have:=hdl.out;simp;omega
    rw [hl2] at hlt;have h4:aM win+aM ys=aM (ds ++ [((sO (x+cy):Nat):Int)])+aO ^ (i+1) * vD (x+cy):=by
     have h5:aO ^ i * (sO (x+cy)+aO * vD (x+cy))=aO ^ i * (x+cy):=by rw [h1]
     rw [Nat.mul_add,Nat.mul_add] at h5;rw [eZ,hdl.out,h3,Nat.pow_succ,Nat.mul_assoc];omega
    rw [h4,Nat.add_mul_mod_self_left,Nat.mod_eq_of_lt hlt])
   generalize sO (x+cy)=d at *;go_wp2;go_end0;refine⟨rfl,ds ++ [(d:Int)],(by have:=hdl.out;simp;omega),hfin.out,?_,C2.out⟩;have:=O2.out;rw [oC _ hp'.out hdl.out (by rw [hwl'.out];omega),List.drop_of_length_le (by rw [hwl'.out];exact aB),List.append_nil] at this;exact this
theorem tZ (y k:Nat) (hy:y<aO) (hk:k<aO):∃hi lo:Nat,(∀w,Calls Tryz.prog 237 #[.int .u64 y,.int .u64 k] w fun e w'=>e = .returned (.tuple #[.int .u64 hi,.int .u64 lo])/\w'=w)/\hi=y * k / aO/\lo=y * k % aO:=
 ⟨_,_,fun w=>Tryz.bits_Mul64 y k hy hk w,rfl,rfl⟩
theorem aNb {p:Prop} [Decidable p]:(if p then 1 else 0:Nat)<=1:=by split <;> omega
theorem lS (x l bw:Nat) (hx:x<aO) (hl:l<aO) (hbw:bw<=1):∃d b':Nat,(∀w,(callFunc 239 #[.int .u64 x,.int .u64 l,.int .u64 bw]).run Tryz.prog w = .ok (.value (.tuple #[.int .u64 d,.int .u64 b'])) w)/\d<aO/\b'<=1/\d+l+bw=x+aO * b':=by
 obtain ⟨d,b',hs2,hd,hb'⟩:=aBz x l bw hbw;have hsd:=aDy (x:=x) (l:=l) (b:=bw) hx hl hbw;rw [<-hb'] at hsd;unfold aO at *;rw [<-hd] at hsd;refine⟨d,b',hs2,?_,?_,hsd⟩
 ·rw [hd];exact Nat.mod_lt _ (by decide)
 ·rw [hb'];exact aNb
theorem zY (y k cy:Nat) (hy:y<aO) (hk:k<aO) (hcy:cy<aO):∃mh ml l c1:Nat,(∀w,Calls Tryz.prog 237 #[.int .u64 y,.int .u64 k] w fun e w'=>e = .returned (.tuple #[.int .u64 mh,.int .u64 ml])/\w'=w) /\
  (∀w,(callFunc 238 #[.int .u64 ml,.int .u64 cy,.int .u64 0]).run Tryz.prog w = .ok (.value (.tuple #[.int .u64 l,.int .u64 c1])) w)/\l<aO/\IntKind.u64.wrap ((mh:Int)+c1)=((mh+c1:Nat):Int)/\mh+c1<aO/\l+aO * (mh+c1)=y * k+cy:=by
 obtain ⟨mh,ml,hm,rfl,rfl⟩:=tZ y k hy hk;have hmul:=aDz hy hk hcy;refine⟨_,_,_,_,hm,fun w=>pP _ cy w,pN _,?_,hmul.1,hmul.2⟩;rw [show(((y * k / aO:Nat):Int)+(vD (y * k % aO+cy):Nat))=((y * k / aO+vD (y * k % aO+cy):Nat):Int) by simp];exact bE hmul.1
theorem aF3 (g o n N c m base k:Nat) (pre win post ys:List Int) (b:Option Addr) (w:World) (hO:eW w base g N (pre++(win++post))) (hp:pre.length=o) (hwl:win.length=n+1)
  (hy:bJ bV.u64 (fun k=>k≠g) w b n ys) (hyo:bO ys) (hn:n<=1099511627776) (hc:n+1<=c) (hk:k<aO) :
  Calls Tryz.prog 202 #[.slice (some ⟨g,o,none⟩) (n+1:Nat) c,.slice b n m,.int .u64 k] w fun e w'=>
   ∃(ds:List Int) (t:Bool),e = .returned (.bool t)/\ds.length=n+1/\aM ds+aM ys * k=aM win+aO ^ (n+1) * (if t then 1 else 0)/\eW w' base g N (pre++(ds++post))/\qP g w w':=by
 have hO':=hid hO;have hY:=hid hy;have ly:=hid hy.1;have hyo':=hid hyo;have hp':=hid hp;have hwl':=hid hwl;have hkl:=hid hk;have hwo:=hid (show bO win from fun x hx=>hO.2.2.1 x (by simp [hx]));have hNl:=hid (show o+n+1<=N from by have:=hO.1;simp at this;omega);clear hO hy hyo hp hwl hk;go_enter Tryz.func202,Tryz.ntmps202
 go_wp2
 go_loopw [7,8,16] (fun v7 v8 v16 wr=>∃(i cy bw:Nat) (ds:List Int),i<=n/\v7 = .int .u64 cy/\v8 = .int .u64 bw/\v16 = .int .i64 i/\Hid (cy<aO)/\bw<=1/\Hid (ds.length=i)/\Hid (aM ds+aM (ys.take i) * k=aM (win.take i)+aO ^ i * (bw+cy))/\Hid (eW wr base g N (pre++((ds++win.drop i)++post)))/\Hid (qP g w wr)) (fun _ _ v16 _=>n - (intOf v16).toNat)
 case atStart=>exact⟨0,0,0,[],aV,rfl,rfl,rfl,(by show 0<aO;decide),by omega,(by show([]:List Int).length=0;rfl),(by show aM []+_=_;simp [eV]),(by have:=hO'.out;rw [List.nil_append,bT];exact this),qP.refl _ _⟩
 case round=>
  obtain ⟨i,cy,bw,ds,hi,rfl,rfl,rfl,hcy,hbw,hdl,hdv,hOi,hC⟩:=hrel;by_cases hin:i<n
  case pos=>
   obtain ⟨b1,o1,rfl,k1,u1⟩:=((hC.out).rd (hY.out)).at64 (k:=i) (by rw [ly.out];exact hin);have y0:=hOi.out.cell (j:=o+i) (by have:=hNl.out;omega);have f0:=hOi.out.frz (o+i);rw [mF hp'.out hdl.out (by rw [hwl'.out];omega)] at y0;have hxo:=hwo.out.nth (i:=i) (by rw [hwl'.out];omega);have e1:=hxo.cast;have e2:=u1.cast;have l1:=hid hxo.lt;have l2:=hid u1.lt;have tw:=hid (bI (l:=win) (i:=i) (by rw [hwl'.out];omega));have ty:=hid (bI (l:=ys) (i:=i) (by rw [ly.out];exact hin));rw [<-e1] at y0;rw [<-e2] at k1;generalize (nth win i).toNat=x at *;generalize (nth ys i).toNat=y at *;clear e1 e2 hxo u1;obtain ⟨mh,ml,l,c1,hm,hs1,hll,hw,hcl0,hmul2⟩:=zY y k cy l2.out hkl.out hcy.out;obtain ⟨d,b',hs2,hdl0,hbl,hsd⟩:=lS x l bw l1.out hll hbw;have hm':=hid hm;have hdlt:=hid hdl0;have hst:=hid (aDx (P:=aM (ys.take i) * k) hdv.out hdl.out hmul2 hsd);have O2:=hid (hOi.out.set (j:=o+i) (x:=(d:Nat)) (eF hdlt.out));have C2:=hid (hC.out.setCell (o+i) (.int .u64 (d:Nat)));have hii:(i:Int)<n:=by omega
   have hcl:=hid hcl0;clear hsd hmul2 hm hdl0 hcl0 hll;generalize mh+c1=c2 at *
   go_wp2_with fail
   refine(hm'.out _).mono ?_;rintro e w2 ⟨rfl,rfl⟩;go_wp2
   go_roundw
   case rel=>
    refine⟨i+1,c2,b',ds ++ [(d:Int)],by omega,by go_num,rfl,by go_num,hcl.out,hbl,(by show(ds++_).length=_;have:=hdl.out;simp;omega),(by
     show aM _+_=_;have:=hst.out;rw [tw.out,ty.out,Nat.add_mul,Nat.mul_assoc];exact this),?_,C2.out⟩
    have:=O2.out;rw [oC _ hp'.out hdl.out (by rw [hwl'.out];omega)] at this;exact this
   case measure=>first | (simp [intOf];done) | (simp [intOf];omega)
  case neg=>
   obtain rfl:i=n:=by omega
   have y0:=hOi.out.cell (j:=o+i) (by have:=hNl.out;omega);have f0:=hOi.out.frz (o+i);rw [mF hp'.out hdl.out (by rw [hwl'.out];omega)] at y0;have hxo:=hwo.out.nth (i:=i) (by rw [hwl'.out];omega);have e1:=hxo.cast;have l1:=hid hxo.lt;have tw:=hid (bI (l:=win) (i:=i) (by rw [hwl'.out];omega));rw [<-e1] at y0;generalize (nth win i).toNat=x at *;clear e1 hxo;obtain ⟨d,b',hs2,hdl0,hbl,hsd⟩:=lS x cy bw l1.out hcy.out hbw;have hdlt:=hid hdl0;have O2:=hid (hOi.out.set (j:=o+i) (x:=(d:Nat)) (eF hdlt.out));have C2:=hid (hC.out.setCell (o+i) (.int .u64 (d:Nat)));have hfin:=hid (show aM (ds ++ [(d:Int)])+aM ys * k=aM win+aO ^ (i+1) * b' from by
    have h2:=hdv.out;have h3:=tw.out;rw [List.take_of_length_le (by rw [hwl'.out];exact aB)] at h3;rw [List.take_of_length_le (l:=ys) (by rw [ly.out];exact aB)] at h2;have h5:aO ^ i * (d+cy+bw)=aO ^ i * (x+aO * b'):=by rw [hsd]
    rw [Nat.mul_add,Nat.mul_add,Nat.mul_add] at h5;rw [Nat.mul_add] at h2;rw [eZ,hdl.out,h3,Nat.pow_succ,Nat.mul_assoc];omega)
   have hbl':=hid hbl;clear hsd hbl hdl0;go_wp2;go_ret;refine⟨ds ++ [(d:Int)],decide (0<b'),rfl,(by have:=hdl.out;simp;omega),?_,?_,C2.out⟩
   ·have:=hfin.out;rw [this];have h9:=hbl'.out;rcases (show b'=0\/b'=1 by omega) with h0 | h0 <;> rw [h0] <;> rfl
   ·have:=O2.out;rw [oC _ hp'.out hdl.out (by rw [hwl'.out];omega),List.drop_of_length_le (by rw [hwl'.out];exact aB),List.append_nil] at this;exact this
theorem aD2 (q r d1:Nat) (hq:0<q) (hql:q<aO):∃p r2 ov:Nat,(∀w,(callFunc 238 #[.int .u64 r,.int .u64 d1,.int .u64 0]).run Tryz.prog w = .ok (.value (.tuple #[.int .u64 r2,.int .u64 ov])) w)/\IntKind.u64.wrap ((q:Int) - 1)=(p:Int)/\q=p+1/\r2<aO/\r2+aO * ov=r+d1/\r2=sO (r+d1)/\ov=vD (r+d1):=by
 obtain ⟨p,rfl⟩:∃p,q=p+1:=⟨q - 1,by omega⟩;refine⟨p,_,_,fun w=>pP r d1 w,?_,rfl,pN _,aI2 _,rfl,rfl⟩;rw [show(((p+1:Nat):Int) - 1)=(p:Int) by omega];exact bE (by unfold aO at hql;omega)
theorem aD3 (q d2 r nx:Nat) (hq:q<aO) (hd:d2<aO) (hn:nx<aO):∃mh ml:Nat,(∀w,Calls Tryz.prog 237 #[.int .u64 q,.int .u64 d2] w fun e w'=>e = .returned (.tuple #[.int .u64 mh,.int .u64 ml])/\w'=w)/\((mh<r\/mh=r/\ml<=nx)↔q * d2<=r * aO+nx):=by
 obtain ⟨mh,ml,hm,rfl,rfl⟩:=tZ q d2 hq hd;exact⟨_,_,hm,aDw hn⟩
theorem aB0 (h l nx d1 d2:Nat) (hh:h<d1) (hd1:d1<aO) (hl:l<aO) (hn:nx<aO) :
  nB h l d1<aO/\rO h l d1<aO/\nB h l d1 * d1+rO h l d1=h * aO+l/\∀qt,qt * (d1 * aO+d2)<=(h * aO+l) * aO+nx->qt<=nB h l d1:=by
 have hp:0<d1:=by omega
 have hr:rO h l d1<d1:=Nat.mod_lt _ hp;refine⟨?_,by omega,?_,fun qt hq=>zW hn hq hp⟩
 ·refine Nat.div_lt_of_lt_mul ?_;have:(h+1) * aO<=d1 * aO:=Nat.mul_le_mul_right _ hh;rw [Nat.add_mul,Nat.one_mul] at this;show h * aO+l<_;omega
 ·have:=Nat.mod_add_div (h * aO+l) d1;show(h * aO+l) / d1 * d1+(h * aO+l) % d1=_;rw [Nat.mul_comm];omega
def kB (d1 d2 nx:Nat):Nat->Nat->Nat
 | 0,_=>0
 | q+1,r=>if (q+1) * d2<=r * aO+nx then q+1 else if vD (r+d1)=0 then kB d1 d2 nx q (sO (r+d1)) else q
def pQ (h l nx d1 d2:Nat):Nat:=if h<d1 then kB d1 d2 nx (nB h l d1) (rO h l d1) else 18446744073709551615
theorem zZ {d1 d2 nx q r:Nat} (h:q * d2<=r * aO+nx):kB d1 d2 nx q r=q:=by
 cases q with
 | zero=>rfl
 | succ q=>rw [kB,if_pos h]
theorem aAa {d1 d2 nx q r:Nat} (h:¬((q+1) * d2<=r * aO+nx)) (h0:¬vD (r+d1)=0):kB d1 d2 nx (q+1) r=q:=by rw [kB,if_neg h,if_neg h0]
theorem aAb {d1 d2 nx q r:Nat} (h:¬((q+1) * d2<=r * aO+nx)) (h0:vD (r+d1)=0):kB d1 d2 nx (q+1) r=kB d1 d2 nx q (sO (r+d1)):=by rw [kB,if_neg h,if_pos h0]
def aAc (h l nx d1 d2 q:Nat):Prop:=q<aO/\∀qt,qt<aO->qt * (d1 * aO+d2)<=(h * aO+l) * aO+nx->qt<=q
theorem wE (h l nx d1 d2:Nat) (w:World) (hl:l<aO) (hn:nx<aO) (hd1:d1<aO) (hd2:d2<aO) :
  Calls Tryz.prog 201 #[.int .u64 h,.int .u64 l,.int .u64 nx,.int .u64 d1,.int .u64 d2] w fun e w'=>e = .returned (.int .u64 (pQ h l nx d1 d2:Nat))/\aAc h l nx d1 d2 (pQ h l nx d1 d2)/\∃p,w'=w.drewN p:=by
 by_cases hlt:h<d1
 case neg=>
  have hi:(d1:Int)<=h:=by omega
  have hgv:=hid (show pQ h l nx d1 d2=18446744073709551615 from if_neg hlt);have hg:=hid (show aAc h l nx d1 d2 18446744073709551615 from⟨by decide,fun qt hq _=>by unfold aO at hq;omega⟩);clear hl hn hd1 hd2 hlt;go_enter Tryz.func201,Tryz.ntmps201
  go_wp2;go_ret;rw [hgv.out];exact⟨rfl,hg.out,0,rfl⟩
 case pos=>
  have hi:¬((d1:Int)<=h):=by omega
  obtain ⟨s1,s2,s3,s4⟩:=aB0 h l nx d1 d2 hlt hd1 hl hn;have hdv:=hid (wD h l d1 w hlt hd1 hl);have S1:=hid s1;have S2:=hid s2;have S3:=hid s3;have S4:=hid s4;have hgv:=hid (show pQ h l nx d1 d2=kB d1 d2 nx (nB h l d1) (rO h l d1) from if_pos hlt);generalize pQ h l nx d1 d2=gv at *;generalize nB h l d1=q0 at *;generalize rO h l d1=r0 at *;have hd2':=hid hd2;have hn':=hid hn;clear hl hn hd1 hd2 hlt s1 s2 s3 s4;go_enter Tryz.func201,Tryz.ntmps201
  go_wp2_with fail
  refine hdv.out.mono ?_;rintro e w2 ⟨rfl,pp,rfl⟩;go_wp2
  go_loopw [11,12] (fun v11 v12 wr=>∃(q r:Nat),v11 = .int .u64 q/\v12 = .int .u64 r/\Hid (q<aO)/\Hid (r<aO)/\Hid (gv=kB d1 d2 nx q r)/\Hid (q * d1+r=h * aO+l)/\Hid (∀qt,qt * (d1 * aO+d2)<=(h * aO+l) * aO+nx->qt<=q)/\∃p,wr=w.drewN p) (fun v11 _ _=>(intOf v11).toNat)
  case atStart=>exact⟨q0,r0,rfl,rfl,S1.out,S2.out,hgv.out,S3.out,S4.out,pp,rfl⟩
  case round=>
   obtain ⟨q,r,rfl,rfl,hq,hr,hgq,hqr,hle,p,rfl⟩:=hrel;obtain ⟨mh,ml,hm,htest⟩:=aD3 q d2 r nx hq.out hd2'.out hn'.out;have hm':=hid hm;have G:=hid (show aAc h l nx d1 d2 q from⟨hq.out,fun qt _ hqt=>hle.out qt hqt⟩);clear hm;by_cases hgo:q * d2<=r * aO+nx
   case pos=>
    have ht:=htest.2 hgo;have hge:=hgq.out;rw [zZ hgo] at hge;subst hge;clear htest hgo;by_cases c1:mh<r
    ·have c1i:(mh:Int)<r:=by omega
     clear ht
     go_wp2_with fail
     refine(hm'.out _).mono ?_;rintro e w2 ⟨rfl,rfl⟩;go_wp2;go_ret;exact⟨rfl,G.out,p,rfl⟩
    ·have c1i:¬((mh:Int)<r):=by omega
     have c2:mh=r:=by omega
     have c3:(ml:Int)<=nx:=by omega
     subst c2;clear ht
     go_wp2_with fail
     refine(hm'.out _).mono ?_;rintro e w2 ⟨rfl,rfl⟩;go_wp2;go_ret;exact⟨rfl,G.out,p,rfl⟩
   case neg=>
    have ht:¬(mh<r\/mh=r/\ml<=nx):=fun e=>hgo (htest.1 e)
    clear htest;have hnx:=fun qt hqt=>tX (qt:=qt) hqt hqr.out (hle.out qt hqt) (by omega)
    have hq0:0<q:=(tX (qt:=0) (by omega) hqr.out aV (show r * aO+nx<q * d2 by omega)).1;obtain ⟨q',r2,ov,hs,hw,hqp,hr2,hsum,hr2e,hove⟩:=aD2 q r d1 hq0 hq.out;have hgo':¬((q'+1) * d2<=r * aO+nx):=by rw [<-hqp];exact hgo
    have hg1:=@hid (ov=0->gv=kB d1 d2 nx q' r2) fun e=>by rw [hgq.out,hqp,aAb hgo' (by rw [<-hove];exact e),hr2e]
    have hg2:=@hid (¬ov=0->gv=q') fun e=>by rw [hgq.out,hqp,aAa hgo' (by rw [<-hove];exact e)]
    have hle2:=@hid (∀qt,qt * (d1 * aO+d2)<=(h * aO+l) * aO+nx->qt<=q') fun qt hqt=>by have:=(hnx qt hqt).2;omega
    have hq2:=hid (show q'<aO by have:=hq.out;omega);have hR2:=hid hr2;have hm2:=aBs hqr.out hq0;rw [show q - 1=q' by omega] at hm2;have hm3:=@hid (q' * d1+(r+d1)=h * aO+l) hm2;have G2:=hid (show aAc h l nx d1 d2 q' from⟨hq2.out,fun qt _ hqt=>hle2.out qt hqt⟩);have c1i:¬((mh:Int)<r):=by omega
    have hqq:=hid hqp;clear hnx hm2 hr2 hgo hgo' hq0 hqp hr2e hove;have hov:ov=0->q' * d1+r2=h * aO+l:=fun e=>by rw [<-hm3.out,<-hsum,e,Nat.mul_zero,Nat.add_zero]
    have hov':=hid hov;clear hov hsum;by_cases c2:mh=r
    ·subst c2;have c3:¬((ml:Int)<=nx):=by omega
     clear ht;by_cases c4:ov=0
     ·have hq3:=hid (hov'.out c4);have hg3:=hid (hg1.out c4);clear hov' hg1 hg2;subst c4
      go_wp2_with fail
      refine(hm'.out _).mono ?_;rintro e w2 ⟨rfl,rfl⟩;go_wp2
      go_roundw
      case rel=>exact⟨q',r2,by go_num,by go_num,hq2.out,hR2.out,hg3.out,hq3.out,hle2.out,p,rfl⟩
      case measure=>have:=hqq.out;first | (simp [intOf];done) | (simp [intOf];omega)
     ·have c4i:(0:Int)<ov:=by omega
      have hg3:=hg2.out c4;subst hg3;clear hg1 hg2
      go_wp2_with fail
      refine(hm'.out _).mono ?_;rintro e w2 ⟨rfl,rfl⟩;go_wp2;go_ret;exact⟨rfl,G2.out,p,rfl⟩
    ·have c2i:¬((mh:Int)=r):=by omega
     have c2b:((mh:Int) == r)=false:=by simpa using c2i
     clear ht;by_cases c4:ov=0
     ·have hq3:=hid (hov'.out c4);have hg3:=hid (hg1.out c4);clear hov' hg1 hg2;subst c4
      go_wp2_with fail
      refine(hm'.out _).mono ?_;rintro e w2 ⟨rfl,rfl⟩;go_wp2
      go_roundw
      case rel=>exact⟨q',r2,by go_num,by go_num,hq2.out,hR2.out,hg3.out,hq3.out,hle2.out,p,rfl⟩
      case measure=>have:=hqq.out;first | (simp [intOf];done) | (simp [intOf];omega)
     ·have c4i:(0:Int)<ov:=by omega
      have hg3:=hg2.out c4;subst hg3;clear hg1 hg2
      go_wp2_with fail
      refine(hm'.out _).mono ?_;rintro e w2 ⟨rfl,rfl⟩;go_wp2;go_ret;exact⟨rfl,G2.out,p,rfl⟩
def mR (y:Nat) (w:World) (e:Ending) (w':World):Prop:=∃a c,e = .returned (.slice a (aF y).length c)/\bJ bV.u64 (dM w.heap.size w') w' a (aF y).length (aF y)/\(aF y).length<=c/\c<=maxLen/\Below w.heap.size w w'
theorem aD4 (x c k:Nat) (hx:x<aO) (hc:c<2 ^ k) (hk:k<64):∃lo d v t:Nat,IntKind.u64.wrap ((x:Int) * 2 ^ k)=(lo:Nat)/\bits .or .u64 (c:Int) (lo:Int)=(d:Nat)/\d<aO /\
  IntKind.u64.wrap (64 - (k:Int))=(t:Nat)/\(0<k->min t 64=t)/\(x:Int) / 2 ^ t=(v:Nat)/\bits .or .u64 0 (v:Int)=(v:Nat)/\v<2 ^ k/\v<aO/\d+aO * v=c+x * 2 ^ k:=by
 have hup:=qL hx hk;have hcW:c<aO:=Nat.lt_trans hc (by rw [<-dS];exact Nat.pow_lt_pow_right (by decide) hk);have hlo:x * 2 ^ k % aO<aO:=Nat.mod_lt _ eL;have hol:=aBt (x:=x) (k:=k) (t:=c) (by omega) hc;have hvW:x / 2 ^ (64 - k)<aO:=Nat.lt_of_le_of_lt (Nat.div_le_self _ _) hx;refine⟨x * 2 ^ k % aO,c ||| (x * 2 ^ k % aO),x / 2 ^ (64 - k),64 - k,?_,?_,?_,?_,?_,lR _ _,?_,hup.2,hvW,?_⟩
 ·rw [lQ,IntKind.wrap_u64];unfold aO;omega
 ·exact(bits_nat .u64 64 (by decide) wraps_u64 c (x * 2 ^ k % aO) (by rw [dS];exact hcW) (by rw [dS];exact hlo)).2
 ·rw [<-dS];exact Nat.or_lt_two_pow (by rw [dS];exact hcW) (by rw [dS];exact hlo)
 ·rw [show(64 - (k:Int))=((64 - k:Nat):Int) by omega];exact bE (by omega)
 ·intro _;omega
 ·rw [show(0:Int)=((0:Nat):Int) from rfl,(bits_nat .u64 64 (by decide) wraps_u64 0 (x / 2 ^ (64 - k)) (by decide) (by rw [dS];exact hvW)).2,Nat.zero_or]
 ·rw [hol,Nat.add_assoc,hup.1]
section
variable {ds : List Int} {i m : Nat}
theorem aAd (c:Int) (hd:ds.length=i):nth (ds++(c :: List.replicate m 0)) i=c/\(0<m->nth (ds++(c :: List.replicate m 0)) (i+1)=0):=by
 subst hd;refine⟨?_,fun h=>?_⟩
 ·rw [cK (by simp)];simp
 ·rw [cK (by simp;omega)];simp
theorem xX (c d:Int) (hd:ds.length=i):nth ((ds++(c :: List.replicate (m+1) 0)).set i d) (i+1)=0:=by
 subst hd;rw [List.set_append_right _ _ aB,Nat.sub_self,List.set_cons_zero];exact(aAd (m:=m+1) d rfl).2 (by omega)
theorem aF4 (c d v:Int) (hd:ds.length=i):((ds++(c :: List.replicate (m+1) 0)).set i d).set (i+1) v=(ds ++ [d])++(v :: List.replicate m 0):=by
 subst hd;rw [List.set_append_right _ _ aB,Nat.sub_self,List.set_cons_zero,List.set_append_right _ _ (by omega),show ds.length+1 - ds.length=1 by omega,List.replicate_succ];simp
theorem aD5 (c d:Int) (hd:ds.length=i):(ds++(c :: List.replicate (m+1) 0)).set i d=(ds ++ [d])++((0:Int) :: List.replicate m 0):=by
 subst hd;rw [List.set_append_right _ _ aB,Nat.sub_self,List.set_cons_zero,List.replicate_succ];simp
end
theorem left_step {ds:List Int} {i c x k d v A:Nat} (h:aM ds+aO ^ i * c=A * 2 ^ k) (hl:ds.length=i) (h1:d+aO * v=c+x * 2 ^ k):aM (ds ++ [(d:Int)])+aO ^ (i+1) * v=(A+aO ^ i * x) * 2 ^ k:=by
 have h5:aO ^ i * (d+aO * v)=aO ^ i * (c+x * 2 ^ k):=by rw [h1]
 rw [Nat.mul_add,Nat.mul_add,<-Nat.mul_assoc,<-Nat.mul_assoc] at h5;rw [eZ,hl,Nat.pow_succ,Nat.add_mul];omega
theorem sF {S:Nat->Prop} (a:Option Addr) (n c x k:Nat) (w:World) (hx:bJ bV.u64 S w a n (aF x)) (hn:n+1<=1099511627776) (hk:k<64) :
  Calls Tryz.prog 200 #[.slice a n c,.int .i64 k] w fun e w'=>mR (x * 2 ^ k) w e w':=by
 obtain ⟨w1,hmk,ho1,hb1,hs1⟩:=iV (n+1) w.heap.size w hn aB;have hx':=hid hx;have lx:=hid hx.1;have hvx:=hid (aU x);have O1:=hid ho1;have B1:=hid hb1;have S1:=hid hs1;have q1:Int.tdiv (k:Int) 64=0:=by rw [Int.tdiv_eq_ediv_of_nonneg (by omega)];omega
 have q2:Int.tmod (k:Int) 64=k:=by rw [Int.tmod_eq_emod_of_nonneg (by omega)];omega
 have q3:IntKind.u64.wrap (k:Int)=k:=bE (by omega);have q4:min k 64=k:=by omega
 rw [show((n+1:Nat):Int)=(n:Int)+1 by simp] at hmk;generalize aF x=xs at *;clear hx ho1 hb1 hs1;go_enter Tryz.func200,Tryz.ntmps200
 go_wp2
 go_loopw [21] (fun v21 wr=>∃(i m cy:Nat) (ds:List Int),i+m=n/\v21 = .int .i64 i/\Hid (cy<2 ^ k)/\Hid (ds.length=i)/\Hid (aM ds+aO ^ i * cy=aM (xs.take i) * 2 ^ k)/\Hid (eW wr w.heap.size w.heap.size (n+1) (ds++((cy:Int) :: List.replicate m 0)))/\Hid (Below w.heap.size w wr)) (fun v21 _=>n - (intOf v21).toNat)
 case atStart=>exact⟨0,n,0,[],by omega,rfl,Nat.two_pow_pos k,(by show([]:List Int).length=0;rfl),(by show aM []+_=_;simp [eV]),(by have:=O1.out;rw [List.replicate_succ] at this;exact this),B1.out⟩
 case round=>
  obtain ⟨i,m,cy,ds,him,rfl,hcy,hdl,hdv,hOi,hB⟩:=hrel;by_cases hm0:m=0
  case pos=>
   subst hm0;obtain rfl:i=n:=by omega
   have hvv:=hid (show aM (ds++(cy:Int) :: List.replicate 0 0)=x * 2 ^ k from by
    show aM (ds ++ [(cy:Int)])=_;have h1:=hdv.out;rw [List.take_of_length_le (by rw [lx.out];exact aB),hvx.out] at h1;rw [eZ,hdl.out,h1])
   have htr:=hid (eO (some ⟨w.heap.size,0,none⟩) (i+1) (i+1) _ wr hOi.out.datF (by omega) aB (by unfold maxLen;omega));rw [hvv.out] at htr
   go_wp2_with fail
   refine htr.out.mono ?_;rintro e w2 ⟨a',c',rfl,hs,hc1,hc2,_,rfl⟩;have HS:=hid hs;clear hs htr;go_wp2;go_ret;exact⟨a',c',rfl,HS.out,hc1,hc2,hB.out⟩
  case neg=>
   obtain ⟨m',rfl⟩:∃m',m=m'+1:=⟨m - 1,by omega⟩;obtain ⟨b1,o1,rfl,k1,u1⟩:=(hx'.out).at64 (k:=i) (by rw [lx.out];omega);have hbl:=(hx'.out.2 (by omega)).choose_spec;have kx':wr.cell? ⟨b1,o1+i,none⟩=some (.int .u64 (nth xs i)):=by
    obtain ⟨o',he,hlt,_⟩:=hbl;injection he with he
    injection he with h1 h2 _
    rw [World.cell?_of_block (w:=w) (a:=⟨b1,o1+i,none⟩) (hB.out.block b1 (by rw [h1];exact hlt))];exact k1
   have e2:=u1.cast;have l2:=hid u1.lt;have tw:=hid (bI (l:=xs) (i:=i) (by rw [lx.out];omega));rw [<-e2] at kx';generalize (nth xs i).toNat=y at *;clear e2 u1 k1 hbl;obtain ⟨lo,d,v,t,p1,p2,pd,p3,p4,p5,p6,pv,pvW,pe⟩:=aD4 y cy k l2.out hcy.out hk;have hst:=hid (left_step hdv.out hdl.out pe);have PD:=hid pd;have PV:=hid pv;have y0:=hOi.out.cell (j:=i) (by omega);have f0:=hOi.out.frz i;rw [(aAd (cy:Int) hdl.out).1] at y0;have O2:=hOi.out.set (j:=i) (x:=(d:Nat)) (eF pd);have hii:(i:Int)<n:=by omega
   by_cases hk0:0<k
   case pos=>
    have hk0i:(0:Int)<k:=by omega
    have p4':=p4 hk0;have y1:=O2.cell (j:=i+1) (by omega);have f1:=O2.frz (i+1);rw [xX _ _ hdl.out] at y1;have O3:=O2.set (j:=i+1) (x:=(v:Nat)) (eF pvW);rw [aF4 _ _ _ hdl.out] at O3;have O3':=hid O3;have B3:=hid (show Below w.heap.size w ((wr.setCell ⟨w.heap.size,i,none⟩ (.int .u64 (d:Nat))).setCell ⟨w.heap.size,i+1,none⟩ (.int .u64 (v:Nat))) from(hB.out.setCell aB _).setCell aB _);clear O2 O3 pd pv pvW pe p4 hk0;go_wp2
    go_roundw
    case rel=>exact⟨i+1,m',v,ds ++ [(d:Int)],by omega,by go_num,PV.out,(by show(ds++_).length=_;have:=hdl.out;simp;omega),(by show aM _+_=_;rw [tw.out];exact hst.out),O3'.out,B3.out⟩
    case measure=>first | (simp [intOf];done) | (simp [intOf];omega)
   case neg=>
    have hk0i:¬((0:Int)<k):=by omega
    have hv0:v=0:=by
     have:k=0:=by omega
     subst this;simpa using pv
    subst hv0;rw [aD5 _ _ hdl.out] at O2;have O3':=hid O2;have B3:=hid (show Below w.heap.size w (wr.setCell ⟨w.heap.size,i,none⟩ (.int .u64 (d:Nat))) from hB.out.setCell aB _);clear O2 pd pv pvW pe p4 hk0;go_wp2
    go_roundw
    case rel=>exact⟨i+1,m',0,ds ++ [(d:Int)],by omega,by go_num,PV.out,(by show(ds++_).length=_;have:=hdl.out;simp;omega),(by show aM _+_=_;rw [tw.out];exact hst.out),O3'.out,B3.out⟩
    case measure=>first | (simp [intOf];done) | (simp [intOf];omega)
theorem aB1 (x y k:Nat) (hx:x<aO) (hk:k<64):∃lo t hi d:Nat,(x:Int) / 2 ^ k=(lo:Nat)/\lo<aO/\IntKind.u64.wrap (64 - (k:Int))=(t:Nat)/\(0<k->min t 64=t) /\
  IntKind.u64.wrap ((y:Int) * 2 ^ t)=(hi:Nat)/\bits .or .u64 (lo:Int) (hi:Int)=(d:Nat)/\d<aO/\lo * 2 ^ k+x % 2 ^ k=x/\(0<k->d=lo+hi)/\hi * 2 ^ k=aO * (y % 2 ^ k):=by
 have hlo:x / 2 ^ k<aO:=Nat.lt_of_le_of_lt (Nat.div_le_self _ _) hx;have hhi:y * 2 ^ (64 - k) % aO<aO:=Nat.mod_lt _ eL;have e:aO=2 ^ k * 2 ^ (64 - k):=by rw [<-Nat.pow_add,show k+(64 - k)=64 by omega,dS]
 refine⟨x / 2 ^ k,64 - k,y * 2 ^ (64 - k) % aO,(x / 2 ^ k) ||| (y * 2 ^ (64 - k) % aO),lR _ _,hlo,?_,fun _=>by omega,?_,?_,?_,?_,?_,?_⟩
 ·rw [show(64 - (k:Int))=((64 - k:Nat):Int) by omega];exact bE (by omega)
 ·rw [lQ,IntKind.wrap_u64];unfold aO;omega
 ·exact(bits_nat .u64 64 (by decide) wraps_u64 _ _ (by rw [dS];exact hlo) (by rw [dS];exact hhi)).2
 ·rw [<-dS];exact Nat.or_lt_two_pow (by rw [dS];exact hlo) (by rw [dS];exact hhi)
 ·have:=Nat.div_add_mod x (2 ^ k);rw [Nat.mul_comm] at this;exact this
 ·intro _;refine aBt (by omega) ?_;rw [Nat.div_lt_iff_lt_mul (Nat.two_pow_pos _),Nat.mul_comm,<-e];exact hx
 ·rw [e,Nat.mul_mod_mul_right,Nat.mul_right_comm,Nat.mul_comm (y % 2 ^ k * 2 ^ k),Nat.mul_comm (2 ^ k),Nat.mul_assoc,Nat.mul_comm (2 ^ k)]
theorem aC5 {l:List Int} {j:Nat} (h:l.length<=j):nth l j=0:=by simp [nth,List.getD,List.getElem?_eq_none h]
section
variable {ds : List Int} {i m : Nat}
theorem aD6 (d:Int) (hd:ds.length=i):nth ((ds++List.replicate (m+1) 0).set i d) i=d:=by
 subst hd;rw [cK (by simp)];simp
theorem jH (d:Int) (hd:ds.length=i):(ds++List.replicate (m+1) 0).set i d=(ds ++ [d])++List.replicate m 0:=by
 subst hd;rw [List.set_append_right _ _ aB,Nat.sub_self,List.replicate_succ];simp
theorem aD7 (l:List Int) (i:Nat) (a b:Int):(l.set i a).set i b=l.set i b:=by simp
end
theorem right_step {ds:List Int} {i x y k d r A:Nat} (h:aM ds * 2 ^ k+r=A+aO ^ i * (x % 2 ^ k)) (hl:ds.length=i) (h1:d * 2 ^ k+x % 2 ^ k=x+aO * (y % 2 ^ k)) :
  aM (ds ++ [(d:Int)]) * 2 ^ k+r=(A+aO ^ i * x)+aO ^ (i+1) * (y % 2 ^ k):=by
 have h5:aO ^ i * (d * 2 ^ k+x % 2 ^ k)=aO ^ i * (x+aO * (y % 2 ^ k)):=by rw [h1]
 rw [Nat.mul_add,Nat.mul_add,<-Nat.mul_assoc,<-Nat.mul_assoc] at h5;rw [eZ,hl,Nat.pow_succ,Nat.add_mul];omega
theorem xY {S:Nat->Prop} (a:Option Addr) (n c x k:Nat) (w:World) (hx:bJ bV.u64 S w a n (aF x)) (hn:n<=1099511627776) (hnc:n<=c) (hk:k<64) :
  Calls Tryz.prog 204 #[.slice a n c,.int .i64 k] w fun e w'=>mR (x / 2 ^ k) w e w':=by
 have q1:Int.tdiv (k:Int) 64=0:=by rw [Int.tdiv_eq_ediv_of_nonneg (by omega)];omega
 have q2:Int.tmod (k:Int) 64=k:=by rw [Int.tmod_eq_emod_of_nonneg (by omega)];omega
 have q3:IntKind.u64.wrap (k:Int)=k:=bE (by omega);have q4:min k 64=k:=by omega
 have lx:=hid hx.1;have hx':=hid hx;by_cases hn0:n=0
 case pos=>
  subst hn0;have hx0:x=0:=gP.1 hx.1;subst hx0;clear hx;go_enter Tryz.func204,Tryz.ntmps204
  go_wp2;go_ret;rw [Nat.zero_div];have hl0:(aF 0) = []:=cB;refine⟨none,0,by rw [hl0];rfl,?_,by rw [hl0];exact aB,aV,Below.refl _ _⟩;rw [hl0];exact bJ.nil _ _ _ _
 case neg=>
  obtain ⟨w1,hmk,ho1,hb1,hs1⟩:=iV n w.heap.size w hn aB;have hvx:=hid (aU x);have O1:=hid ho1;have B1:=hid hb1;have S1:=hid hs1;have hnn:¬((n:Int)<=0):=by omega
  obtain ⟨b0,o0,ha,hblt⟩:=hx.2 (by omega);have hblt':=hid hblt.1;subst ha;generalize aF x=xs at *;clear hx ho1 hb1 hs1 hblt;go_enter Tryz.func204,Tryz.ntmps204
  go_wp2
  go_loopw [26] (fun v26 wr=>∃(i m:Nat) (ds:List Int),i+m=n/\v26 = .int .i64 i/\Hid (ds.length=i)/\Hid (aM ds * 2 ^ k+(nth xs 0).toNat % 2 ^ k=aM (xs.take i)+aO ^ i * ((nth xs i).toNat % 2 ^ k))/\Hid (eW wr w.heap.size w.heap.size n (ds++List.replicate m 0))/\Hid (Below w.heap.size w wr)) (fun v26 _=>n - (intOf v26).toNat)
  case atStart=>exact⟨0,n,[],by omega,rfl,(by show([]:List Int).length=0;rfl),(by show aM [] * _+_=_;simp [eV]),(by have:=O1.out;exact this),B1.out⟩
  case round=>
   obtain ⟨i,m,ds,him,rfl,hdl,hdv,hOi,hB⟩:=hrel;by_cases hm0:m=0
   case pos=>
    subst hm0;obtain rfl:i=n:=by omega
    have hvv:aM (ds++List.replicate 0 0)=x / 2 ^ k:=by
     have h1:=hdv.out;rw [List.take_of_length_le (by rw [lx.out];exact aB),hvx.out,show nth xs i=0 from aC5 (by rw [lx.out];exact aB)] at h1;have h2:=Nat.mod_lt (nth xs 0).toNat (Nat.two_pow_pos k);have h3:x=aM ds * 2 ^ k+(nth xs 0).toNat % 2 ^ k:=by rw [h1];simp
     show aM (ds ++ [])=_;rw [List.append_nil,h3,Nat.mul_comm,Nat.mul_add_div (Nat.two_pow_pos k),Nat.div_eq_of_lt h2,Nat.add_zero]
    have htr:=hid (eO (some ⟨w.heap.size,0,none⟩) i i _ wr hOi.out.datF (by omega) aB (by unfold maxLen;omega));rw [hvv] at htr;clear hvv
    go_wp2_with fail
    refine htr.out.mono ?_;rintro e w2 ⟨a',c',rfl,hs,hc1,hc2,_,rfl⟩;have HS:=hid hs;clear hs htr;go_wp2;go_ret;exact⟨a',c',rfl,HS.out,hc1,hc2,hB.out⟩
   case neg=>
    obtain ⟨m',rfl⟩:∃m',m=m'+1:=⟨m - 1,by omega⟩;have at1:∀j,j<n->wr.cell? ⟨b0,o0+j,none⟩=some (.int .u64 ((nth xs j).toNat:Int))/\(nth xs j).toNat<aO:=fun j hj=>by
     obtain ⟨b1,o1,he,k1,u1⟩:=(hx'.out).at64 (k:=j) (by rw [lx.out];exact hj);injection he with he
     injection he with h1 h2 _
     subst h1 h2;refine⟨?_,u1.lt⟩;rw [u1.cast,World.cell?_of_block (w:=w) (a:=⟨b0,o0+j,none⟩) (hB.out.block b0 hblt'.out)];exact k1
    obtain ⟨kx,lx1⟩:=at1 i (by omega);have tw:=hid (bI (l:=xs) (i:=i) (by rw [lx.out];omega));obtain ⟨lo,t,hi,d,p1,pl,p2,p3,p4,p5,pd,e1,e2,e3⟩:=aB1 (nth xs i).toNat (nth xs (i+1)).toNat k lx1 hk;have y0:=hOi.out.cell (j:=i) (by omega);have f0:=hOi.out.frz i;have O2:=hOi.out.set (j:=i) (x:=(lo:Nat)) (eF pl);have hii:(i:Int)<n:=by omega
    have B2:=(show Below w.heap.size w (wr.setCell ⟨w.heap.size,i,none⟩ (.int .u64 (lo:Nat))) from hB.out.setCell aB _);have hstep:∀d':Nat,d' * 2 ^ k+(nth xs i).toNat % 2 ^ k=(nth xs i).toNat+aO * ((nth xs (i+1)).toNat % 2 ^ k)->Hid (aM (ds ++ [(d':Int)]) * 2 ^ k+(nth xs 0).toNat % 2 ^ k=aM (xs.take (i+1))+aO ^ (i+1) * ((nth xs (i+1)).toNat % 2 ^ k)):=fun d' h=>by
     show _=_;rw [tw.out];exact right_step hdv.out hdl.out h
    by_cases hgo:0<k/\i+1<n
    case pos=>
     obtain ⟨hk0,hin⟩:=hgo;obtain ⟨kx2,_⟩:=at1 (i+1) hin;have hst:=hstep d (by rw [e2 hk0,Nat.add_mul,e3];omega);have p3':=p3 hk0;have hk0i:(0:Int)<k:=by omega
     have hini:(i:Int)+1<n:=by omega
     have y1:=O2.cell (j:=i) (by omega);have f1:=O2.frz i;rw [aD6 _ hdl.out] at y1;have O3:=O2.set (j:=i) (x:=(d:Nat)) (eF pd);rw [aD7,jH _ hdl.out] at O3;have O3':=hid O3;have B3:=hid (show Below w.heap.size w ((wr.setCell ⟨w.heap.size,i,none⟩ (.int .u64 (lo:Nat))).setCell ⟨w.heap.size,i,none⟩ (.int .u64 (d:Nat))) from B2.setCell aB _);clear O2 O3 B2 e1 e2 e3 pd pl p3 hk0 hstep at1 lx1;generalize (nth xs i).toNat=X at *;generalize hYd:(nth xs (i+1)).toNat=Y at *;have hYd':=hid hYd;clear hYd;go_wp2
     all_goals (try go_region)
     all_goals (try go_wp2)
     all_goals first
      | (exfalso;omega)
      | (exfalso;simp_all;done)
      | (
        refine⟨⟨i+1,m',ds ++ [(d:Int)],by omega,by go_num,(by show(ds++_).length=_;have:=hdl.out;simp;omega),(by show _=_;rw [hYd'.out];exact hst.out),O3'.out.same rfl,B3.out.drewN 1⟩,?_⟩
        first | (simp [intOf];done) | (simp [intOf];omega))
    case neg=>
     have hY:(nth xs (i+1)).toNat % 2 ^ k=0:=by
      by_cases hk0:0<k
      ·rw [show nth xs (i+1)=0 from aC5 (by rw [lx.out];omega)];simp
      ·rw [show k=0 by omega,Nat.pow_zero,Nat.mod_one]
     have hst:=hstep lo (by rw [hY,Nat.mul_zero,Nat.add_zero];exact e1);rw [jH _ hdl.out] at O2;have O3':=hid O2;have B3:=hid B2;clear O2 B2 e1 e2 e3 pd pl p3 hstep hY;by_cases hk0:0<k
     ·have hk0i:(0:Int)<k:=by omega
      have hini:¬((i:Int)+1<n):=by omega
      clear hgo at1 lx1;generalize (nth xs i).toNat=X at *;go_wp2
      go_roundw
      case rel=>exact⟨i+1,m',ds ++ [(lo:Int)],by omega,by go_num,(by show(ds++_).length=_;have:=hdl.out;simp;omega),hst.out,O3'.out,B3.out⟩
      case measure=>first | (simp [intOf];done) | (simp [intOf];omega)
     ·have hk0i:¬((0:Int)<k):=by omega
      clear hgo at1 lx1;generalize (nth xs i).toNat=X at *;go_wp2
      go_roundw
      case rel=>exact⟨i+1,m',ds ++ [(lo:Int)],by omega,by go_num,(by show(ds++_).length=_;have:=hdl.out;simp;omega),hst.out,O3'.out,B3.out⟩
      case measure=>first | (simp [intOf];done) | (simp [intOf];omega)
theorem eW.copyAt {base g N:Nat}:∀(zs:List Int) {w:World} {xs:List Int} (o:Nat),eW w base g N xs->bO zs->o+zs.length<=N->eW (w.setCells g o (zs.map (Value.int .u64))) base g N (xs.take o++(zs++xs.drop (o+zs.length))):=by
 intro zs
 induction zs with
 | nil=>intro w xs o h _ _;simpa [World.setCells] using h
 |
  cons z zs ih=>
  intro w xs o h hz hl;have hl':o<N:=by simp at hl;omega
  have h1:=h.set (j:=o) (x:=z) (hz z (by simp));have h2:=ih (o+1) h1 (fun y hy=>hz y (by simp [hy])) (by simp at hl;omega);have e:(xs.set o z).take (o+1)++(zs++(xs.set o z).drop (o+1+zs.length))=xs.take o++((z :: zs)++xs.drop (o+(z :: zs).length)):=by
   have ho:o<xs.length:=by rw [h.1];exact hl'
   rw [List.take_add_one,List.take_set_of_le aB,List.getElem?_set_self ho,List.drop_set_of_lt (by omega)];simp [Nat.add_assoc,Nat.add_comm 1]
  rw [e] at h2;exact h2
theorem eW.copy {w:World} {base g N:Nat} {xs zs:List Int} (h:eW w base g N xs) (hz:bO zs) (hl:zs.length<=N):eW (w.setCells g 0 (zs.map (Value.int .u64))) base g N (zs++xs.drop zs.length):=by
 have:=h.copyAt zs 0 hz (by omega)
 simpa using this
theorem qP.copyAt {g:Nat} {a:World}:∀(vs:List Value) (o:Nat) (w:World),qP g a w->qP g a (w.setCells g o vs)
 | [],_,_,h=>h
 | v :: vs,o,_,h=>qP.copyAt vs (o+1) _ (h.setCell o v)
theorem aD8 {S:Nat->Prop} {w:World} {base g N n c m:Nat} {xs zs:List Int} {a:Option Addr} (ty:TypeId) (h:eW w base g N xs) (hs:bJ bV.u64 S w a n zs) (hn:n<=N) (h0:0<n) :
  (Builtin.copy_ #[34,34] ty #[.slice (some ⟨g,0,none⟩) N c,.slice a n m]).run Tryz.prog w = .ok (goInt n) (w.setCells g 0 (zs.map (Value.int .u64))):=by
 have hl:=hs.1;obtain ⟨b,o,rfl,_,_⟩:=hs.at64 (k:=0) (by omega);have hm:(zs.map (Value.int .u64)).length=n:=by rw [List.length_map];exact hl
 have:=run_copy_cells (P:=Tryz.prog) w 34 34 ty 177 g 0 N c ⟨b,o,none⟩ n m (zs.map (Value.int .u64)) Tryz.underlying34 (by kernel_rfl) (by rw [hm];exact(Nat.min_eq_left hn).symm)
  (fun j v hv=>by
   rw [List.getElem?_map] at hv;obtain ⟨x,hx,rfl⟩:=Option.map_eq_some_iff.1 hv;have hj:=(List.getElem?_eq_some_iff.1 hx).1;obtain ⟨b',o',he,k1,_⟩:=hs.at64 hj;injection he with he
   injection he with h1 h2 _
   subst h1 h2;rw [cK hj] at k1;rw [List.getElem?_eq_getElem hj] at hx;injection hx with hx
   rw [hx] at k1;simp only [Addr.add];by_cases h0:j=0
   ·subst h0;simpa using k1
   ·rw [if_neg h0];exact k1)
  (fun j hj=>by rw [Nat.zero_add,h.cell (j:=j) (by omega)];rfl) (fun j _=>by rw [Nat.zero_add];exact h.frz j)
  (fun v hv=>by
   obtain ⟨x,_,rfl⟩:=List.mem_map.1 hv;rfl)
 rw [hm] at this;exact this
theorem wF {ds:List Int} {n:Nat} (hl:ds.length=n+1) (ho:bO ds):(nth ds n).toNat=aM ds / aO ^ n:=by
 have h1:=bI (l:=ds) (i:=n) (by omega);rw [List.take_of_length_le (by omega)] at h1;have h2:=eR (ho.take n);rw [List.length_take,Nat.min_eq_left (by omega)] at h2;rw [h1,Nat.add_mul_div_left _ _ (Nat.pow_pos eL),Nat.div_eq_of_lt h2,Nat.zero_add]
theorem aB2 {ds:List Int} {Xw B k qt:Nat} (hB:0<B) (h:aM ds+B * k=Xw) (hq:qt=Xw / B) (hk:qt<=k):k=qt/\aM ds=Xw % B:=by
 have h1:k<=Xw / B:=by rw [Nat.le_div_iff_mul_le hB,Nat.mul_comm];omega
 have hkq:k=qt:=by omega
 refine⟨hkq,?_⟩;have:=Nat.div_add_mod Xw B;rw [<-hq,<-hkq] at this;omega
theorem aB3 {ds ds':List Int} {Xw B k qt n:Nat} (hBn:B<aO ^ n) (hl:ds.length=n+1) (ho:bO ds) (hl':ds'.length=n+1) (ho':bO ds') (h:aM ds+B * k=Xw+aO ^ (n+1)) (hq:qt=Xw / B) (hk:qt<=k)
  (hd:aM ds'=(aM ds+B) % aO ^ (n+1)):∃p,k=p+1/\qt<=p/\aM ds'+B * p=Xw+aO ^ (n+1) * (if (nth ds n).toNat<=(nth ds' n).toNat then 1 else 0):=by
 have hlt:=eR ho;rw [hl] at hlt;have hkq:qt<k:=by
  rcases Nat.lt_or_ge qt k with hh | hh
  ·exact hh
  ·exfalso
   have:k=qt:=by omega
   subst this;have h2:=Nat.div_mul_le_self Xw B;rw [<-hq,Nat.mul_comm] at h2;omega
 obtain ⟨p,rfl⟩:∃p,k=p+1:=⟨k - 1,by omega⟩;refine⟨p,rfl,by omega,?_⟩;rw [Nat.mul_add,Nat.mul_one] at h;rw [wF hl ho,wF hl' ho',hd];have ht:=aFw hlt hBn;rcases Nat.lt_or_ge (aM ds+B) (aO ^ (n+1)) with hh | hh
 ·obtain ⟨h1,h2⟩:=ht.1 hh;rw [if_pos h1,h2];omega
 ·obtain ⟨h1,h2⟩:=ht.2 hh;rw [if_neg (by omega)];omega
theorem wG {pre win post:List Int} {i n B:Nat} (hp:pre.length=i) (hw:win.length=n+1) (ho:bO (pre++(win++post))) (hB:B<aO ^ n) (hR:aM (pre++(win++post))<B * aO ^ (i+1)) :
  aM post=0/\aM (pre++(win++post)) / aO ^ i=aM win/\aM (pre++(win++post)) % aO ^ i=aM pre:=by
 have hp0:0<aO ^ i:=Nat.pow_pos eL;have e:aM (pre++(win++post))=aM pre+aO ^ i * (aM win+aO ^ (n+1) * aM post):=by rw [dD,dD,hp,hw]
 have hpl:aM pre<aO ^ i:=by have:=eR (l:=pre) (fun x hx=>ho x (by simp [hx]));rwa [hp] at this
 have hz:aM post=0:=by
  rcases Nat.eq_zero_or_pos (aM post) with h | h
  ·exact h
  ·exfalso
   have h1:aO ^ i * (aO ^ (n+1) * 1)<=aO ^ i * (aO ^ (n+1) * aM post):=Nat.mul_le_mul_left _ (Nat.mul_le_mul_left _ h);have h2:B * aO ^ (i+1)<=aO ^ n * aO ^ (i+1):=Nat.mul_le_mul_right _ (Nat.le_of_lt hB);have h3:aO ^ n * aO ^ (i+1)=aO ^ i * (aO ^ (n+1) * 1):=by rw [Nat.mul_one,<-Nat.pow_add,<-Nat.pow_add];congr 1;omega
   rw [Nat.mul_add] at e;omega
 rw [hz,Nat.mul_zero,Nat.add_zero] at e;refine⟨hz,?_,?_⟩
 ·rw [e,Nat.add_mul_div_left _ _ hp0,Nat.div_eq_of_lt hpl,Nat.zero_add]
 ·rw [e,Nat.add_mul_mod_self_left,Nat.mod_eq_of_lt hpl]
theorem aC6 {l:List Int} {n:Nat} (hl:l.length=n+2):aM l=aM (l.take n)+aO ^ n * ((nth l (n+1)).toNat * aO+(nth l n).toNat):=by
 have h1:=bI (l:=l) (i:=n+1) (by omega);have h2:=bI (l:=l) (i:=n) (by omega);rw [List.take_of_length_le (by omega)] at h1;rw [h1,h2,Nat.pow_succ,Nat.mul_add,Nat.mul_assoc (aO ^ n),Nat.mul_comm aO (nth l (n+1)).toNat];omega
theorem aKz (W D x p T:Nat) (h:T<p):T+p * x+p * (W * D)<(D * W+x+1) * p:=by
 rw [Nat.mul_comm W D,Nat.mul_comm _ p,Nat.mul_add,Nat.mul_add,Nat.mul_one];omega
theorem aF5 {win bs:List Int} {n:Nat} (hw:win.length=n+3) (hb:bs.length=n+2) (hwo:bO win) :
  aM win / aM bs * ((nth bs (n+1)).toNat * aO+(nth bs n).toNat)<=((nth win (n+2)).toNat * aO+(nth win (n+1)).toNat) * aO+(nth win n).toNat:=by
 refine aFu (m:=n) ?_ ?_
 ·have h1:=aC6 (l:=win) (n:=n+1) (by omega);have h2:=bI (l:=win) (i:=n) (by omega);have h3:=eR (hwo.take n);rw [List.length_take,Nat.min_eq_left (by omega)] at h3;rw [h1,h2,Nat.pow_succ,Nat.mul_assoc];exact aKz _ _ _ _ _ h3
 ·rw [aC6 hb,Nat.mul_comm];omega
def kK (B:Nat) (y:Nat) (w':World) (v:Value):Prop:=∃a c,v = .slice a (aF y).length c/\bJ bV.u64 (dM B w') w' a (aF y).length (aF y)/\(aF y).length<=c/\c<=maxLen
theorem kK.all {B y:Nat} {w w':World} {v:Value} (h:kK B y w v) (hb:Below w.heap.size w w'):kK B y w' v:=by
 obtain ⟨a,c,h1,h2,h3,h4⟩:=h;exact⟨a,c,h1,h2.move (Below.dat hb) hb.size,h3,h4⟩
theorem kK.mono {B B' y:Nat} {w:World} {v:Value} (h:kK B y w v) (hB:B'<=B):kK B' y w v:=by
 obtain ⟨a,c,h1,h2,h3,h4⟩:=h;exact⟨a,c,h1,h2.mono fun _ _ hk=>⟨hk.1,aK hB hk.2⟩,h3,h4⟩
theorem kK.zero {B:Nat} {w:World}:kK B 0 w (.slice none 0 0):=by
 refine⟨none,0,?_,?_,?_,aV⟩ <;> rw [cB]
 ·rfl
 ·exact bJ.nil _ _ _ _
 ·exact aB
theorem kK.own {B base y:Nat} {w:World} {v:Value} (h:bK bV.u64 (fun _=>False) w base 177 v (aF y)) (hB:B<=base):kK B y w v:=by
 obtain ⟨a,c,rfl,h1,h2⟩:=h.slice;exact⟨a,c,rfl,h.datF hB,h1,h2⟩
def aC7 (x y:Nat) (w:World) (e:Ending) (w':World):Prop:=∃v1 v2,e = .returned (.tuple #[v1,v2])/\kK w.heap.size (x / y) w' v1/\kK w.heap.size (x % y) w' v2/\Below w.heap.size w w'
theorem Below.ofDrew {B q:Nat} {w w':World} (h:Below B (w.drewN q) w'):Below B w w':=⟨h.os,h.tape,h.output,h.size,h.block⟩
theorem aC8 (w:World) (r:Int) (hr:uX r) (base:Nat) (hb:base<=w.heap.size):eW (w.alloc (.cells #[.int .u64 r] 177)) base w.heap.size 1 [r]:=
 ⟨rfl,hb,fun x hx=>by rw [List.mem_singleton.1 hx];exact hr,#[.int .u64 r],heap_alloc_new w _,rfl⟩
section
variable {S S' : Nat -> Prop} (a b : Option Addr) (n m c d x y : Nat) (w : World) (hx : bJ bV.u64 S w a n (aF x)) (hy : bJ bV.u64 S' w b m (aF y)) (hn : n <= 549755813888) (hm : m <= 549755813888) (hnc : n <= c) (hcm : c <= maxLen)
include hx hy hn hm hnc hcm
theorem aD9 (hlt:x<y):Calls Tryz.prog 171 #[.slice a n c,.slice b m d] w fun e w'=>aC7 x y w e w':=by
 have hor:=hid (dH a b n m c d x y w hx hy (by omega) (by omega));rw [mD hlt] at hor;have htr:=eO a n c (aF x) (w) hx (by omega) hnc hcm;have hx':=hid hx;have hlt':=hid hlt;have hnm:=hid (show n<17592186044416/\n<=c/\c<=maxLen from⟨by omega,hnc,hcm⟩);clear hx hy hn hm hnc hcm htr hlt;go_enter Tryz.func171,Tryz.ntmps171
 go_wp2_with fail
 refine hor.out.mono ?_;rintro e w2 ⟨rfl,q,rfl⟩;have htr:=eO (S:=S) a n c (aF x) (w.drewN q) (hx'.out.keep (fun _ _ _=>rfl) aB) hnm.out.1 hnm.out.2.1 hnm.out.2.2;rw [aU] at htr;have htr':=hid htr;clear htr
 go_wp2_with fail
 refine htr'.out.mono ?_;rintro e w3 ⟨a',c',rfl,hs,hc1,hc2,_,rfl⟩;have hcl:=hid (cV a' (aF x).length c' (aF x) (w.drewN q) hs (by rw [<-hx'.out.1] at *;exact Nat.lt_of_le_of_lt (Nat.le_of_eq hx'.out.1) hnm.out.1));clear hs hc1 hc2;generalize hlx:(aF x).length=lx at *;clear hlx
 go_wp2_with fail
 refine hcl.out.mono ?_;rintro e w4 ⟨a2,c2,rfl,ho,hb⟩;have HO:=hid ho;have HB:=hid hb;clear ho hb hcl;go_wp2;go_ret2;refine⟨_,_,rfl,?_,?_,Below.ofDrew HB.out⟩
 ·rw [Nat.div_eq_of_lt hlt'.out];exact kK.zero
 ·rw [Nat.mod_eq_of_lt hlt'.out];exact kK.own HO.out aB
omit hnc hcm in
theorem aF6 (hle:y<=x) (hy0:0<y) (hm1:m=1):Calls Tryz.prog 171 #[.slice a n c,.slice b m d] w fun e w'=>aC7 x y w e w':=by
 have hor:=hid (dH a b n m c d x y w hx hy (by omega) (by omega));subst hm1;have hcmp:¬(dU x y<0):=by unfold dU;split <;> (try split) <;> omega
 have hyl:(aF y).length=1:=hy.1;have hyW:y<aO:=by have:=mZ y;rwa [hyl,Nat.pow_one] at this
 have hly:aF y = [(y:Int)]:=by
  rw [eS hy0,Nat.mod_eq_of_lt hyW,Nat.div_eq_of_lt hyW,cB]
 obtain ⟨b0,o0,rfl,k0,_⟩:=hy.at64 (k:=0) (by omega);rw [hly,Nat.add_zero] at k0;have k0':w.cell? ⟨b0,o0,none⟩=some (.int .u64 (y:Int)):=k0;have hx':=hid hx;have hnn:=hid (show n<=1099511627776 by omega);have hyW':=hid hyW;have hy0':=hid hy0;generalize dU x y=cv at *;clear hx hy hn hm hyl hyW hly hle hy0 k0;go_enter Tryz.func171,Tryz.ntmps171
 go_wp2_with fail
 refine hor.out.mono ?_;rintro e w2 ⟨rfl,q,rfl⟩;have hbl:=hid (aBy (S:=S) a n c x y (w.drewN q) (hx'.out.keep (fun _ _ _=>rfl) aB) hnn.out hy0'.out hyW'.out)
 go_wp2_with fail
 refine hbl.out.mono ?_;rintro e w3 ⟨a1,c1,rfl,hs,hc1,hc2,hb⟩;have hr:x % y<aO:=bN (Nat.mod_lt _ hy0'.out) (Nat.le_of_lt hyW'.out);have O:=aC8 w3 (x % y:Nat) (eF hr) w.heap.size hb.size;have HQ:=hid (kK.all (B:=w.heap.size) (w':=w3.alloc (.cells #[.int .u64 (x % y:Nat)] 177)) ⟨a1,c1,rfl,hs,hc1,hc2⟩ (bD));have HB:=hid (show Below w.heap.size w (w3.alloc (.cells #[.int .u64 (x % y:Nat)] 177)) from(Below.ofDrew hb).alloc hb.size _);have htr:=eO _ 1 1 _ _ (O.datF) (by omega) aB (by unfold maxLen;omega);have hv1:aM [((x % y:Nat):Int)]=x % y:=by rw [eY,eV,Int.toNat_natCast];rfl
 rw [hv1] at htr;have htr':=hid htr;clear hs hc1 hc2 hb hbl O htr hv1 hr;generalize hrr:x % y=r at *;generalize hqq:x / y=qq at *;have hrr':=hid hrr;have hqq':=hid hqq;clear hrr hqq;generalize (aF qq).length=ql at *
 go_wp2_with fail
 refine htr'.out.mono ?_;rintro e w4 ⟨a2,c2,rfl,h1,h2,h3,_,rfl⟩;have HR:=hid (show kK w.heap.size r _ _ from⟨a2,c2,rfl,h1,h2,h3⟩);clear h1 h2 h3 htr';go_wp2;go_ret2;exact⟨_,_,rfl,by rw [hqq'.out];exact HQ.out,by rw [hrr'.out];exact HR.out,HB.out⟩
end
theorem aEa {x y n m:Nat} (hn:(aF x).length=n) (hm:(aF y).length=m) (hle:y<=x) (hy:0<y) :
  ∃s,s<64/\Go.Lib.bitLen (nth (aF y) (m - 1)).toNat=64 - s/\(aF (y * 2 ^ s)).length=m/\(aF (x * 2 ^ s)).length<=n+1/\0<(aF (x * 2 ^ s)).length/\m<=n/\x * 2 ^ s<y * 2 ^ s * aO ^ (n - m+1):=by
 have hm0:0<m:=by rw [<-hm];exact aZ.2 hy
 have hmn:m<=n:=by rw [<-hn,<-hm];exact eT hle
 have h1:=bI (l:=aF y) (i:=m - 1) (by omega);rw [show m - 1+1=m by omega,List.take_of_length_le (by omega),aU] at h1;have h2:=eR ((dL y).take (m - 1));rw [List.length_take,Nat.min_eq_left (by omega)] at h2;have h3:=qJ hy;rw [hm] at h3;have hTW:(nth (aF y) (m - 1)).toNat<aO:=((dL y).nth (by omega)).lt;generalize (nth (aF y) (m - 1)).toNat=T at *;generalize aM ((aF y).take (m - 1))=A at *;have hT:0<T:=by
  rcases Nat.eq_zero_or_pos T with rfl | h
  ·rw [Nat.mul_zero] at h1;omega
  ·exact h
 obtain ⟨s,hs,hb,_,hs2⟩:=aBx hT hTW;have hp:=Nat.two_pow_pos s;have hB:y * 2 ^ s<aO ^ m:=by
  have e:aO=2 ^ (64 - s) * 2 ^ s:=by rw [<-Nat.pow_add,show 64 - s+s=64 by omega,dS]
  have h4:T<2 ^ (64 - s):=by
   have h5:T * 2 ^ s<2 ^ (64 - s) * 2 ^ s:=by rw [<-e];exact hs2
   exact Nat.lt_of_mul_lt_mul_right h5
  have h5:(T+1) * 2 ^ s<=2 ^ (64 - s) * 2 ^ s:=Nat.mul_le_mul_right _ h4;have h6:y<aO ^ (m - 1) * (T+1):=by rw [Nat.mul_add,Nat.mul_one];omega
  have h7:y * 2 ^ s<aO ^ (m - 1) * (T+1) * 2 ^ s:=Nat.mul_lt_mul_of_pos_right h6 hp;have h8:aO ^ (m - 1) * (T+1) * 2 ^ s<=aO ^ (m - 1) * aO:=by rw [Nat.mul_assoc];exact Nat.mul_le_mul_left _ (by rw [<-e] at h5;exact h5)
  rw [<-Nat.pow_succ,show(m - 1).succ=m by omega] at h8;omega
 have hxW:x<aO ^ n:=by rw [<-hn];exact mZ x
 have hX:x * 2 ^ s<aO ^ n * 2 ^ s:=Nat.mul_lt_mul_of_pos_right hxW hp;have h2s:2 ^ s<=aO:=by rw [<-dS];exact Nat.pow_le_pow_right (by decide) (by omega)
 refine⟨s,hs,hb,?_,cT ?_,aZ.2 (Nat.mul_pos (by omega) hp),hmn,?_⟩
 ·have h9:=cT hB;have h10:=eT (a:=y) (b:=y * 2 ^ s) (Nat.le_mul_of_pos_right _ hp);omega
 ·rw [Nat.pow_succ];exact bN hX (Nat.mul_le_mul_left _ h2s)
 ·refine bN hX ?_;have h11:aO ^ (m - 1) * 2 ^ s * aO ^ (n - m+1)<=y * 2 ^ s * aO ^ (n - m+1):=Nat.mul_le_mul_right _ (Nat.mul_le_mul_right _ h3);have h12:aO ^ (m - 1) * 2 ^ s * aO ^ (n - m+1)=aO ^ n * 2 ^ s:=by rw [Nat.mul_right_comm,<-Nat.pow_add,show m - 1+(n - m+1)=n by omega]
  omega
structure QJ (X B N j:Nat) (xs qs:List Int):Prop where
 eq:X=aM qs * aO ^ j * B+aM xs
 lt:aM xs<B * aO ^ j
 len:qs.length+j=N
 ok:bO qs
theorem QJ.step {X B N i n:Nat} {pre win post ds qs:List Int} (h:QJ X B N (i+1) (pre++(win++post)) qs) (hp:pre.length=i) (hw:win.length=n+1) (ho:bO (pre++(win++post))) (hB:B<aO ^ n) (hB0:0<B) (hd:aM ds=aM win % B) :
  QJ X B N i (pre++(ds++post)) (((aM win / B:Nat):Int) :: qs)/\aM win / B<aO:=by
 obtain ⟨h1,h2,h3⟩:=wG hp hw ho hB h.lt;obtain ⟨q1,q2,q3⟩:=vX h.eq hB0 h.lt;rw [h2,h3] at q1;rw [h2,h3] at q2;rw [h2] at q3;have hv:aM (pre++(ds++post))=aM win % B * aO ^ i+aM pre:=by
  rw [dD,dD,h1,Nat.mul_zero,Nat.add_zero,hp,hd,Nat.mul_comm];omega
 refine⟨⟨?_,?_,by have:=h.len;simp only [List.length_cons];omega,fun z hz=>?_⟩,q3⟩
 ·rw [hv,eY,Int.toNat_natCast,Nat.mul_comm aO,Nat.add_comm (aM win / B)];exact q1
 ·rw [hv];exact q2
 ·rcases List.mem_cons.1 hz with rfl | hz
  ·exact eF q3
  ·exact h.ok z hz
theorem QJ.digit {X B N i n:Nat} {pre win post qs:List Int} (h:QJ X B N (i+1) (pre++(win++post)) qs) (hp:pre.length=i) (hw:win.length=n+1) (ho:bO (pre++(win++post))) (hB:B<aO ^ n) (hB0:0<B):aM win / B<aO:=by
 have q3:=(vX h.eq hB0 h.lt).2.2
 rwa [(wG hp hw ho hB h.lt).2.1] at q3
theorem QJ.done {x y s N:Nat} {xs qs:List Int} (h:QJ (x * 2 ^ s) (y * 2 ^ s) N 0 xs qs):aM qs=x / y/\aM xs / 2 ^ s=x % y:=by
 have hp:=Nat.two_pow_pos s;have h1:=h.eq;have h2:=h.lt;rw [Nat.pow_zero,Nat.mul_one] at h1 h2;have hB:0<y * 2 ^ s:=by omega
 have e1:x * 2 ^ s / (y * 2 ^ s)=aM qs:=by rw [h1,Nat.mul_comm (aM qs),Nat.mul_add_div hB,Nat.div_eq_of_lt h2,Nat.add_zero]
 have e2:x * 2 ^ s % (y * 2 ^ s)=aM xs:=by rw [h1,Nat.mul_comm (aM qs),Nat.mul_add_mod,Nat.mod_eq_of_lt h2]
 rw [Nat.mul_div_mul_right _ _ hp] at e1;rw [Nat.mul_mod_mul_right] at e2;exact⟨e1.symm,by rw [<-e2,Nat.mul_div_cancel _ hp]⟩
end Go.Proofs.YtgoojkiccdjplaaGreatDoor
