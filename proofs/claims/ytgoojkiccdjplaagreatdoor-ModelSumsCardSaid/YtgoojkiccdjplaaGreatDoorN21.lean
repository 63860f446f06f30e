/-
  Parts of this claim's texts, one behind the other: FG FH FI FJ FK FL. No condition.
-/
import Derived.Test.YtgoojkiccdjplaaGreatDoorN20
set_option linter.unusedVariables false
set_option linter.unusedSimpArgs false
set_option maxRecDepth 100000
set_option maxHeartbeats 16000000
namespace Go.Proofs.YtgoojkiccdjplaaGreatDoor
open Go.RowKit Go.Sort Go.Lib
theorem wO:∀(l m:List bP),l.length≠m.length->jU l m=false
 | [],[],h=>absurd rfl h
 | [],_ :: _,_=>rfl
 | _ :: _,[],_=>rfl
 |
  _ :: l,_ :: m,h=>by
  show(iQ _ _ && jU l m)=false;rw [wO l m (fun e=>h (by simp only [List.length_cons,e])),Bool.and_false]
theorem aCj {l m:List bP} {k:Nat} (h1:k<l.length) (h2:k<m.length):jU (l.drop k) (m.drop k)=(iQ (bF l k) (bF m k) && jU (l.drop (k+1)) (m.drop (k+1))):=by
 rw [List.drop_eq_getElem_cons h1,List.drop_eq_getElem_cons h2];have e1:l[k]=bF l k:=by have:=cO h1;rw [List.getElem?_eq_getElem h1] at this;injection this
 have e2:m[k]=bF m k:=by have:=cO h2;rw [List.getElem?_eq_getElem h2] at this;injection this
 rw [e1,e2];rfl
section
variable {S S' : Nat -> Prop}
theorem aAt (a b:Option Addr) (n c m d:Nat) (l l2:List bP) (w:World) (h:bJ fP S w a n l) (k:bJ fP S' w b m l2) (hn:n<=1000000) (hm:m<=1000000) (hs:∀v∈l,cZ v) :
  Calls Tryz.prog 93 #[.slice a n c,.slice b m d,.func (.func 43) #[] #[]] w fun e w'=>e = .returned (.bool (jU l l2))/\Below w.heap.size w w':=by
 have H:=hid h;have K:=hid k;have hl:=hid h.1;have hk:=hid k.1;have hs':=hid hs;obtain ⟨z,hz⟩:∃z,jU l l2=z:=⟨_,rfl⟩;have hz0:=hid hz;rw [hz];clear hz h k hs;by_cases hnm:n=m
 case neg=>
  have hv:=hid (show false=z from by rw [<-hz0.out];exact(wO l l2 (by rw [hl.out,hk.out];exact hnm)).symm);have hni:¬(n:Int)=m:=by omega
  have hnb:((n:Int) != m)=true:=by simpa using hni
  have hnb2:((n:Int) == m)=false:=by simpa using hni
  have hnd:decide ((n:Int)=m)=false:=decide_eq_false hni;go_enter Tryz.func93,Tryz.ntmps93
  go_wp2;go_ret;exact⟨aQ hv.out,Below.refl _ _⟩
 case pos=>
  subst hnm;go_enter Tryz.func93,Tryz.ntmps93
  go_wp2
  go_loopw [17] (fun v17 wr=>∃k:Nat,k<=n/\v17 = .int .i64 k/\Hid (jU (l.drop k) (l2.drop k)=z)/\Hid (Below w.heap.size w wr)) (fun v17 _=>n - (intOf v17).toNat)
  case atStart=>exact⟨0,aV,rfl,by show jU (l.drop 0) (l2.drop 0)=z;rw [bT,bT];exact hz0.out,Below.refl _ _⟩
  case round=>
   obtain ⟨k,hkn,rfl,hE,hB⟩:=hrel;obtain ⟨wa,rfl⟩:∃wa,wa=wr:=⟨_,rfl⟩;by_cases hlt:k<n
   case neg=>
    obtain rfl:k=n:=by omega
    have hki:¬(k:Int)<k:=by omega
    have hv:=hid (show true=z from by rw [<-hE.out,List.drop_of_length_le (by rw [hl.out];exact aB),List.drop_of_length_le (by rw [hk.out];exact aB)];rfl);go_wp2;go_ret;exact⟨aQ hv.out,hB.out⟩
   case pos=>
    have hki:(k:Int)<n:=by omega
    have he1:=cO (l:=l) (k:=k) (by rw [hl.out];omega);have he2:=cO (l:=l2) (k:=k) (by rw [hk.out];omega);have hsm:=hid (hs'.out _ (List.mem_of_getElem? he1));have hE2:=hid (show(iQ (bF l k) (bF l2 k) && jU (l.drop (k+1)) (l2.drop (k+1)))=z from by rw [<-aCj (by rw [hl.out];omega) (by rw [hk.out];omega)];exact hE.out);obtain ⟨b3,o3,a3,c3,e3,d3,rfl,V3,hv3⟩:=(H.out.below hB.out aB).valAt he1;obtain ⟨b4,o4,a4,c4,e4,d4,rfl,V4,hv4⟩:=(K.out.below hB.out aB).valAt he2;have y0:=hv3 0 _ rfl;have y1:=hv3 1 _ rfl;have y2:=hv3 2 _ rfl;have y3:=hv3 3 _ rfl;have y4:=hv3 4 _ rfl;have y5:=hv3 5 _ rfl;rw [Nat.add_zero] at y0;have t0:=hv4 0 _ rfl;have t1:=hv4 1 _ rfl;have t2:=hv4 2 _ rfl;have t3:=hv4 3 _ rfl;have t4:=hv4 4 _ rfl;have t5:=hv4 5 _ rfl;rw [Nat.add_zero] at t0;have V3':=hid V3;have V4':=hid V4;clear he1 he2 hv3 hv4 hE V3 V4;generalize bF l k=x at *;generalize bF l2 k=y at *;obtain ⟨s,bo,⟨ng,nu,de⟩,el⟩:=x;obtain ⟨t,bp,⟨mg,mu,me⟩,em⟩:=y;dsimp only at *;have bA:=hid ((Below.refl wa.heap.size wa).alloc aB (.cells #[.int .i64 s,.bool bo,.bool ng,.slice a3 nu.length c3,.slice e3 de.length d3,.int .i64 el] 64));have hBA:=hid (aI hB bA.out);have XA:=hid (heap_alloc_new wa (.cells #[.int .i64 s,.bool bo,.bool ng,.slice a3 nu.length c3,.slice e3 de.length d3,.int .i64 el] 64))
    go_upto_region 6 with fail
    generalize (wa.alloc (.cells #[.int .i64 s,.bool bo,.bool ng,.slice a3 nu.length c3,.slice e3 de.length d3,.int .i64 el] 64))=wr at *;replace t0:=aD bA.out t0;replace t1:=aD bA.out t1;replace t2:=aD bA.out t2;replace t3:=aD bA.out t3;replace t4:=aD bA.out t4;replace t5:=aD bA.out t5;have bB:=hid ((Below.refl wr.heap.size wr).alloc aB (.cells #[.int .i64 t,.bool bp,.bool mg,.slice a4 mu.length c4,.slice e4 me.length d4,.int .i64 em] 64));have BB:=hid (aI hBA bB.out);have XB:=hid (heap_alloc_new wr (.cells #[.int .i64 t,.bool bp,.bool mg,.slice a4 mu.length c4,.slice e4 me.length d4,.int .i64 em] 64));have XA2:=hid (aJ bB.out XA.out);have hsa:=hid (oE ⟨s,bo,⟨ng,nu,de⟩,el⟩ ⟨t,bp,⟨mg,mu,me⟩,em⟩ a3 e3 a4 e4 c3 d3 c4 d4 _ ((V3'.out.below bA.out aB).below bB.out aB) ((V4'.out.below bA.out aB).below bB.out aB) hsm.out.1 hsm.out.2)
    go_upto_region 7 with fail
    generalize (wr.alloc (.cells #[.int .i64 t,.bool bp,.bool mg,.slice a4 mu.length c4,.slice e4 me.length d4,.int .i64 em] 64))=wB at *;clear y0 y1 y2 y3 y4 y5 t0 t1 t2 t3 t4 t5;obtain ⟨u0,u1,u2,u3,u4,u5⟩:=dP XA2.out;obtain ⟨v0,v1,v2,v3,v4,v5⟩:=dP XB.out;generalize iQ ⟨s,bo,⟨ng,nu,de⟩,el⟩ ⟨t,bp,⟨mg,mu,me⟩,em⟩=sv at *
    go_wp2_with fail
    refine hsa.out.mono ?_;rintro e wC ⟨rfl,bC⟩;have BC:=hid (aI BB bC);clear bC hsa u0 u1 u2 u3 u4 u5 v0 v1 v2 v3 v4 v5;cases sv
    case true=>
     have hE5:=hid (show jU (l.drop (k+1)) (l2.drop (k+1))=z from by rw [<-hE2.out];rfl);go_wp2
     go_roundw
     case rel=>exact⟨k+1,by omega,by go_num,hE5.out,BC.out⟩
     case measure=>first | (simp [intOf];done) | (simp [intOf];omega)
    case false=>
     have hv:=hid (show false=z from by rw [<-hE2.out];rfl);go_wp2;go_ret;exact⟨aQ hv.out,BC.out⟩
end
def aJf (r:kY) (g:Option Addr) (e:Nat) (a:Option Addr) (c:Nat) (b:Option Addr) (d:Nat):List Value:=.slice g r.args.length e :: qU r.val a c b d
structure yG (S:Nat->Prop) (w:World) (r:kY) (g:Option Addr) (e:Nat) (a:Option Addr) (c:Nat) (b:Option Addr) (d:Nat):Prop where
 args:bJ fP S w g r.args.length r.args
 ac:r.args.length<=e/\e<=maxLen
 val:dI S w r.val a c b d
def tbC (t:mU) (ra:Option Addr) (rc:Nat) (a:Option Addr) (c:Nat) (b:Option Addr) (d:Nat):List Value:=.string t.name :: .slice ra t.rows.length rc :: qU t.els a c b d
abbrev tbV (t:mU) (ra:Option Addr) (rc:Nat) (a:Option Addr) (c:Nat) (b:Option Addr) (d:Nat):Value:=.agg #[.string t.name,.slice ra t.rows.length rc,.int .i64 t.els.sort,.bool t.els.bool,.bool t.els.num.neg,.slice a t.els.num.num.length c,.slice b t.els.num.den.length d,.int .i64 t.els.el]
structure mV (S:Nat->Prop) (w:World) (t:mU) (ra:Option Addr) (rc:Nat) (a:Option Addr) (c:Nat) (b:Option Addr) (d:Nat):Prop where
 rows:bJ fQ S w ra t.rows.length t.rows
 rcc:t.rows.length<=rc/\rc<=maxLen
 els:dI S w t.els a c b d
def aG6 (r:kY):Prop:=(∀v∈r.args,cZ v)/\cZ r.val/\r.args.length<=1000000
def rU (t:mU):Prop:=(∀r∈t.rows,aG6 r)/\cZ t.els/\t.rows.length<=1000000
def rowAt (l:List kY) (k:Nat):kY:=l.getD k ⟨[],bZ⟩
theorem uI {l:List kY} {k:Nat} (h:k<l.length):l[k]? = some (rowAt l k):=by unfold rowAt;rw [List.getD_eq_getElem?_getD,List.getElem?_eq_getElem h];rfl
theorem aAu {nm:ByteArray} {r:kY} {l:List kY} {v:bP} {args:List bP}:dZ ⟨nm,r :: l,v⟩ args=if rowIs args r=true then r.val else dZ ⟨nm,l,v⟩ args:=by
 unfold dZ;dsimp only;rw [List.find?_cons];cases rowIs args r <;> rfl
theorem aAv {nm:ByteArray} {l:List kY} {k:Nat} {v:bP} {args:List bP} (h:k<l.length):dZ ⟨nm,l.drop k,v⟩ args=if rowIs args (rowAt l k)=true then(rowAt l k).val else dZ ⟨nm,l.drop (k+1),v⟩ args:=by
 rw [List.drop_eq_getElem_cons h,aAu];have e:l[k]=rowAt l k:=by have:=uI h;rw [List.getElem?_eq_getElem h] at this;injection this
 rw [e]
section
variable {S S' : Nat -> Prop} {w w' : World}
theorem oF {r:kY} {cs:List Value}:fQ.rd S w r cs↔∃g e a c b d,cs=aJf r g e a c b d/\yG S w r g e a c b d:=by
 constructor
 ·rintro ⟨p,q,rfl,⟨g,n,e,rfl,h1,h2,h3⟩,h4⟩;obtain ⟨a,c,b,d,rfl,h5⟩:=kM.1 h4;obtain rfl:=h3.1;exact⟨g,e,a,c,b,d,rfl,h3,⟨h1,h2⟩,h5⟩
 ·rintro ⟨g,e,a,c,b,d,rfl,h⟩;exact⟨[.slice g r.args.length e],_,rfl,⟨g,_,e,rfl,h.ac.1,h.ac.2,h.args⟩,kM.2 ⟨a,c,b,d,rfl,h.val⟩⟩
theorem qX {t:mU} {cs:List Value}:lT.rd S w t cs↔∃g e a c b d,cs=tbC t g e a c b d/\mV S w t g e a c b d:=by
 constructor
 ·rintro ⟨p,q,rfl,h0,p',q',rfl,⟨g,n,e,rfl,h1,h2,h3⟩,h4⟩;obtain ⟨a,c,b,d,rfl,h5⟩:=kM.1 h4;have h0:p = [.string t.name]:=h0;subst h0;obtain rfl:=h3.1;exact⟨g,e,a,c,b,d,rfl,h3,⟨h1,h2⟩,h5⟩
 ·rintro ⟨g,e,a,c,b,d,rfl,h⟩;exact⟨[.string t.name],_,rfl,rfl,[.slice g t.rows.length e],_,rfl,⟨g,_,e,rfl,h.rcc.1,h.rcc.2,h.rows⟩,kM.2 ⟨a,c,b,d,rfl,h.els⟩⟩
theorem bJ.rowAt {a:Option Addr} {n k:Nat} {xs:List kY} {x:kY} (h:bJ fQ S w a n xs) (hx:xs[k]? = some x) :
  ∃b o g e a' c' b' d',a=some ⟨b,o,none⟩/\yG S w x g e a' c' b' d'/\∀i u,(aJf x g e a' c' b' d')[i]? = some u->w.cell? ⟨b,o+k * 7+i,none⟩=some u:=by
 obtain ⟨b,o,cs,ha,_,hr,hc⟩:=h.at hx;obtain ⟨g,e,a',c',b',d',rfl,hv⟩:=oF.1 hr;exact⟨b,o,g,e,a',c',b',d',ha,hv,hc⟩
theorem bJ.tbAt {a:Option Addr} {n k:Nat} {xs:List mU} {x:mU} (h:bJ lT S w a n xs) (hx:xs[k]? = some x) :
  ∃b o g e a' c' b' d',a=some ⟨b,o,none⟩/\mV S w x g e a' c' b' d'/\∀i u,(tbC x g e a' c' b' d')[i]? = some u->w.cell? ⟨b,o+k * 8+i,none⟩=some u:=by
 obtain ⟨b,o,cs,ha,_,hr,hc⟩:=h.at hx;obtain ⟨g,e,a',c',b',d',rfl,hv⟩:=qX.1 hr;exact⟨b,o,g,e,a',c',b',d',ha,hv,hc⟩
theorem uJ (t:mU) (ra:Option Addr) (rc:Nat) (a:Option Addr) (c:Nat) (b:Option Addr) (d:Nat) (g:Option Addr) (n f:Nat) (args:List bP) (w:World) (h:mV S w t ra rc a c b d) (k:bJ fP S' w g n args) (ht:rU t) (hn:n<=1000000) :
  Calls Tryz.prog 38 #[tbV t ra rc a c b d,.slice g n f] w fun e w'=>rQ (dZ t args) w e w':=by
 obtain ⟨z,hz⟩:∃z,dZ t args=z:=⟨_,rfl⟩;have hz0:=hid hz;rw [hz];have H:=hid h;have K:=hid k;have hts:=hid ht.1;have hte:=hid ht.2.1;have htn:=ht.2.2;obtain ⟨nm,rows,⟨s,bo,⟨ng,nu,de⟩,el⟩⟩:=t;dsimp only at *;clear hz h k ht;have X0:=hid (cY w (.cells #[.string nm,.slice ra rows.length rc,.int .i64 s,.bool bo,.bool ng,.slice a nu.length c,.slice b de.length d,.int .i64 el] 67) (.cells #[.int .i64 0,.bool false,.bool false,.slice none 0 0,.slice none 0 0,.int .i64 0] 64));have x1:=dG w (.cells #[.string nm,.slice ra rows.length rc,.int .i64 s,.bool bo,.bool ng,.slice a nu.length c,.slice b de.length d,.int .i64 el] 67) (.cells #[.int .i64 0,.bool false,.bool false,.slice none 0 0,.slice none 0 0,.int .i64 0] 64);have hB0:=hid (bX w (.cells #[.string nm,.slice ra rows.length rc,.int .i64 s,.bool bo,.bool ng,.slice a nu.length c,.slice b de.length d,.int .i64 el] 67) (.cells #[.int .i64 0,.bool false,.bool false,.slice none 0 0,.slice none 0 0,.int .i64 0] 64));have X1:=hid x1;generalize hw0:(w.alloc (.cells #[.string nm,.slice ra rows.length rc,.int .i64 s,.bool bo,.bool ng,.slice a nu.length c,.slice b de.length d,.int .i64 el] 67)).alloc (.cells #[.int .i64 0,.bool false,.bool false,.slice none 0 0,.slice none 0 0,.int .i64 0] 64)=w0 at *;have hsz:=hid hB0.out.size;have q1:w0.cell? ⟨w.heap.size,1,none⟩=some (.slice ra rows.length rc):=aC x1 1;clear x1;go_enter Tryz.func38,Tryz.ntmps38
 go_wp2;clear hw0
 go_loopw [10] (fun v10 wr=>∃k:Nat,k<=rows.length/\v10 = .int .i64 k/\Hid (dZ ⟨nm,rows.drop k,⟨s,bo,⟨ng,nu,de⟩,el⟩⟩ args=z)/\Hid (Below w0.heap.size w0 wr)) (fun v10 _=>rows.length - (intOf v10).toNat)
 case atStart=>exact⟨0,aV,rfl,by show dZ ⟨nm,rows.drop 0,_⟩ args=z;rw [bT];exact hz0.out,Below.refl _ _⟩
 case round=>
  obtain ⟨k,hk,rfl,hE,hB⟩:=hrel;clear hz0;have BW:=hid (aI hB0 hB.out);have XR:=hid (aJ hB.out X0.out);have XT:=hid (aJ hB.out X1.out);by_cases hkn:k<rows.length
  case neg=>
   have hki:¬(k:Int)<rows.length:=by omega
   have hv:=hid (show(⟨s,bo,⟨ng,nu,de⟩,el⟩:bP)=z from by rw [<-hE.out,List.drop_of_length_le (by omega)];rfl);have y2:=aC XT.out 2;have y3:=aC XT.out 3;have y4:=aC XT.out 4;have y5:=aC XT.out 5;have y6:=aC XT.out 6;have y7:=aC XT.out 7;simp only [dA,dB,cW] at y2 y3 y4 y5 y6 y7;have ho:=hid (lW ⟨s,bo,⟨ng,nu,de⟩,el⟩ a b c d wr (H.out.els.below BW.out aB) hte.out.1 hte.out.2)
   go_wp2_with fail
   refine ho.out.mono ?_;rintro ee w9 ⟨a9,c9,b9,d9,rfl,V9,hb9⟩;have B9:=hid (aI BW hb9);have x9:=aJ hb9 XR.out;have V9':=hid (V9.mono (S':=dM w.heap.size w9) fun k _ h=>⟨h.1,aK BW.out.size h.2⟩);have X9:=hid x9;obtain ⟨z0,z1,z2,z3,z4,z5⟩:=dP x9;obtain ⟨f0,f1,f2,f3',f4,f5⟩:=fU x9;clear x9 V9 hb9 ho;go_wp2;refine bodyPost_ret (v:=jV ⟨s,bo,⟨ng,nu,de⟩,el⟩ a9 c9 b9 d9) (by simp [results,Tryz.results38,go_sem, *]) rfl ?_;rw [<-hv.out];exact rQ.set (v:=⟨s,bo,⟨ng,nu,de⟩,el⟩) (by decide) (by decide) X9.out (by omega) V9'.out B9.out [(0,.int .i64 s),(1,.bool bo),(2,.bool ng),(3,.slice a9 nu.length c9),(4,.slice b9 de.length d9),(5,.int .i64 el)]
  case pos=>
   have hki:(k:Int)<rows.length:=by omega
   have hek:=uI hkn;have hsr:=hid (hts.out _ (List.mem_of_getElem? hek));have hE2:=hid (show(if rowIs args (rowAt rows k)=true then(rowAt rows k).val else dZ ⟨nm,rows.drop (k+1),⟨s,bo,⟨ng,nu,de⟩,el⟩⟩ args)=z from(aAv hkn).symm.trans hE.out);obtain ⟨bR,oR,g3,f3,a3,c3,b3,d3,rfl,R3,hr3⟩:=(H.out.rows.below BW.out aB).rowAt hek;have y0:=hr3 0 _ rfl;have y1:=hr3 1 _ rfl;have y2:=hr3 2 _ rfl;have y3:=hr3 3 _ rfl;have y4:=hr3 4 _ rfl;have y5:=hr3 5 _ rfl;have y6:=hr3 6 _ rfl;rw [Nat.add_zero] at y0;have R3':=hid R3;clear hek hr3 hE R3;generalize rowAt rows k=x at *;obtain ⟨ags,⟨s2,bo2,⟨mg,mu,me⟩,el2⟩⟩:=x;dsimp only at *;have bA:=hid ((Below.refl wr.heap.size wr).alloc aB (.cells #[.slice g3 ags.length f3,.int .i64 s2,.bool bo2,.bool mg,.slice a3 mu.length c3,.slice b3 me.length d3,.int .i64 el2] 80));have XA:=hid (heap_alloc_new wr (.cells #[.slice g3 ags.length f3,.int .i64 s2,.bool bo2,.bool mg,.slice a3 mu.length c3,.slice b3 me.length d3,.int .i64 el2] 80))
   go_upto_region 4 with fail
   generalize (wr.alloc (.cells #[.slice g3 ags.length f3,.int .i64 s2,.bool bo2,.bool mg,.slice a3 mu.length c3,.slice b3 me.length d3,.int .i64 el2] 80))=wA at *;have BA:=hid (aI BW bA.out);have BC:=hid (aI hB bA.out);have XS:=hid (aJ bA.out XR.out);clear y0 y1 y2 y3 y4 y5 y6;have u0:=aC XA.out 0;simp only [dA,cW] at u0;have hef:=hid (aAt g3 g ags.length f3 n f ags args wA (R3'.out.args.below bA.out aB) (K.out.below BA.out aB) hsr.out.2.2 hn hsr.out.1);obtain ⟨sv,hsv⟩:∃sv,jU ags args=sv:=⟨_,rfl⟩;have hE3:=hid (show(if sv=true then(⟨s2,bo2,⟨mg,mu,me⟩,el2⟩:bP) else dZ ⟨nm,rows.drop (k+1),⟨s,bo,⟨ng,nu,de⟩,el⟩⟩ args)=z from by rw [<-hsv];exact hE2.out);rw [hsv] at hef;clear hsv hE2
   go_wp2_with fail
   refine hef.out.mono ?_;rintro e wC ⟨rfl,bC⟩;have BD:=hid (aI BC bC);have BE:=hid (aI BA bC);have XU:=hid (aJ bC XS.out);have XV:=aJ bC XA.out;cases sv
   case false=>
    have hE4:=hid (show dZ ⟨nm,rows.drop (k+1),⟨s,bo,⟨ng,nu,de⟩,el⟩⟩ args=z from hE3.out);clear bC hef u0 XV;go_wp2
    go_roundw
    case rel=>exact⟨k+1,by omega,by go_num,hE4.out,BD.out⟩
    case measure=>first | (simp [intOf];done) | (simp [intOf];omega)
   case true=>
    have hv:=hid (show(⟨s2,bo2,⟨mg,mu,me⟩,el2⟩:bP)=z from hE3.out);have y1:=aC XV 1;have y2:=aC XV 2;have y3:=aC XV 3;have y4:=aC XV 4;have y5:=aC XV 5;have y6:=aC XV 6;simp only [dA,dB,cW] at y1 y2 y3 y4 y5 y6;have ho:=hid (lW ⟨s2,bo2,⟨mg,mu,me⟩,el2⟩ a3 b3 c3 d3 wC ((R3'.out.val.below bA.out aB).below bC aB) hsr.out.2.1.1 hsr.out.2.1.2);clear bC hef u0 XV
    go_wp2_with fail
    refine ho.out.mono ?_;rintro ee w9 ⟨a9,c9,b9,d9,rfl,V9,hb9⟩;have B9:=hid (aI BE hb9);have x9:=aJ hb9 XU.out;have V9':=hid (V9.mono (S':=dM w.heap.size w9) fun k _ h=>⟨h.1,aK BE.out.size h.2⟩);have X9:=hid x9;obtain ⟨z0,z1,z2,z3,z4,z5⟩:=dP x9;obtain ⟨f0,f1,f2,f3',f4,f5⟩:=fU x9;clear x9 V9 hb9 ho;go_wp2;refine bodyPost_ret (v:=jV ⟨s2,bo2,⟨mg,mu,me⟩,el2⟩ a9 c9 b9 d9) (by simp [results,Tryz.results38,go_sem, *]) rfl ?_;rw [<-hv.out];exact rQ.set (v:=⟨s2,bo2,⟨mg,mu,me⟩,el2⟩) (by decide) (by decide) X9.out (by omega) V9'.out B9.out [(0,.int .i64 s2),(1,.bool bo2),(2,.bool mg),(3,.slice a9 mu.length c9),(4,.slice b9 me.length d9),(5,.int .i64 el2)]
end
theorem nM {k:Nat}:∀ {css:List (List Value)} (_:∀cs∈css,cs.length=k),css.flatten.length=css.length * k
 | [],_=>by simp
 |
  c :: css,hl=>by
  rw [List.flatten_cons,List.length_append,nM (fun cs h=>hl cs (by simp [h])),hl c (by simp),List.length_cons,Nat.succ_mul,Nat.add_comm]
theorem uK {k:Nat} (hk:0<k):∀ {css:List (List Value)} (_:∀cs∈css,cs.length=k) {j:Nat} {u:Value},css.flatten[j]? = some u->∃cs,css[j / k]? = some cs/\cs[j % k]? = some u
 | [],_,j,u,h=>by simp at h
 |
  c :: css,hl,j,u,h=>by
  have hc:=hl c (by simp);rw [List.flatten_cons] at h;by_cases hj:j<k
  ·rw [List.getElem?_append_left (by omega)] at h;exact⟨c,by rw [Nat.div_eq_of_lt hj];rfl,by rw [Nat.mod_eq_of_lt hj];exact h⟩
  ·rw [List.getElem?_append_right (by omega),hc] at h;obtain ⟨cs,h1,h2⟩:=uK hk (fun cs h=>hl cs (by simp [h])) h;refine⟨cs,?_,?_⟩
   ·rw [Nat.div_eq_sub_div hk (by omega),dB];exact h1
   ·rw [Nat.mod_eq_sub_mod (by omega)];exact h2
section
variable {α : Type} {R : bV α} {S S' : Nat -> Prop} {w w' : World} {a : Option Addr} {n : Nat} {xs : List α}
theorem bJ.src (h:bJ R S w a n xs) (hk:0<R.k):∃css:List (List Value),Src w R.k a n css.flatten/\css.length=xs.length/\(∀u∈css.flatten,u.oneCell'=true)/\∀(j:Nat) (x:α),xs[j]? = some x->∃cs,css[j]? = some cs/\R.rd S w x cs:=by
 rcases Nat.eq_zero_or_pos n with rfl | hn
 ·have hx:xs = []:=List.eq_nil_of_length_eq_zero h.1;subst hx;exact⟨[],Src.nothing,rfl,by simp,fun j x h=>by simp at h⟩
 obtain ⟨b,o,ha,_,_,hc⟩:=h.2 hn;have hc':∀j:Fin xs.length,∃cs,R.rd S w xs[j] cs/\∀i u,cs[i]? = some u->w.cell? ⟨b,o+j.1 * R.k+i,none⟩=some u:=fun j=>hc j.1 _ (List.getElem?_eq_getElem j.2)
 obtain ⟨f,hf⟩:=Classical.axiomOfChoice hc';have hat:∀(j:Nat) (x:α) (hx:xs[j]? = some x),∃hj:j<xs.length,(List.ofFn f)[j]? = some (f ⟨j,hj⟩)/\xs[j]=x:=fun j x hx=>by
  have hj:=(List.getElem?_eq_some_iff.1 hx).1;exact⟨hj,by rw [List.getElem?_ofFn,dif_pos hj],(List.getElem?_eq_some_iff.1 hx).2⟩
 have hlen:∀cs∈List.ofFn f,cs.length=R.k:=fun cs hcs=>by
  obtain ⟨j,rfl⟩:=List.mem_ofFn.1 hcs;exact R.len (hf j).1
 refine⟨List.ofFn f,⟨?_,fun _=>⟨_,ha,fun j u hu=>?_⟩⟩,by simp,fun u hu=>?_,fun j x hx=>?_⟩
 ·rw [nM hlen,List.length_ofFn,h.1]
 ·obtain ⟨cs,h1,h2⟩:=uK hk hlen hu;have hj:j / R.k<xs.length:=by
   have:=(List.getElem?_eq_some_iff.1 h1).1
   rwa [List.length_ofFn] at this
  rw [List.getElem?_ofFn,dif_pos hj] at h1;injection h1 with h1
  subst h1;have:=(hf ⟨j / R.k,hj⟩).2 _ _ h2;rw [Addr.add_lit];have e:o+j / R.k * R.k+j % R.k=o+j:=by rw [Nat.add_assoc,Nat.div_add_mod']
  rw [<-e];exact this
 ·obtain ⟨cs,hcs,hu⟩:=List.mem_flatten.1 hu;obtain ⟨j,rfl⟩:=List.mem_ofFn.1 hcs;exact R.one (hf j).1 u hu
 ·obtain ⟨hj,h1,rfl⟩:=hat j x hx;exact⟨_,h1,(hf ⟨j,hj⟩).1⟩
theorem bK.ofC {e:TypeId} {v:Value} {css:List (List Value)} (h:bW w' w.heap.size e R.k v n css.flatten) (hx:xs.length=n) (hl:css.length=xs.length) (hr:∀(j:Nat) (x:α),xs[j]? = some x->∃cs,css[j]? = some cs/\R.rd S w x cs) (hb:Below w.heap.size w w'):bK R (fun q=>q<w.heap.size/\S q) w' w.heap.size e v xs:=by
 subst hx;refine⟨css,h,hl,fun j x hj=>?_⟩;obtain ⟨cs,h1,h2⟩:=hr j x hj;exact⟨cs,h1,R.keep (R.mono h2 fun b hb' hS=>(⟨hb',hS⟩:b<w.heap.size/\S b)) (fun b hb' _=>hb.block b hb') hb.size⟩
theorem bK.set {base g c j:Nat} {e:TypeId} {x:α} {cs:List Value} {cur cur':Array Value} (hk:0<R.k) (h:bK R S w base e (.slice (some ⟨g,0,none⟩) n c) xs) (hg:w.heap[g]? = some (.cells cur e (0,0))) (hj:j<n) (hx:R.rd S w' x cs) (hS:∀b,S b->b≠g)
  (hW:w'.heap[g]? = some (.cells cur' e (0,0))) (hz:cur'.size=cur.size) (hin:∀i u,cs[i]? = some u->cur'[j * R.k+i]? = some u) (hout:∀q,q<j * R.k\/(j+1) * R.k<=q->cur'[q]? = cur[q]?)
  (ho:∀k,k≠g->w'.heap[k]? = w.heap[k]?) (hs:w.heap.size<=w'.heap.size):bK R S w' base e (.slice (some ⟨g,0,none⟩) n c) (xs.set j x):=by
 obtain ⟨css,⟨h1,h2⟩,h3,h4⟩:=h;rcases h2 with ⟨hv,_⟩ | ⟨g',cap,cur0,hv,h5,h6,h7,h8,h9,h10⟩
 ·cases hv
 cases hv;rw [hg] at h6;obtain ⟨rfl⟩:cur=cur0:=by injection h6 with h6;injection h6
 have hlc:=bK.lens h3 h4;have hcs:=R.len hx;have hlc':∀ds∈css.set j cs,ds.length=R.k:=fun ds hds=>by
  rcases List.mem_or_eq_of_mem_set hds with h | rfl
  ·exact hlc _ h
  ·exact hcs
 refine⟨css.set j cs,⟨by rw [nM hlc',List.length_set,List.length_set,h3],.inr ⟨g,c,cur',by rw [List.length_set],h5,hW,by rw [List.length_set];exact h7,h8,by omega,?_⟩⟩,by rw [List.length_set,List.length_set,h3],fun i y hy=>?_⟩
 ·rw [List.length_set];refine List.ext_getElem? fun q=>?_
  by_cases hq:q<xs.length * R.k
  ·rw [List.getElem?_take_of_lt hq,Array.getElem?_toList];have hqf:q<(css.set j cs).flatten.length:=by rw [nM hlc',List.length_set,h3];exact hq
   obtain ⟨ds,k1,k2⟩:=uK hk hlc' (List.getElem?_eq_getElem hqf);rw [List.getElem?_eq_getElem hqf,<-k2];by_cases hqj:q / R.k=j
   ·have hjl:j<css.length:=by rw [h3,<-hqj];exact Nat.div_lt_of_lt_mul (by rwa [Nat.mul_comm])
    rw [hqj,List.getElem?_set_self hjl] at k1;injection k1 with k1
    subst k1;have e:q=j * R.k+q % R.k:=by rw [<-hqj,Nat.div_add_mod']
    have hm:=hin (q % R.k) _ k2;rw [<-e] at hm;rw [hm,k2]
   ·rw [List.getElem?_set_ne (by omega)] at k1;have hqo:q<j * R.k\/(j+1) * R.k<=q:=by
     rcases Nat.lt_or_ge q (j * R.k) with h | h
     ·exact .inl h
     ·right
      have h':j<=q / R.k:=(Nat.le_div_iff_mul_le hk).2 h;exact(Nat.le_div_iff_mul_le hk).1 (by omega)
    rw [hout q hqo];have hcq:(cur.toList.take (xs.length * R.k))[q]? = ds[q % R.k]?:=by
     rw [h10];have:=mA hlc k1 k2;rw [Nat.div_add_mod'] at this;rw [this,k2]
    rw [List.getElem?_take_of_lt hq,Array.getElem?_toList] at hcq;exact hcq
  ·rw [List.getElem?_eq_none (by rw [List.length_take];omega),List.getElem?_eq_none (by rw [nM hlc',List.length_set,h3];omega)]
 ·by_cases hij:i=j
  ·subst hij;rw [List.getElem?_set_self hj] at hy;injection hy with hy
   subst hy;exact⟨cs,List.getElem?_set_self (by rw [h3];exact hj),hx⟩
  ·rw [List.getElem?_set_ne (by omega)] at hy ⊢;obtain ⟨ds,k1,k2⟩:=h4 i y hy;exact⟨ds,k1,R.keep k2 (fun b _ hb=>ho b (hS b hb)) hs⟩
theorem aG7:(Tryz.prog.info? 64).map (fun i=>(i.zero,i.size,i.bytes))=some (some (.agg #[.int .i64 0,.bool false,.bool false,.slice none 0 0,.slice none 0 0,.int .i64 0]),6,80):=by kernel_rfl
theorem aCk (a:Option Addr) (n c:Nat) (xs:List bP) (w:World) (hx:bJ fP S w a n xs) (hn:n<=1000000) :
  Calls Tryz.prog 187 #[.slice a n c] w fun e w'=>∃a' c',e = .returned (.slice a' n c')/\bK fP (fun q=>q<w.heap.size/\S q) w' w.heap.size 64 (.slice a' n c') xs/\Below w.heap.size w w':=by
 have lx:=hid hx.1;obtain ⟨i0,hi,hz0,hz1,hz2⟩:=info_parts aG7;have q22:∀(w:World) (a:Option Addr) (n c n' c':Nat),(binOp .eql 78 (.slice a n c) (.slice none n' c')).run Tryz.prog w = .ok (.bool a.isNone) w:=fun w a n c n' c'=>Lib.run_eql_slice_nil w _ _ a n c n' c' Tryz.underlying78
 cases a with
 |
  none=>
  have h0:n=0:=by
   rcases Nat.eq_zero_or_pos n with h | h
   ·exact h
   ·obtain ⟨b,o,ha,_⟩:=hx.2 h;cases ha
  have hxs:xs = []:=List.eq_nil_of_length_eq_zero (by rw [lx.out,h0]);subst h0 hxs;clear hx;go_enter Tryz.func187,Tryz.ntmps187
  go_wp2;go_ret;exact⟨none,0,rfl,bK.nil _ _ _ _ _,Below.refl _ _⟩
 |
  some a=>
  obtain ⟨css,hsrc0,hcl,hone0,hrd0⟩:=hx.src (show 0<fP.k from by decide);have hsrc:=hid hsrc0;have hone:=hid hone0;have hrd:=hid hrd0;have hcl':=hid hcl;clear hx hsrc0 hone0 hrd0 hcl;go_enter Tryz.func187,Tryz.ntmps187
  go_wp2_with (at_builtin;refine eB (base:=w.heap.size) (v:=.slice (some ⟨w.heap.size,0,none⟩) 0 0) rfl _ _ rfl Tryz.underlying78 hi hz0 hz1 hz2 rfl (by decide) rfl rfl (bW.lit0 rfl aB) (hsrc.out.keep (bD)) ?c1 ?c2 ?c3 ?c4 ?_)
  case c1=>exact hone.out
  case c2=>unfold maxLen;omega
  case c3=>omega
  case c4=>simp
  intro v' w1 ho hg hl;have hb:=hid (((Below.refl w.heap.size w).alloc aB (.cells #[] 64)).grown hg (by simp) (by intro k hk;simp [Value.ownBlock] at hk;omega));have ho':=hid (bK.ofC (S:=S) (w:=w) (R:=fP) (w':=w1) (by first | exact ho | (have h5:=ho;simp only [Nat.zero_add,List.nil_append] at h5;exact h5)) lx.out hcl'.out hrd.out hb.out);obtain ⟨a',c',rfl,_⟩:=ho.slice;clear ho hg hl;go_wp2;go_ret;exact⟨a',c',by simp,by simpa using ho'.out,hb.out⟩
theorem aG8:(Tryz.prog.info? 80).map (fun i=>(i.zero,i.size,i.bytes))=some (some (.agg #[.slice none 0 0,.int .i64 0,.bool false,.bool false,.slice none 0 0,.slice none 0 0,.int .i64 0]),7,104):=by kernel_rfl
theorem yH (a:Option Addr) (n c:Nat) (xs:List kY) (w:World) (hx:bJ fQ S w a n xs) (hn:n<=1000000) :
  Calls Tryz.prog 150 #[.slice a n c] w fun e w'=>∃a' c',e = .returned (.slice a' n c')/\bK fQ (fun q=>q<w.heap.size/\S q) w' w.heap.size 80 (.slice a' n c') xs/\Below w.heap.size w w':=by
 have lx:=hid hx.1;obtain ⟨i0,hi,hz0,hz1,hz2⟩:=info_parts aG8;have q22:∀(w:World) (a:Option Addr) (n c n' c':Nat),(binOp .eql 65 (.slice a n c) (.slice none n' c')).run Tryz.prog w = .ok (.bool a.isNone) w:=fun w a n c n' c'=>Lib.run_eql_slice_nil w _ _ a n c n' c' Tryz.underlying65
 cases a with
 |
  none=>
  have h0:n=0:=by
   rcases Nat.eq_zero_or_pos n with h | h
   ·exact h
   ·obtain ⟨b,o,ha,_⟩:=hx.2 h;cases ha
  have hxs:xs = []:=List.eq_nil_of_length_eq_zero (by rw [lx.out,h0]);subst h0 hxs;clear hx;go_enter Tryz.func150,Tryz.ntmps150
  go_wp2;go_ret;exact⟨none,0,rfl,bK.nil _ _ _ _ _,Below.refl _ _⟩
 |
  some a=>
  obtain ⟨css,hsrc0,hcl,hone0,hrd0⟩:=hx.src (show 0<fQ.k from by decide);have hsrc:=hid hsrc0;have hone:=hid hone0;have hrd:=hid hrd0;have hcl':=hid hcl;clear hx hsrc0 hone0 hrd0 hcl;go_enter Tryz.func150,Tryz.ntmps150
  go_wp2_with (at_builtin;refine eB (base:=w.heap.size) (v:=.slice (some ⟨w.heap.size,0,none⟩) 0 0) rfl _ _ rfl Tryz.underlying65 hi hz0 hz1 hz2 rfl (by decide) rfl rfl (bW.lit0 rfl aB) (hsrc.out.keep (bD)) ?c1 ?c2 ?c3 ?c4 ?_)
  case c1=>exact hone.out
  case c2=>unfold maxLen;omega
  case c3=>omega
  case c4=>simp
  intro v' w1 ho hg hl;have hb:=hid (((Below.refl w.heap.size w).alloc aB (.cells #[] 80)).grown hg (by simp) (by intro k hk;simp [Value.ownBlock] at hk;omega));have ho':=hid (bK.ofC (S:=S) (w:=w) (R:=fQ) (w':=w1) (by first | exact ho | (have h5:=ho;simp only [Nat.zero_add,List.nil_append] at h5;exact h5)) lx.out hcl'.out hrd.out hb.out);obtain ⟨a',c',rfl,_⟩:=ho.slice;clear ho hg hl;go_wp2;go_ret;exact⟨a',c',by simp,by simpa using ho'.out,hb.out⟩
end
theorem bK.form {α:Type} {R:bV α} {S:Nat->Prop} {w:World} {base:Nat} {e:TypeId} {v:Value} {xs:List α} (h:bK R S w base e v xs) (hn:0<xs.length):∃g cap cur,v = .slice (some ⟨g,0,none⟩) xs.length cap/\base<=g/\w.heap[g]? = some (.cells cur e (0,0))/\xs.length * R.k<=cur.size:=by
 obtain ⟨css,⟨h1,h2⟩,h3,h4⟩:=h;rcases h2 with ⟨_,h0⟩ | ⟨g,cap,cur,hv,hb,hg,hnc,hcm,hcs,_⟩
 ·omega
 ·exact⟨g,cap,cur,hv,hb,hg,aK (Nat.mul_le_mul_right _ hnc) hcs⟩
theorem aNf {cur:Array Value} {o:Nat} (h:o+6<=cur.size) (v0 v1 v2 v3 v4 v5:Value) :
  (((((((cur.setIfInBounds o v0).setIfInBounds (o+1) v1).setIfInBounds (o+2) v2).setIfInBounds (o+3) v3).setIfInBounds (o+4) v4).setIfInBounds (o+5) v5).size=cur.size)/\(∀i u,[v0,v1,v2,v3,v4,v5][i]? = some u->(((((((cur.setIfInBounds o v0).setIfInBounds (o+1) v1).setIfInBounds (o+2) v2).setIfInBounds (o+3) v3).setIfInBounds (o+4) v4).setIfInBounds (o+5) v5)[o+i]? = some u)) /\
  ∀q,q<o\/o+6<=q->((((((cur.setIfInBounds o v0).setIfInBounds (o+1) v1).setIfInBounds (o+2) v2).setIfInBounds (o+3) v3).setIfInBounds (o+4) v4).setIfInBounds (o+5) v5)[q]? = cur[q]?:=by
 refine⟨by simp,fun i u hu=>?_,fun q hq=>?_⟩
 ·have hi:i<6:=by have:=(List.getElem?_eq_some_iff.1 hu).1;simpa using this
  match i,hi with
  |
   0,_ | 1,_ | 2,_ | 3,_ | 4,_ | 5,_=>
   simp only [dB,cW] at hu;simp only [Array.getElem?_setIfInBounds,Array.size_setIfInBounds]
   repeat first | rw [if_pos trivial] | rw [if_neg (by omega)] | rw [if_pos (by omega)]
   exact hu
 ·simp only [Array.getElem?_setIfInBounds,Array.size_setIfInBounds]
  repeat rw [if_neg (by omega)]
section
variable {S S' : Nat -> Prop} {w W W' : World}
theorem bK.moveOld {α:Type} {R:bV α} {base:Nat} {e:TypeId} {v:Value} {xs:List α} (h:bK R (fY S w W) W base e v xs) (hb:Below W.heap.size W W'):bK R (fY S w W') W' base e v xs:=
 (h.below hb aB).mono fun k _ hS=>hS.elim .inl fun h=>.inr ⟨h.1.same (hb.block k h.1.lt),h.2⟩
theorem aCl {p o:Nat} {t:TypeId} {cs:Array Value} (W:World) (hp:W.heap[p]? = some (.cells cs t (0,0))) (v0 v1 v2 v3 v4 v5:Value):(setL p [(o,v0),(o+1,v1),(o+2,v2),(o+3,v3),(o+4,v4),(o+5,v5)] W).heap[p]? = some (.cells ((((((cs.setIfInBounds o v0).setIfInBounds (o+1) v1).setIfInBounds (o+2) v2).setIfInBounds (o+3) v3).setIfInBounds (o+4) v4).setIfInBounds (o+5) v5) t (0,0)):=by
 rw [lU _ W cs hp];simp only [List.foldl_cons,List.foldl_nil]
theorem aEo {g n c k:Nat} {cur cur':Array Value} {l:List bP} {v:bP} {a b:Option Addr} {c1 d1:Nat} (O:bK fP (fY S w W) W w.heap.size 64 (.slice (some ⟨g,0,none⟩) n c) l) (hg:W.heap[g]? = some (.cells cur 64 (0,0))) (hgw:w.heap.size<=g) (hk:k<n) (hx:l[k]? = some v) (V:dI (dM w.heap.size W) W v a c1 b d1)
  (hW:W'.heap[g]? = some (.cells cur' 64 (0,0))) (p1:cur'.size=cur.size) (p2:∀i u,(qU v a c1 b d1)[i]? = some u->cur'[k * 6+i]? = some u) (p3:∀q,q<k * 6\/k * 6+6<=q->cur'[q]? = cur[q]?) (ho:∀q,q≠g->W'.heap[q]? = W.heap[q]?) (hs:W'.heap.size=W.heap.size) :
  bK fP (fY S w W') W' w.heap.size 64 (.slice (some ⟨g,0,none⟩) n c) l:=by
 have hset:l.set k v=l:=by
  obtain ⟨hlt,rfl⟩:=List.getElem?_eq_some_iff.1 hx;exact List.set_getElem_self hlt
 have hdat:∀b,dO W b->b≠g:=fun b hb e=>by
  subst e;exact dO.ne hb (by decide) (by decide) ⟨_,_,hg⟩
 have hdg:∀b,fY S w W b->b≠g:=fun b hb=>by
  rcases hb with hb | hb
  ·omega
  ·exact hdat b hb.1
 have hV:dI (fY S w W) W' v a c1 b d1:=(V.keep (fun b _ hb=>ho b (hdat b hb.1)) (Nat.le_of_eq hs.symm)).mono fun b _ hb=>.inr hb
 have:=bK.set (R:=fP) (j:=k) (x:=v) (by decide) O hg hk (kM.2 ⟨a,c1,b,d1,rfl,hV⟩) hdg hW p1 p2 (fun q hq=>p3 q (by have:fP.k=6:=rfl;rw [this] at hq;omega)) ho (Nat.le_of_eq hs.symm);rw [hset] at this;exact this.mono fun b _ hb=>hb.elim .inl fun h=>.inr ⟨h.1.same (ho b (hdat b h.1)),h.2⟩
theorem aG9 {g n c k:Nat} {cur:Array Value} {l:List bP} {v:bP} {a b:Option Addr} {c1 d1:Nat} (O:bK fP (fY S w W) W w.heap.size 64 (.slice (some ⟨g,0,none⟩) n c) l) (hg:W.heap[g]? = some (.cells cur 64 (0,0))) (hgw:w.heap.size<=g) (hk:k<n) (hx:l[k]? = some v) (hcs:(k+1) * 6<=cur.size) (V:dI (dM w.heap.size W) W v a c1 b d1) :
  bK fP (fY S w (setL g [(k * 6,.int .i64 v.sort),(k * 6+1,.bool v.bool),(k * 6+2,.bool v.num.neg),(k * 6+3,.slice a v.num.num.length c1),(k * 6+4,.slice b v.num.den.length d1),(k * 6+5,.int .i64 v.el)] W)) (setL g [(k * 6,.int .i64 v.sort),(k * 6+1,.bool v.bool),(k * 6+2,.bool v.num.neg),(k * 6+3,.slice a v.num.num.length c1),(k * 6+4,.slice b v.num.den.length d1),(k * 6+5,.int .i64 v.el)] W) w.heap.size 64 (.slice (some ⟨g,0,none⟩) n c) l:=by
 have hp:=aNf (cur:=cur) (o:=k * 6) (by omega) (.int .i64 v.sort) (.bool v.bool) (.bool v.num.neg) (.slice a v.num.num.length c1) (.slice b v.num.den.length d1) (.int .i64 v.el);have hW:=aCl (p:=g) (o:=k * 6) W hg (.int .i64 v.sort) (.bool v.bool) (.bool v.num.neg) (.slice a v.num.num.length c1) (.slice b v.num.den.length d1) (.int .i64 v.el);exact aEo O hg hgw hk hx V hW hp.1 hp.2.1 hp.2.2 (fun q hq=>eI (p:=g) (k:=q) hq [(k * 6,.int .i64 v.sort),(k * 6+1,.bool v.bool),(k * 6+2,.bool v.num.neg),(k * 6+3,.slice a v.num.num.length c1),(k * 6+4,.slice b v.num.den.length d1),(k * 6+5,.int .i64 v.el)] W) (cN (p:=g) (by decide) (by decide) [(k * 6,.int .i64 v.sort),(k * 6+1,.bool v.bool),(k * 6+2,.bool v.num.neg),(k * 6+3,.slice a v.num.num.length c1),(k * 6+4,.slice b v.num.den.length d1),(k * 6+5,.int .i64 v.el)] W cur hg).2.1
theorem aEp (a:Option Addr) (n c:Nat) (l:List bP) (w:World) (h:bJ fP S w a n l) (hn:n<=1000000) (hs:∀v∈l,cZ v) :
  Calls Tryz.prog 151 #[.slice a n c] w fun e w'=>∃a' c',e = .returned (.slice a' n c')/\bK fP (fY S w w') w' w.heap.size 64 (.slice a' n c') l/\Below w.heap.size w w':=by
 have hl:=hid h.1;have hs':=hid hs;have hcl:=hid (aCk a n c l w h hn);clear hs h;go_enter Tryz.func151,Tryz.ntmps151
 go_wp2_with fail
 refine hcl.out.mono ?_;rintro e w1 ⟨a',c',rfl,o1,hb1⟩;have O1:=hid (show bK fP (fY S w w1) w1 w.heap.size 64 (.slice a' n c') l from o1.mono fun k _ h=>.inl h);have B1:=hid hb1;clear o1 hb1 hcl;go_wp2
 go_loopw [9,4] (fun v9 _ wr=>∃k:Nat,k<=n/\v9 = .int .i64 k/\Hid (bK fP (fY S w wr) wr w.heap.size 64 (.slice a' n c') l)/\Hid (Below w.heap.size w wr)) (fun v9 _ _=>n - (intOf v9).toNat)
 case atStart=>exact⟨0,aV,rfl,O1,B1⟩
 case round=>
  obtain ⟨k,hk,rfl,O,B⟩:=hrel;clear O1 B1;by_cases hkn:k<n
  case neg=>
   have hki:¬(k:Int)<n:=by omega
   go_wp2;go_ret;exact⟨a',c',by simp,O.out,B.out⟩
  case pos=>
   have hki:(k:Int)<n:=by omega
   have hek:=cO (l:=l) (k:=k) (by rw [hl.out];omega);have hsm:=hid (hs'.out _ (List.mem_of_getElem? hek));obtain ⟨g,cap,cur,hv,hgw,hg,hsz⟩:=O.out.form (by rw [hl.out];omega);rw [hl.out] at hv;cases hv;obtain ⟨b3,o3,a3,c3,e3,d3,ha3,V3,hv3⟩:=(O.out.read (S':=fun _=>True) (fun _ _ _=>trivial) (fun _ _=>trivial)).valAt hek;cases ha3;have y0:=hv3 0 _ rfl;have y1:=hv3 1 _ rfl;have y2:=hv3 2 _ rfl;have y3:=hv3 3 _ rfl;have y4:=hv3 4 _ rfl;have y5:=hv3 5 _ rfl;simp only [Nat.add_zero,Nat.zero_add] at y0 y1 y2 y3 y4 y5;have hek':=hid hek;have hg':=hid hg;have hsz':=hid (show(k+1) * 6<=cur.size from aK (Nat.mul_le_mul_right 6 (show k+1<=l.length by rw [hl.out];omega)) hsz);clear hv3 hek hg hsz;generalize bF l k=v at *;obtain ⟨s,bo,⟨ng,nu,de⟩,el⟩:=v;dsimp only at *;have ho:=hid (lW ⟨s,bo,⟨ng,nu,de⟩,el⟩ a3 e3 c3 d3 wr V3 hsm.out.1 hsm.out.2);clear V3
   go_wp2_with fail
   refine ho.out.mono ?_;rintro ee w9 ⟨a9,c9,b9,d9,rfl,V9,hb9⟩;have hwr:=B.out.size;have hgl:=(bQ hg'.out).1;have x9:=(hb9.block _ hgl).trans hg'.out;have V9':dI (dM w.heap.size w9) w9 ⟨s,bo,⟨ng,nu,de⟩,el⟩ a9 c9 b9 d9:=V9.mono fun k _ h=>⟨h.1,aK hwr h.2⟩
   have B9:=B.out.trans (hb9.mono hwr);have OS:=hid (aG9 (v:=⟨s,bo,⟨ng,nu,de⟩,el⟩) (O.out.moveOld hb9) x9 hgw hkn hek'.out hsz'.out V9');have BS:=hid ((cN (by decide) (by decide) [(k * 6,.int .i64 s),(k * 6+1,.bool bo),(k * 6+2,.bool ng),(k * 6+3,.slice a9 nu.length c9),(k * 6+4,.slice b9 de.length d9),(k * 6+5,.int .i64 el)] w9 _ x9).2.2 _ _ hgw B9);replace y0:=aD hb9 y0;replace y1:=aD hb9 y1;replace y2:=aD hb9 y2;replace y3:=aD hb9 y3;replace y4:=aD hb9 y4;replace y5:=aD hb9 y5;have f0:=aY x9 (k * 6);have f1:=aY x9 (k * 6+1);have f2:=aY x9 (k * 6+2);have f3:=aY x9 (k * 6+3);have f4:=aY x9 (k * 6+4);have f5:=aY x9 (k * 6+5);clear x9 V9 V9' hb9 ho B9 hgl hwr;go_wp2
   go_roundw
   case rel=>exact⟨k+1,by omega,by go_num,OS.out,BS.out⟩
   case measure=>first | (simp [intOf];done) | (simp [intOf];omega)
end
def Since (S:Nat->Prop) (w:World) (q:Nat):Prop:=(q<w.heap.size/\S q)\/w.heap.size<=q
theorem wP {p:Nat}:∀(l:List (Nat × Value)) (W:World),(setL p l W).heap.size=W.heap.size
 | [],_=>rfl
 | _ :: l,_=>(wP l _).trans fD
theorem bK.elem {α:Type} {R:bV α} {S:Nat->Prop} {w:World} {base g n c k:Nat} {e:TypeId} {xs:List α} {x:α} (h:bK R S w base e (.slice (some ⟨g,0,none⟩) n c) xs) (hx:xs[k]? = some x):∃cs,R.rd S w x cs/\∀i u,cs[i]? = some u->w.cell? ⟨g,k * R.k+i,none⟩=some u:=by
 obtain ⟨css,h1,h2,h3⟩:=h;obtain ⟨cs,h4,h5⟩:=h3 k x hx;exact⟨cs,h5,fun i u hu=>h1.cells (g:=g) rfl _ u (mA (bK.lens h2 h3) h4 hu)⟩
theorem aNg {cur:Array Value} {o:Nat} (h:o+7<=cur.size) (v0 v1 v2 v3 v4 v5 v6:Value) :
  ((((((((cur.setIfInBounds o v0).setIfInBounds (o+1) v1).setIfInBounds (o+2) v2).setIfInBounds (o+3) v3).setIfInBounds (o+4) v4).setIfInBounds (o+5) v5).setIfInBounds (o+6) v6).size=cur.size)/\(∀i u,[v0,v1,v2,v3,v4,v5,v6][i]? = some u->((((((((cur.setIfInBounds o v0).setIfInBounds (o+1) v1).setIfInBounds (o+2) v2).setIfInBounds (o+3) v3).setIfInBounds (o+4) v4).setIfInBounds (o+5) v5).setIfInBounds (o+6) v6)[o+i]? = some u)) /\
  ∀q,q<o\/o+7<=q->(((((((cur.setIfInBounds o v0).setIfInBounds (o+1) v1).setIfInBounds (o+2) v2).setIfInBounds (o+3) v3).setIfInBounds (o+4) v4).setIfInBounds (o+5) v5).setIfInBounds (o+6) v6)[q]? = cur[q]?:=by
 refine⟨by simp,fun i u hu=>?_,fun q hq=>?_⟩
 ·have hi:i<7:=by have:=(List.getElem?_eq_some_iff.1 hu).1;simpa using this
  match i,hi with
  |
   0,_ | 1,_ | 2,_ | 3,_ | 4,_ | 5,_ | 6,_=>
   simp only [dB,cW] at hu;simp only [Array.getElem?_setIfInBounds,Array.size_setIfInBounds]
   repeat first | rw [if_pos trivial] | rw [if_neg (by omega)] | rw [if_pos (by omega)]
   exact hu
 ·simp only [Array.getElem?_setIfInBounds,Array.size_setIfInBounds]
  repeat rw [if_neg (by omega)]
theorem aCm {p o:Nat} {t:TypeId} {cs:Array Value} (W:World) (hp:W.heap[p]? = some (.cells cs t (0,0))) (v0 v1 v2 v3 v4 v5 v6:Value):(setL p [(o,v0),(o+1,v1),(o+2,v2),(o+3,v3),(o+4,v4),(o+5,v5),(o+6,v6)] W).heap[p]? = some (.cells (((((((cs.setIfInBounds o v0).setIfInBounds (o+1) v1).setIfInBounds (o+2) v2).setIfInBounds (o+3) v3).setIfInBounds (o+4) v4).setIfInBounds (o+5) v5).setIfInBounds (o+6) v6) t (0,0)):=by
 rw [lU _ W cs hp];simp only [List.foldl_cons,List.foldl_nil]
section
variable {S S' X : Nat -> Prop} {w W W' : World}
theorem yG.keep {r:kY} {g:Option Addr} {e:Nat} {a:Option Addr} {c:Nat} {b:Option Addr} {d:Nat} (h:yG S W r g e a c b d) (hk:∀k,k<W.heap.size->S k->W'.heap[k]? = W.heap[k]?) (hs:W.heap.size<=W'.heap.size):yG S W' r g e a c b d:=⟨h.args.keep hk hs,h.ac,h.val.keep hk hs⟩
theorem aEq {g n c k base:Nat} {cur cur':Array Value} {l:List kY} {r:kY} {ge:Option Addr} {e:Nat} {a b:Option Addr} {c1 d1:Nat} (O:bK fQ X W base 80 (.slice (some ⟨g,0,none⟩) n c) l) (hg:W.heap[g]? = some (.cells cur 80 (0,0))) (hX:∀q,X q->q≠g) (hk:k<n) (hx:l[k]? = some r) (V:yG X W r ge e a c1 b d1)
  (hW:W'.heap[g]? = some (.cells cur' 80 (0,0))) (p1:cur'.size=cur.size) (p2:∀i u,(aJf r ge e a c1 b d1)[i]? = some u->cur'[k * 7+i]? = some u) (p3:∀q,q<k * 7\/k * 7+7<=q->cur'[q]? = cur[q]?) (ho:∀q,q≠g->W'.heap[q]? = W.heap[q]?) (hs:W'.heap.size=W.heap.size) :
  bK fQ X W' base 80 (.slice (some ⟨g,0,none⟩) n c) l:=by
 have hset:l.set k r=l:=by
  obtain ⟨hlt,rfl⟩:=List.getElem?_eq_some_iff.1 hx;exact List.set_getElem_self hlt
 have hV:yG X W' r ge e a c1 b d1:=V.keep (fun q _ hq=>ho q (hX q hq)) (Nat.le_of_eq hs.symm);have:=bK.set (R:=fQ) (j:=k) (x:=r) (by decide) O hg hk (oF.2 ⟨ge,e,a,c1,b,d1,rfl,hV⟩) hX hW p1 p2 (fun q hq=>p3 q (by have:fQ.k=7:=rfl;rw [this] at hq;omega)) ho (Nat.le_of_eq hs.symm)
 rwa [hset] at this
theorem aHa {g n c k base:Nat} {cur:Array Value} {l:List kY} {r:kY} {ge:Option Addr} {e:Nat} {a b:Option Addr} {c1 d1:Nat} (O:bK fQ X W base 80 (.slice (some ⟨g,0,none⟩) n c) l) (hg:W.heap[g]? = some (.cells cur 80 (0,0))) (hX:∀q,X q->q≠g) (hk:k<n) (hx:l[k]? = some r) (hcs:(k+1) * 7<=cur.size) (V:yG X W r ge e a c1 b d1) :
  bK fQ X (setL g [(k * 7,.slice ge r.args.length e),(k * 7+1,.int .i64 r.val.sort),(k * 7+2,.bool r.val.bool),(k * 7+3,.bool r.val.num.neg),(k * 7+4,.slice a r.val.num.num.length c1),(k * 7+5,.slice b r.val.num.den.length d1),(k * 7+6,.int .i64 r.val.el)] W) base 80 (.slice (some ⟨g,0,none⟩) n c) l:=by
 have hp:=aNg (cur:=cur) (o:=k * 7) (by omega) (.slice ge r.args.length e) (.int .i64 r.val.sort) (.bool r.val.bool) (.bool r.val.num.neg) (.slice a r.val.num.num.length c1) (.slice b r.val.num.den.length d1) (.int .i64 r.val.el);have hW:=aCm (p:=g) (o:=k * 7) W hg (.slice ge r.args.length e) (.int .i64 r.val.sort) (.bool r.val.bool) (.bool r.val.num.neg) (.slice a r.val.num.num.length c1) (.slice b r.val.num.den.length d1) (.int .i64 r.val.el);exact aEq O hg hX hk hx V hW hp.1 hp.2.1 hp.2.2 (fun q hq=>eI (p:=g) (k:=q) hq [(k * 7,.slice ge r.args.length e),(k * 7+1,.int .i64 r.val.sort),(k * 7+2,.bool r.val.bool),(k * 7+3,.bool r.val.num.neg),(k * 7+4,.slice a r.val.num.num.length c1),(k * 7+5,.slice b r.val.num.den.length d1),(k * 7+6,.int .i64 r.val.el)] W) (wP _ _)
theorem aMb {t:mU} {p:Nat} {cs:Array Value} {a':Option Addr} {c':Nat} {a b:Option Addr} {c d:Nat} {l:List (Nat × Value)} (hp:W.heap[p]? = some (.cells cs 67 (0,0))) (hwp:w.heap.size<=p) (O:bK fQ X W (p+1) 80 (.slice a' t.rows.length c') t.rows) (hX:∀q,X q->Since S w q/\q≠p) (V:dI (dM w.heap.size W) W t.els a c b d) (hb:Below w.heap.size w W) :
  mV (Since S w) (setL p l W) t a' c' a c b d/\Below w.heap.size w (setL p l W):=by
 obtain ⟨q1,q2,q3⟩:=cN (p:=p) (by decide) (by decide) l W cs hp;refine⟨⟨?_,?_,?_⟩,q3 _ _ hwp hb⟩
 ·refine(O.keep (fun q _ hq=>eI (hX q hq).2 l W) (fun q hq=>eI (by have:=(O.lt q hq).1;omega) l W) (Nat.le_of_eq q2.symm)).read (fun q _ hq=>(hX q hq).1) (fun q hq=>.inr (by have:=(O.lt q hq).1;omega))
 ·obtain ⟨_,_,e,h⟩:=O.slice;cases e;exact h
 ·exact(V.keep (fun q _ hq=>q1 q hq.1) (Nat.le_of_eq q2.symm)).mono fun q _ hq=>.inr hq.2
theorem aEr (t:mU) (ra:Option Addr) (rc:Nat) (a:Option Addr) (c:Nat) (b:Option Addr) (d:Nat) (w:World) (h:mV S w t ra rc a c b d) (ht:rU t) :
  Calls Tryz.prog 98 #[tbV t ra rc a c b d] w fun e w'=>∃ra' rc' a' c' b' d',e = .returned (tbV t ra' rc' a' c' b' d')/\mV (Since S w) w' t ra' rc' a' c' b' d'/\Below w.heap.size w w':=by
 have H:=hid h;have hts:=hid ht.1;have hte:=hid ht.2.1;have htn:=ht.2.2;obtain ⟨nm,rows,⟨s,bo,⟨ng,nu,de⟩,el⟩⟩:=t;dsimp only at *;clear h ht;have X0:=hid (cY w (.cells #[.string nm,.slice ra rows.length rc,.int .i64 s,.bool bo,.bool ng,.slice a nu.length c,.slice b de.length d,.int .i64 el] 67) (.cells #[.string ⟨#[]⟩,.slice none 0 0,.int .i64 0,.bool false,.bool false,.slice none 0 0,.slice none 0 0,.int .i64 0] 67));have x1:=dG w (.cells #[.string nm,.slice ra rows.length rc,.int .i64 s,.bool bo,.bool ng,.slice a nu.length c,.slice b de.length d,.int .i64 el] 67) (.cells #[.string ⟨#[]⟩,.slice none 0 0,.int .i64 0,.bool false,.bool false,.slice none 0 0,.slice none 0 0,.int .i64 0] 67);have hB0:=hid (bX w (.cells #[.string nm,.slice ra rows.length rc,.int .i64 s,.bool bo,.bool ng,.slice a nu.length c,.slice b de.length d,.int .i64 el] 67) (.cells #[.string ⟨#[]⟩,.slice none 0 0,.int .i64 0,.bool false,.bool false,.slice none 0 0,.slice none 0 0,.int .i64 0] 67));have X1:=hid x1;have hw0s:=hid (show((w.alloc (.cells #[.string nm,.slice ra rows.length rc,.int .i64 s,.bool bo,.bool ng,.slice a nu.length c,.slice b de.length d,.int .i64 el] 67)).alloc (.cells #[.string ⟨#[]⟩,.slice none 0 0,.int .i64 0,.bool false,.bool false,.slice none 0 0,.slice none 0 0,.int .i64 0] 67)).heap.size=w.heap.size+1+1 from by simp);generalize hw0:(w.alloc (.cells #[.string nm,.slice ra rows.length rc,.int .i64 s,.bool bo,.bool ng,.slice a nu.length c,.slice b de.length d,.int .i64 el] 67)).alloc (.cells #[.string ⟨#[]⟩,.slice none 0 0,.int .i64 0,.bool false,.bool false,.slice none 0 0,.slice none 0 0,.int .i64 0] 67)=w0 at *;have q1:w0.cell? ⟨w.heap.size,1,none⟩=some (.slice ra rows.length rc):=aC x1 1;have hcl:=hid (yH ra rows.length rc rows w0 ((H.out.rows.mono (S':=fun q=>q<w.heap.size/\S q) fun q hq hS=>⟨hq,hS⟩).below hB0.out aB) htn);clear x1;go_enter Tryz.func98,Tryz.ntmps98
 go_wp2_with fail
 clear hw0;refine hcl.out.mono ?_;rintro e w1 ⟨a',c',rfl,o1,hb1⟩;obtain ⟨X,hX0⟩:∃X:Nat->Prop,X=fun q=>(q<w.heap.size/\S q)\/w1.heap.size<=q:=⟨_,rfl⟩
 have hX:=hid (show(∀q,X q->(q<w.heap.size/\S q)\/w1.heap.size<=q)/\∀q,w1.heap.size<=q->X q from⟨fun q hq=>by rw [hX0] at hq;exact hq,fun q hq=>by rw [hX0];exact .inr hq⟩);have O1:=hid (show bK fQ X w1 w0.heap.size 80 (.slice a' rows.length c') rows from o1.mono fun q _ h=>by rw [hX0];exact .inl h.2);have B1:=hid hb1;have hXw:=hid (show ∀q,X q->Since S w q/\q≠w.heap.size+1 from fun q hq=>by
  have hz:=hw0s.out;have hz1:=hb1.size;rcases hX.out.1 q hq with h | h
  ·exact⟨.inl h,by omega⟩
  ·exact⟨.inr (by omega),by omega⟩)
 have hXr:=hid (show ∀q g,X q->Value.ownBlock (.slice a' rows.length c')=some g->q≠g from fun q g hq hg=>by
  have hz:=hw0s.out;have:=o1.lt g hg;rcases hX.out.1 q hq with h | h <;> omega)
 clear hX0 o1 hb1 hcl;go_wp2
 go_loopw [11,4,5] (fun v11 _ _ wr=>∃k:Nat,k<=rows.length/\v11 = .int .i64 k/\Hid (bK fQ X wr w0.heap.size 80 (.slice a' rows.length c') rows)/\Hid (Below w0.heap.size w0 wr)/\Hid (w1.heap.size<=wr.heap.size)) (fun v11 _ _ _=>rows.length - (intOf v11).toNat)
 case atStart=>exact⟨0,aV,rfl,O1,B1,aB⟩
 case round=>
  obtain ⟨k,hk,rfl,O,B,hZ⟩:=hrel;clear O1 B1;have BW:=hid (aI hB0 B.out);by_cases hkn:k<rows.length
  case neg=>
   have hki:¬(k:Int)<rows.length:=by omega
   have XR:=hid (aJ B.out X0.out);have xT:=aJ B.out X1.out;have t0:=aC xT 0;have t2:=aC xT 2;have t3:=aC xT 3;have t4:=aC xT 4;have t5:=aC xT 5;have t6:=aC xT 6;have t7:=aC xT 7;simp only [dA,dB,cW] at t0 t2 t3 t4 t5 t6 t7;have how:=hid (fun W (hW:Below wr.heap.size wr W)=>lW ⟨s,bo,⟨ng,nu,de⟩,el⟩ a b c d W ((H.out.els.below BW.out aB).below hW aB) hte.out.1 hte.out.2);have hO:=hid (show bK fQ X wr (w.heap.size+1+1) 80 (.slice a' rows.length c') rows from by rw [<-hw0s.out];exact O.out);clear O xT;obtain ⟨O,hO'⟩:∃O:Hid (bK fQ X wr (w.heap.size+1+1) 80 (.slice a' rows.length c') rows),True:=⟨hO,trivial⟩;clear hO hO'
   go_upto_region 7 with fail
   refine aW (S:=fun W=>Below wr.heap.size wr W) 6 (by kernel_rfl) (by kernel_rfl) (aG wr) (fun _=>?_);refine aE 0 ?_;refine cJ 1 (fun W h=>aD h t0) ?_;refine aE 2 ?_;refine aE 3 ?_;refine aE 4 (hy:=(Or.inl ⟨by rfl,by(intro W hSw;have hq2:=aD hSw t2;have hq3:=aD hSw t3;have hq4:=aD hSw t4;have hq5:=aD hSw t5;have hq6:=aD hSw t6;have hq7:=aD hSw t7;go_simp <;> with_reducible rfl)⟩)) ?_;refine aN 5 fun K hK=>?_;go_simp
   go_at_call 91
   refine(how.out _ (aG wr)).mono ?_;rintro ee w9 ⟨a9,c9,b9,d9,rfl,V9,hb9⟩;have B9:Below wr.heap.size wr w9:=(aG wr).trans (hb9.mono (aG wr).size);have V9':=hid (V9.mono (S':=dM wr.heap.size w9) fun q _ hq=>⟨hq.1,aK (aG wr).size hq.2⟩);clear V9 hb9 how;dsimp only;refine hK.out _ _ (by(exact B9)) (fun hHeld2=>?_);clear hK K;(try simp only [Act.put,sA,sB,sC]);refine bH (by decide +kernel) ?_;simp only [cG,bT];have x9:=aJ B9 XR.out;have BZ:=hid (aI BW B9);have TE:=hid (aMb (t:=⟨nm,rows,⟨s,bo,⟨ng,nu,de⟩,el⟩⟩) (l:=[(0,.string nm),(1,.slice a' rows.length c'),(2,.int .i64 s),(3,.bool bo),(4,.bool ng),(5,.slice a9 nu.length c9),(6,.slice b9 de.length d9),(7,.int .i64 el)]) x9 (by omega) (O.out.below B9 aB) hXw.out (V9'.out.mono fun q _ hq=>⟨hq.1,aK BW.out.size hq.2⟩) BZ.out);have z0:=aC x9 0;have z1:=aC x9 1;have z2:=aC x9 2;have z3:=aC x9 3;have z4:=aC x9 4;have z5:=aC x9 5;have z6:=aC x9 6;have z7:=aC x9 7;have f0:=aY x9 0;have f1:=aY x9 1;have f2:=aY x9 2;have f3:=aY x9 3;have f4:=aY x9 4;have f5:=aY x9 5;have f6:=aY x9 6;have f7:=aY x9 7;simp only [dA,dB,cW] at z0 z1 z2 z3 z4 z5 z6 z7;clear x9 V9' B9 t0 t2 t3 t4 t5 t6 t7;go_wp2;refine bodyPost_ret (v:=tbV ⟨nm,rows,⟨s,bo,⟨ng,nu,de⟩,el⟩⟩ a' c' a9 c9 b9 d9) (by simp [results,Tryz.results98,go_sem, *]) rfl ?_;exact⟨a',c',a9,c9,b9,d9,rfl,TE.out.1,TE.out.2⟩
  case pos=>
   have hki:(k:Int)<rows.length:=by omega
   have hek:=uI hkn;have hsr:=hid (hts.out _ (List.mem_of_getElem? hek));obtain ⟨g,cap,cur,hv,hgw,hg,hsz⟩:=O.out.form (by omega);cases hv;obtain ⟨cs,hrd,hcc⟩:=O.out.elem hek;obtain ⟨g3,e3,a3,c3,b3,d3,rfl,R3⟩:=oF.1 hrd;have y0:=hcc 0 _ rfl;have y1:=hcc 1 _ rfl;have y2:=hcc 2 _ rfl;have y3:=hcc 3 _ rfl;have y4:=hcc 4 _ rfl;have y5:=hcc 5 _ rfl;have y6:=hcc 6 _ rfl;simp only [Nat.add_zero,show fQ.k=7 from rfl] at y0 y1 y2 y3 y4 y5 y6;have hek':=hid hek;have hg':=hid hg;have hsz':=hid (show(k+1) * 7<=cur.size from aK (Nat.mul_le_mul_right 7 (show k+1<=rows.length by omega)) hsz);have hXg:=hid (fun q hq=>hXr.out q g hq rfl);have R3':=hid R3;clear hcc hek hg hsz hrd R3;generalize rowAt rows k=x at *;obtain ⟨ags,⟨s2,bo2,⟨mg,mu,me⟩,el2⟩⟩:=x;dsimp only at *;have bA:=hid ((Below.refl wr.heap.size wr).alloc aB (.cells #[.slice g3 ags.length e3,.int .i64 s2,.bool bo2,.bool mg,.slice a3 mu.length c3,.slice b3 me.length d3,.int .i64 el2] 80));have XA:=hid (heap_alloc_new wr (.cells #[.slice g3 ags.length e3,.int .i64 s2,.bool bo2,.bool mg,.slice a3 mu.length c3,.slice b3 me.length d3,.int .i64 el2] 80))
   go_upto_region 5 with fail
   generalize (wr.alloc (.cells #[.slice g3 ags.length e3,.int .i64 s2,.bool bo2,.bool mg,.slice a3 mu.length c3,.slice b3 me.length d3,.int .i64 el2] 80))=wA at *;replace y0:=aD bA.out y0;replace y1:=aD bA.out y1;replace y2:=aD bA.out y2;replace y3:=aD bA.out y3;replace y4:=aD bA.out y4;replace y5:=aD bA.out y5;replace y6:=aD bA.out y6;have hzA:=hid (aK hZ.out bA.out.size);obtain ⟨u0,u1,u2,u3,u4,u5,u6⟩:=aBf XA.out;have hos:=hid (fun W (hW:Below wA.heap.size wA W)=>aEp g3 ags.length e3 ags W ((R3'.out.args.below bA.out aB).below hW aB) hsr.out.2.2 hsr.out.1);have how:=hid (fun W (hW:Below wA.heap.size wA W)=>lW ⟨s2,bo2,⟨mg,mu,me⟩,el2⟩ a3 b3 c3 d3 W ((R3'.out.val.below bA.out aB).below hW aB) hsr.out.2.1.1 hsr.out.2.1.2);refine aW (S:=fun W=>Below wA.heap.size wA W) 9 (by kernel_rfl) (by kernel_rfl) (aG wA) (fun _=>?_);refine aE 0 ?_;refine aE 1 ?_;refine aE 2 ?_;refine cJ 3 (fun W h=>aD h u0) ?_;refine aE 5 ?_;refine aE 6 (hy:=(Or.inl ⟨by rfl,by(intro W hSw;have hq1:=aD hSw u1;have hq2:=aD hSw u2;have hq3:=aD hSw u3;have hq4:=aD hSw u4;have hq5:=aD hSw u5;have hq6:=aD hSw u6;go_simp <;> with_reducible rfl)⟩)) ?_;refine aN 4 fun K hK=>?_;go_simp
   go_at_call 151
   refine(hos.out _ (aG wA)).mono ?_;rintro ee w9 ⟨a9,c9,rfl,O9,hb9⟩;have B9:Below wA.heap.size wA w9:=(aG wA).trans (hb9.mono (aG wA).size);have hz9:=hid (aK hzA.out (aG wA).size);have O9':=hid (O9.mono (S':=X) fun q _ hq=>hq.elim (fun h=>h.2) fun h=>hX.out.2 q (aK hz9.out h.2));have P9:=hid (fun q hq=>hX.out.2 q (aK hz9.out (O9.lt q hq).1));have how9:=hid (how.out w9 B9);clear O9 hb9 hos how;dsimp only;refine hK.out _ _ (by(exact B9)) (fun hHeld2=>?_);clear hK K;refine aN 7 fun K hK=>?_;go_simp
   go_at_call 91
   refine how9.out.mono ?_;rintro ee w10 ⟨a10,c10,b10,d10,rfl,V10,hb10⟩;have B10:Below wA.heap.size wA w10:=B9.trans (hb10.mono B9.size);have R10:=hid (show yG X w10 ⟨ags,⟨s2,bo2,⟨mg,mu,me⟩,el2⟩⟩ a9 c9 a10 c10 b10 d10 from⟨(O9'.out.below hb10 aB).read (fun _ _ h=>h) P9.out,by obtain ⟨_,_,e,h⟩:=O9'.out.slice;cases e;exact h,V10.mono fun q _ hq=>hX.out.2 q (aK (aK hzA.out B9.size) hq.2)⟩);clear hb10 V10 O9' P9 how9;dsimp only;refine hK.out _ _ (by(exact B10)) (fun hHeld3=>?_);clear hK K;(try simp only [Act.put,sA,sB,sC]);refine aE 8 ?_;refine bH (by decide +kernel) ?_;simp only [cG,bT];have bwr:=aI bA B10;have x10:=(bwr.block _ (bQ hg'.out).1).trans hg'.out;have OS:=hid (aHa (r:=⟨ags,⟨s2,bo2,⟨mg,mu,me⟩,el2⟩⟩) (O.out.below bwr aB) x10 hXg.out hkn hek'.out hsz'.out R10.out);have BS:=hid ((cN (by decide) (by decide) [(k * 7,.slice a9 ags.length c9),(k * 7+1,.int .i64 s2),(k * 7+2,.bool bo2),(k * 7+3,.bool mg),(k * 7+4,.slice a10 mu.length c10),(k * 7+5,.slice b10 me.length d10),(k * 7+6,.int .i64 el2)] w10 _ x10).2.2 _ _ hgw (aI B bwr));have ZS:=hid (show w1.heap.size<=w10.heap.size from aK hZ.out bwr.size);have f0:=aY x10 (k * 7);have f1:=aY x10 (k * 7+1);have f2:=aY x10 (k * 7+2);have f3:=aY x10 (k * 7+3);have f4:=aY x10 (k * 7+4);have f5:=aY x10 (k * 7+5);have f6:=aY x10 (k * 7+6);replace y0:=aD B10 y0;replace y1:=aD B10 y1;replace y2:=aD B10 y2;replace y3:=aD B10 y3;replace y4:=aD B10 y4;replace y5:=aD B10 y5;replace y6:=aD B10 y6;clear x10 B9 B10 u0 u1 u2 u3 u4 u5 u6 bwr R10;go_wp2
   go_roundw
   case rel=>exact⟨k+1,by omega,by go_num,OS.out,BS.out,by show w1.heap.size<=_;(repeat rw [fD]);exact ZS.out⟩
   case measure=>first | (simp [intOf];done) | (simp [intOf];omega)
end
def uL (l:iF) (k:Nat):mU:=l.getD k mJ
theorem aAw {l:iF} {k:Nat} (h:k<l.length):l[k]? = some (uL l k):=by unfold uL;rw [List.getD_eq_getElem?_getD,List.getElem?_eq_getElem h];rfl
theorem aCn {l:iF} {k:Nat} {nm:ByteArray} (h:k<l.length):eC (l.drop k) nm=if nQ (uL l k).name nm=true then some (uL l k) else eC (l.drop (k+1)) nm:=by
 unfold eC;rw [List.drop_eq_getElem_cons h,List.find?_cons];have e:l[k]=uL l k:=by have:=aAw h;rw [List.getElem?_eq_getElem h] at this;injection this
 rw [e];cases nQ (uL l k).name nm <;> rfl
structure oQ (S:Nat->Prop) (w:World) (m:iF) (ma:Option Addr) (mc:Nat):Prop where
 tbs:bJ lT S w ma m.length m
 cap:m.length<=mc/\mc<=maxLen
def iK (m:iF):Prop:=(∀t∈m,rU t)/\m.length<=1000000
def TbP (S:Nat->Prop) (z:Option mU) (w:World) (e:Ending) (w':World):Prop:=∃ra rc a c b d,e = .returned (.tuple #[tbV (z.getD mJ) ra rc a c b d,.bool z.isSome])/\mV (Since S w) w' (z.getD mJ) ra rc a c b d/\Below w.heap.size w w'
section
variable {S S' X : Nat -> Prop} {w W W' : World}
theorem aHb {z:Option mU} {p:Nat} {cs:Array Value} {ra:Option Addr} {rc:Nat} {a b:Option Addr} {c d:Nat} {l:List (Nat × Value)} (hp:W.heap[p]? = some (.cells cs 67 (0,0))) (hwp:w.heap.size<=p) (T:mV X W (z.getD mJ) ra rc a c b d) (hX:∀q,X q->Since S w q/\q≠p) (hb:Below w.heap.size w W) :
  TbP S z w (.returned (.tuple #[tbV (z.getD mJ) ra rc a c b d,.bool z.isSome])) (setL p l W):=by
 obtain ⟨q1,q2,q3⟩:=cN (p:=p) (by decide) (by decide) l W cs hp;exact⟨ra,rc,a,c,b,d,rfl,⟨(T.rows.keep (fun q _ hq=>eI (hX q hq).2 l W) (Nat.le_of_eq q2.symm)).mono fun q _ hq=>(hX q hq).1,T.rcc,(T.els.keep (fun q _ hq=>eI (hX q hq).2 l W) (Nat.le_of_eq q2.symm)).mono fun q _ hq=>(hX q hq).1⟩,q3 _ _ hwp hb⟩
theorem wQ (tbs:iF) (ma:Option Addr) (mc:Nat) (nm:ByteArray) (w:World) (h:oQ S w tbs ma mc) (hm:iK tbs) :
  Calls Tryz.prog 41 #[.agg #[.slice ma tbs.length mc],.string nm] w fun e w'=>TbP S (eC tbs nm) w e w':=by
 obtain ⟨z,hz⟩:∃z,eC tbs nm=z:=⟨_,rfl⟩;have hz0:=hid hz;rw [hz];have H:=hid (h.tbs.mono (S':=fun q=>q<w.heap.size/\S q) fun q hq hS=>⟨hq,hS⟩);have hms:=hid hm.1;have hmn:=hm.2;clear hz h hm;have X0:=hid (cY w (.cells #[.slice ma tbs.length mc] 71) (.cells #[.string ⟨#[]⟩,.slice none 0 0,.int .i64 0,.bool false,.bool false,.slice none 0 0,.slice none 0 0,.int .i64 0] 67));have x1:=dG w (.cells #[.slice ma tbs.length mc] 71) (.cells #[.string ⟨#[]⟩,.slice none 0 0,.int .i64 0,.bool false,.bool false,.slice none 0 0,.slice none 0 0,.int .i64 0] 67);have hB0:=hid (bX w (.cells #[.slice ma tbs.length mc] 71) (.cells #[.string ⟨#[]⟩,.slice none 0 0,.int .i64 0,.bool false,.bool false,.slice none 0 0,.slice none 0 0,.int .i64 0] 67));have hw0s:=hid (show((w.alloc (.cells #[.slice ma tbs.length mc] 71)).alloc (.cells #[.string ⟨#[]⟩,.slice none 0 0,.int .i64 0,.bool false,.bool false,.slice none 0 0,.slice none 0 0,.int .i64 0] 67)).heap.size=w.heap.size+1+1 from by simp);generalize hw0:(w.alloc (.cells #[.slice ma tbs.length mc] 71)).alloc (.cells #[.string ⟨#[]⟩,.slice none 0 0,.int .i64 0,.bool false,.bool false,.slice none 0 0,.slice none 0 0,.int .i64 0] 67)=w0 at *;have q1:w0.cell? ⟨w.heap.size,0,none⟩=some (.slice ma tbs.length mc):=aC x1 0;clear x1;go_enter Tryz.func41,Tryz.ntmps41
 go_wp2;clear hw0
 go_loopw [11,7] (fun v11 _ wr=>∃k:Nat,k<=tbs.length/\v11 = .int .i64 k/\Hid (eC (tbs.drop k) nm=z)/\Hid (Below w0.heap.size w0 wr)) (fun v11 _ _=>tbs.length - (intOf v11).toNat)
 case atStart=>exact⟨0,aV,rfl,by show eC (tbs.drop 0) nm=z;rw [bT];exact hz0.out,Below.refl _ _⟩
 case round=>
  obtain ⟨k,hk,rfl,hE,B⟩:=hrel;clear hz0;have BW:=hid (aI hB0 B.out);have XR:=hid (aJ B.out X0.out);by_cases hkn:k<tbs.length
  case neg=>
   have hki:¬(k:Int)<tbs.length:=by omega
   obtain rfl:none=z:=by rw [<-hE.out,List.drop_of_length_le (by omega)];rfl
   have z0:=aC XR.out 0;have z1:=aC XR.out 1;have z2:=aC XR.out 2;have z3:=aC XR.out 3;have z4:=aC XR.out 4;have z5:=aC XR.out 5;have z6:=aC XR.out 6;have z7:=aC XR.out 7;have f0:=aY XR.out 0;have f1:=aY XR.out 1;have f2:=aY XR.out 2;have f3:=aY XR.out 3;have f4:=aY XR.out 4;have f5:=aY XR.out 5;have f6:=aY XR.out 6;have f7:=aY XR.out 7;simp only [dA,dB,cW] at z0 z1 z2 z3 z4 z5 z6 z7;have hT:mV (fun _=>False) wr mJ none 0 none 0 none 0:=⟨.nil _ _ _ _,⟨aB,aV⟩,⟨(show fG 0 from⟨by decide,by decide⟩),(show fG 0 from⟨by decide,by decide⟩),.nil _ _ _ _,⟨aB,aV⟩,.nil _ _ _ _,⟨aB,aV⟩⟩⟩;have hT':=hid hT;clear hT;go_wp2;refine bodyPost_ret (v:=.tuple #[tbV mJ none 0 none 0 none 0,.bool false]) (by simp [results,Tryz.results41,go_sem,mJ,bZ,dC, *];rfl) rfl ?_;exact aHb (z:=none) XR.out (by omega) hT'.out (fun _ h=>h.elim) BW.out (l:=[(0,.string ⟨#[]⟩),(1,.slice none 0 0),(2,.int .i64 0),(3,.bool false),(4,.bool false),(5,.slice none 0 0),(6,.slice none 0 0),(7,.int .i64 0)])
  case pos=>
   have hki:(k:Int)<tbs.length:=by omega
   have hek:=aAw hkn;have hst:=hid (hms.out _ (List.mem_of_getElem? hek));have hE2:=hid ((aCn (nm:=nm) hkn).symm.trans hE.out);obtain ⟨bR,oR,g3,e3,a3,c3,b3,d3,rfl,R3,hr3⟩:=(H.out.below BW.out aB).tbAt hek;have y0:=hr3 0 _ rfl;have y1:=hr3 1 _ rfl;have y2:=hr3 2 _ rfl;have y3:=hr3 3 _ rfl;have y4:=hr3 4 _ rfl;have y5:=hr3 5 _ rfl;have y6:=hr3 6 _ rfl;have y7:=hr3 7 _ rfl;rw [Nat.add_zero] at y0;have R3':=hid R3;clear hek hr3 hE R3;generalize uL tbs k=x at *;obtain ⟨nm2,rows,⟨s,bo,⟨ng,nu,de⟩,el⟩⟩:=x;dsimp only at *;have bA:=hid ((Below.refl wr.heap.size wr).alloc aB (.cells #[.string nm2,.slice g3 rows.length e3,.int .i64 s,.bool bo,.bool ng,.slice a3 nu.length c3,.slice b3 de.length d3,.int .i64 el] 67));have XA:=hid (heap_alloc_new wr (.cells #[.string nm2,.slice g3 rows.length e3,.int .i64 s,.bool bo,.bool ng,.slice a3 nu.length c3,.slice b3 de.length d3,.int .i64 el] 67));have hsz:=hid (show(wr.alloc (.cells #[.string nm2,.slice g3 rows.length e3,.int .i64 s,.bool bo,.bool ng,.slice a3 nu.length c3,.slice b3 de.length d3,.int .i64 el] 67)).heap.size=wr.heap.size+1 from by simp)
   go_upto_region 4 with fail
   generalize (wr.alloc (.cells #[.string nm2,.slice g3 rows.length e3,.int .i64 s,.bool bo,.bool ng,.slice a3 nu.length c3,.slice b3 de.length d3,.int .i64 el] 67))=wA at *;have BA:=hid (aI BW bA.out);have BC:=hid (aI B bA.out);have XS:=hid (aJ bA.out XR.out);clear y0 y1 y2 y3 y4 y5 y6 y7;have u0:=aC XA.out 0;have u1:=aC XA.out 1;have u2:=aC XA.out 2;have u3:=aC XA.out 3;have u4:=aC XA.out 4;have u5:=aC XA.out 5;have u6:=aC XA.out 6;have u7:=aC XA.out 7;simp only [dA,dB,cW] at u0 u1 u2 u3 u4 u5 u6 u7;have hd:=@hid (nQ nm2 nm=(nm2.toList == nm.toList)) rfl;cases he:nQ nm2 nm
   case false=>
    have he':(nm2.toList == nm.toList)=false:=by rw [<-hd.out];exact he
    have hE3:=hid (show eC (tbs.drop (k+1)) nm=z from by rw [<-hE2.out,he];rfl);clear hd;go_wp2
    go_roundw
    case rel=>exact⟨k+1,by omega,by go_num,hE3.out,BC.out⟩
    case measure=>first | (simp [intOf];done) | (simp [intOf];omega)
   case true=>
    have he':(nm2.toList == nm.toList)=true:=by rw [<-hd.out];exact he
    obtain rfl:some ⟨nm2,rows,⟨s,bo,⟨ng,nu,de⟩,el⟩⟩=z:=by rw [<-hE2.out,he];rfl
    have hcp:=hid (aEr ⟨nm2,rows,⟨s,bo,⟨ng,nu,de⟩,el⟩⟩ g3 e3 a3 c3 b3 d3 wA ⟨R3'.out.rows.below bA.out aB,R3'.out.rcc,R3'.out.els.below bA.out aB⟩ hst.out);clear hd hE2
    go_wp2_with fail
    refine hcp.out.mono ?_;rintro ee w9 ⟨ra,rc,a9,c9,b9,d9,rfl,T9,hb9⟩;have x9:=aJ hb9 XS.out;have B9:=hid (aI BA hb9);have T9':=hid T9;have X9:=hid x9;have hXX:=hid (show ∀q,Since (fun q=>q<w.heap.size/\S q) wA q->Since S w q/\q≠w.heap.size+1 from fun q hq=>by
     have h1:=B.out.size;have h2:=hw0s.out;have h3:=hsz.out;rcases hq with h | h
     ·exact⟨.inl h.2,by omega⟩
     ·exact⟨.inr (by omega),by omega⟩)
    have z0:=aC x9 0;have z1:=aC x9 1;have z2:=aC x9 2;have z3:=aC x9 3;have z4:=aC x9 4;have z5:=aC x9 5;have z6:=aC x9 6;have z7:=aC x9 7;have f0:=aY x9 0;have f1:=aY x9 1;have f2:=aY x9 2;have f3:=aY x9 3;have f4:=aY x9 4;have f5:=aY x9 5;have f6:=aY x9 6;have f7:=aY x9 7;simp only [dA,dB,cW] at z0 z1 z2 z3 z4 z5 z6 z7;clear x9 T9 hb9 hcp u0 u1 u2 u3 u4 u5 u6 u7;go_wp2;refine bodyPost_ret (v:=.tuple #[tbV ⟨nm2,rows,⟨s,bo,⟨ng,nu,de⟩,el⟩⟩ ra rc a9 c9 b9 d9,.bool true]) (by simp [results,Tryz.results41,go_sem, *]) rfl ?_;exact aHb (z:=some ⟨nm2,rows,⟨s,bo,⟨ng,nu,de⟩,el⟩⟩) X9.out (by omega) T9'.out hXX.out B9.out (l:=[(0,.string nm2),(1,.slice ra rows.length rc),(2,.int .i64 s),(3,.bool bo),(4,.bool ng),(5,.slice a9 nu.length c9),(6,.slice b9 de.length d9),(7,.int .i64 el)])
end
end Go.Proofs.YtgoojkiccdjplaaGreatDoor
