/-
  Parts of this claim's texts, one behind the other: YO. No condition.
-/
import Derived.Test.YtgoojkiccdjplaaGreatDoorN4
set_option linter.unusedVariables false
set_option linter.unusedSimpArgs false
set_option maxRecDepth 100000
set_option maxHeartbeats 16000000
namespace Go.Proofs.YtgoojkiccdjplaaGreatDoor
open Go.RowKit Go.Sort Go.Lib
structure mY (w wr:World) (cs:Array Value) (l:List UInt8):Prop where
 b:Below w.heap.size w wr
 n:wr.heap[w.heap.size]? = some (.cells cs 38 (0,0))
 k:IsB w.heap.size (w.heap.size+1) (Lib.byteCells l) wr
section
variable {w wr w' : World} {cs : Array Value} {l : List UInt8}
theorem BAt.all {B b:Nat} {p:Value} {bs:List Value} (h:BAt B b p bs wr) (hb:Below wr.heap.size wr w'):BAt B b p bs w':=by
 obtain ⟨hB,v,h1,h2,h3⟩:=h;refine⟨hB,v,(hb.block b (bQ h1).1).trans h1,⟨h2.1,h2.2.imp id fun⟨g,cap,cur,q1,q2,q3,q4⟩=>⟨g,cap,cur,q1,q2,(hb.block g (bQ q3).1).trans q3,q4⟩⟩,h3⟩
theorem mY.all (h:mY w wr cs l) (hb:Below wr.heap.size wr w'):mY w w' cs l:=
 ⟨h.b.trans (hb.mono h.b.size),(hb.block _ (bQ h.n).1).trans h.n,h.k.imp (fun h=>BAt.all h hb) (fun h=>BAt.all h hb)⟩
theorem mY.start (w:World) (cs:Array Value):mY w ((w.alloc (.cells cs 38)).alloc (.cells #[.pointer none,.slice none 0 0] 216)) cs []:=
 ⟨bX w _ _,dG w _ _,.inl ⟨Nat.le_succ _,.slice none 0 0,cY w _ _,World.ownsRow_nil _ _ _ _,by simp [Value.ownBlock]⟩⟩
theorem tO (s:ByteArray) (h:mY w wr cs l) (hl:l.length<=100000000) (hs:s.size<=100000000):Calls Tryz.prog 175 #[.pointer (some ⟨w.heap.size+1,0,none⟩),.string s] wr fun e w'=>e = .returned (.tuple #[.int .i64 s.size,.nilIface])/\mY w w' cs (l++s.data.toList)/\aFr wr w':=by
 refine(aBp w.heap.size (w.heap.size+1) (Lib.byteCells l) s wr h.k (by simp [Lib.byteCells];omega) h.b.size).mono ?_;rintro e w' ⟨rfl,h1,h2,h3⟩;refine⟨rfl,⟨h.b.trans h2,h3 _ _ _ _ h.n (by decide) (by decide) |>.trans h.n,.inr ?_⟩,h3⟩;have:Lib.byteCells (l++s.data.toList)=Lib.byteCells l++Lib.strCells s:=by simp [Lib.byteCells,Lib.strCells]
 rw [this];exact h1
end
theorem fX (s:ByteArray):s.size=s.data.toList.length:=by simp
theorem lN {n:Int} (h:fG n):(Lib.itoa n).length<=21:=Lib.itoa_length_le n h.1 h.2
theorem vU (s:ByteArray):(rK s).length<=10 * s.size+2:=by
 unfold rK;rw [<-fX,strOfNums_size];exact Lib.quoteZ_length_le _ s
theorem aBq {xs:List Int} {k:Nat} (hk:k<xs.length):kD (xs.take (k+1))=kD (xs.take k)++(32 :: Lib.itoa (nth xs k)):=by
 unfold kD;rw [List.take_succ_eq_append_getElem hk,List.flatMap_append,cK hk];simp
theorem zP {xs:List Int} {k:Nat} (hk:k<xs.length):fN (xs.take (k+1))=fN (xs.take k)++(Lib.itoa (nth xs k) ++ [44]):=by
 unfold fN;rw [List.take_succ_eq_append_getElem hk,List.flatMap_append,cK hk];simp
theorem zQ {xs:List Int} (h:∀x∈xs,fG x):(kD xs).length<=22 * xs.length:=by
 induction xs with
 | nil=>simp [kD]
 |
  cons x xs ih=>
  have h1:=lN (h x (by simp));have h2:=ih fun y hy=>h y (by simp [hy])
  unfold kD at *;rw [List.flatMap_cons,List.length_append,List.length_cons,List.length_cons];omega
theorem zR {n:Int} (h:uX n):(Lib.itoa n).length<=21:=by
 obtain ⟨m,rfl⟩:=Int.eq_ofNat_of_zero_le h.1;have h2:=h.2;have:=Lib.nDigits_le20 m (by omega);rw [Lib.itoa_nonneg,Lib.decDigits_length];omega
theorem nU {xs:List Int} (h:∀x∈xs,uX x):(fN xs).length<=22 * xs.length:=by
 induction xs with
 | nil=>simp [fN]
 |
  cons x xs ih=>
  have h1:=zR (h x (by simp));have h2:=ih fun y hy=>h y (by simp [hy])
  unfold fN at *;simp only [List.flatMap_cons,List.length_append,List.length_cons,List.length_nil];omega
theorem zS {x:bY} (h1:fG x.op) (h2:fG x.sort) (h3:x.name.size<=1000000):(vO x).length<=10000100:=by
 have:=lN h1;have:=lN h2;have:=vU x.name;unfold vO;simp only [List.length_append,List.length_cons];omega
def aKw (xs:List Int):Prop:=∀x∈xs,uX x
structure zT (x:bY):Prop where
 name:x.name.size<=1000000
 num:x.val.num.length<=1000000
 den:x.val.den.length<=1000000
 args:x.args.length<=1000000
 low:x.op=11->aKw x.val.num/\aKw x.val.den
def tP (l:List UInt8) (nu de:List Int):Nat->List UInt8
 | 0=>l
 | 1=>l++47 :: fN nu
 | _=>(l++47 :: fN nu)++47 :: fN de
theorem aIy {S:Nat->Prop} (x:bY) (a b g:Option Addr) (c d e:Nat) (w:World) (hx:dR S w x a c b d g e) (hk:zT x) (hE:jQ w) :
  Calls Tryz.prog 136 #[iU x a c b d g e] w fun e w'=>e = .returned (.string (mQ x))/\Below w.heap.size w w':=by
 have hx':=hid hx;have hE':=hid hE;have hk':=hid hk;have hra:=hid hx.args.toI;have hop:=hid hx.op;have hso:=hid hx.sort;have hhd:=hid (zS hx.op hx.sort hk.name);have hdh:=@hid (vO x=Lib.itoa x.op++32 :: (Lib.itoa x.sort++32 :: rK x.name)) rfl;have hky:=@hid (aDq x=vO x++(kD x.args++aFg x)) rfl;have hnl:=@hid (aFg x=if x.op=11 then 32 :: (Lib.formatBool x.val.neg++47 :: (fN x.val.num++47 :: fN x.val.den)) else []) rfl;have hkb:=@hid (mQ x=⟨(aDq x).toArray⟩) rfl;have hla:=hk.args;obtain ⟨op,nm,⟨ng,nu,de⟩,args,so⟩:=x;dsimp only at *;generalize hH:vO ⟨op,nm,⟨ng,nu,de⟩,args,so⟩=H at *;generalize hN:aFg ⟨op,nm,⟨ng,nu,de⟩,args,so⟩=N at *;generalize hKL:aDq ⟨op,nm,⟨ng,nu,de⟩,args,so⟩=KL at *;generalize hKB:mQ ⟨op,nm,⟨ng,nu,de⟩,args,so⟩=KB at *;clear hH hN hKL hKB;have h0:=mY.start w #[.int .i64 op,.string nm,.bool ng,.slice a nu.length c,.slice b de.length d,.slice g args.length e,.int .i64 so];have h0':=hid h0;have q0:=aC h0.n 0;have q4:=aC h0.n 6;have q1:=aC h0.n 1;simp only [dA,dB,cW] at q0 q4 q1;clear hx hk hE h0;go_enter Tryz.func136,Tryz.ntmps136
 go_wp2_with fail
 generalize hW0:(w.alloc (.cells #[.int .i64 op,.string nm,.bool ng,.slice a nu.length c,.slice b de.length d,.slice g args.length e,.int .i64 so] 38)).alloc (.cells #[.pointer none,.slice none 0 0] 216)=w0 at *;clear hW0;have hit:=hid (fun(n:Int) (hn:fG n) (W:World) (hW:Below w0.heap.size w0 W)=>zO n hn W (hE'.out.all (h0'.out.b.trans (hW.mono h0'.out.b.size))));have hqt:=hid (fun(W:World) (hW:Below w0.heap.size w0 W)=>aDt nm hk'.out.name W (hE'.out.all (h0'.out.b.trans (hW.mono h0'.out.b.size))));have zo:(fI op).size<=21:=by rw [fX];exact lN hop.out
 have zs:(fI so).size<=21:=by rw [fX];exact lN hso.out
 have zq:(strOfNums (Lib.quoteZ Lib.goPrintTabs nm)).size<=10000002:=by rw [fX];have h1:=vU nm;have h2:=hk'.out.name;dsimp only at h2;unfold rK at h1;omega
 refine aW (S:=fun W=>Below w0.heap.size w0 W) 13 (by kernel_rfl) (by kernel_rfl) (aG w0) (fun _=>?_);refine aE 0 ?_;refine cJ 1 (fun W h=>aD h q0) ?_;refine aE 4 ?_;refine cJ 5 (fun W h=>aD h q4) ?_;refine aE 9 ?_;refine cJ 10 (fun W h=>aD h q1) ?_;refine aN 2 fun K hK=>?_;go_simp
 go_at_call 122
 refine(hit.out op hop.out _ (by assumption)).mono ?_;rintro e3 w3 ⟨rfl,hb3⟩;have B3:Below w0.heap.size w0 w3:=(aG w0).trans (hb3.mono (aG w0).size);clear hb3;dsimp only;refine hK.out _ _ (by(exact B3)) (fun hHeld2=>?_);clear hK K;(try simp only [Act.put,sA,sB,sC]);refine aE 3 (hy:=(Or.inl ⟨by rfl,by(intro W hSw;have hz:¬9223372036854775807<(fI op).size+1:=(by omega);go_simp <;> with_reducible rfl)⟩)) ?_;refine aN 6 fun K hK=>?_;go_simp
 go_at_call 122
 refine(hit.out so hso.out _ B3).mono ?_;rintro e4 w4 ⟨rfl,hb4⟩;have B4:Below w0.heap.size w0 w4:=B3.trans (hb4.mono B3.size);clear hb4;dsimp only;refine hK.out _ _ (by(exact B4)) (fun hHeld3=>?_);clear hK K;(try simp only [Act.put,sA,sB,sC]);refine aE 7 (hy:=(Or.inl ⟨by rfl,by(intro W hSw;have hz:¬9223372036854775807<(fI op).size+1+(fI so).size:=(by omega);go_simp <;> with_reducible rfl)⟩)) ?_;refine aE 8 (hy:=(Or.inl ⟨by rfl,by(intro W hSw;have hz:¬9223372036854775807<(fI op).size+1+(fI so).size+1:=(by omega);go_simp <;> with_reducible rfl)⟩)) ?_;refine aN 11 fun K hK=>?_;go_simp
 go_at_call 176
 refine(hqt.out _ B4).mono ?_;rintro e5 w5 ⟨rfl,hb5⟩;have B5:Below w0.heap.size w0 w5:=B4.trans (hb5.mono B4.size);clear hb5;dsimp only;refine hK.out _ _ (by(exact B5)) (fun hHeld4=>?_);clear hK K;(try simp only [Act.put,sA,sB,sC]);refine aE 12 (hy:=(Or.inl ⟨by rfl,by(intro W hSw;have hz:¬9223372036854775807<(fI op).size+1+(fI so).size+1+(strOfNums (Lib.quoteZ Lib.goPrintTabs nm)).size:=(by omega);go_simp <;> with_reducible rfl)⟩)) ?_;refine bH (by decide +kernel) ?_;simp only [cG,bT];have K5:=hid (h0'.out.all B5);clear B3 B4 B5 q0 q1 q4;generalize hs0:fI op ++ { data:=#[32] }++fI so ++ { data:=#[32] }++strOfNums (Lib.quoteZ Lib.goPrintTabs nm)=s0 at *;have hs1:s0.data.toList=H:=by rw [<-hs0,hdh.out];simp [fI,rK]
 have hs2:s0.size<=10000100:=by rw [fX,hs1];exact hhd.out
 clear hs0 zo zs zq
 go_wp2_with fail
 refine(tO s0 K5.out (by simp) (by omega)).mono ?_;rintro e1 w6 ⟨rfl,k6,_⟩;rw [List.nil_append,hs1] at k6;have K6:=hid k6;have n5:=aC k6.n 5;simp only [dA,dB,cW] at n5;clear k6 hs1 hs2 K5;go_wp2
 go_loopw [5,27] (fun _ i wr=>∃k:Nat,k<=args.length/\i = .int .i64 k/\Hid (mY w wr #[.int .i64 op,.string nm,.bool ng,.slice a nu.length c,.slice b de.length d,.slice g args.length e,.int .i64 so] (H++kD (args.take k)))) (fun _ i _=>args.length - (intOf i).toNat)
 case atStart=>exact⟨0,aV,rfl,by have h6:=K6.out;rw [<-List.append_nil H] at h6;exact h6⟩
 case round=>
  obtain ⟨k,hk,rfl,hK⟩:=hrel;have hlen:(H++kD (args.take k)).length<=32000200:=by
   have h1:=zQ (xs:=args.take k) (fun x hx=>hra.out.wf x (List.mem_of_mem_take hx));have h2:=hhd.out;rw [List.length_append];rw [List.length_take] at h1;omega
  have hlen':=hid hlen;clear hlen;by_cases hlt:k<args.length
  ·obtain ⟨b2,o2,rfl,k0⟩:=(hra.out.below hK.out.b aB).at k hlt;have hxo:fG (nth args k):=hra.out.wf _ (fF hlt);have hit2:=hid (zO (nth args k) hxo wr (hE'.out.all hK.out.b));have hsucc:=hid (aBq hlt);have zx:(fI (nth args k)).size<=21:=by rw [fX];exact lN hxo
   have zd:=@hid ((fI (nth args k)).data.toList=Lib.itoa (nth args k)) (by simp [fI]);clear hxo;generalize nth args k=y at *;have hz:¬9223372036854775807<1+(fI y).size:=by omega
   go_wp2_with fail
   refine hit2.out.mono ?_;rintro e1 w7 ⟨rfl,hb7⟩;have K7:=hid (hK.out.all hb7);clear hb7
   go_wp2_with fail
   refine(tO (ByteArray.mk #[32]++fI y) K7.out (by have:=hlen'.out;omega) (by rw [ByteArray.size_append];have:(ByteArray.mk #[32]).size=1:=rfl;omega)).mono ?_;rintro e1 w8 ⟨rfl,k8,_⟩;have K8:=hid k8;clear k8;go_wp2
   go_roundw
   case rel=>
    refine⟨k+1,by omega,by go_num,?_⟩;rw [hsucc.out];have:=K8.out;rw [ByteArray.data_append,Array.toList_append,zd.out,List.append_assoc] at this;exact this
   case measure=>simp [intOf];omega
  ·have hkn:args.take k=args:=List.take_of_length_le (by omega);rw [hkn] at hK hlen';clear hkn;have n0:=aC hK.out.n 0;have n2:=aC hK.out.n 2;have n3:=aC hK.out.n 3;have n4:=aC hK.out.n 4;simp only [dA,dB,cW] at n0 n2 n3 n4;by_cases h11:op=11
   case neg=>
    have hv:=@hid (KB=⟨(H++kD args).toArray⟩) (by rw [hkb.out,hky.out,hnl.out,if_neg h11,List.append_nil])
    go_wp2_with fail
    refine(Tryz.Builder_String_any w.heap.size (w.heap.size+1) _ wr hK.out.k hK.out.b.size).mono ?_;rintro e1 w9 ⟨rfl,hb9⟩;have B9:=hid (hK.out.b.trans hb9);clear hb9;go_wp2;go_ret;exact⟨by rw [hv.out];rfl,B9.out⟩
   case pos=>
    subst h11;have hv:=@hid (KB=⟨(H++(kD args++32 :: (Lib.formatBool ng++47 :: (fN nu++47 :: fN de)))).toArray⟩) (by rw [hkb.out,hky.out,hnl.out,if_pos rfl]);have hfb:=hid (Tryz.strconv_FormatBool ng wr);have zb:(ByteArray.mk (Lib.formatBool ng).toArray).size<=5:=by cases ng <;> decide
    have zbd:=@hid ((ByteArray.mk (Lib.formatBool ng).toArray).data.toList=Lib.formatBool ng) (by simp);generalize hsb:ByteArray.mk (Lib.formatBool ng).toArray=sb at *;have hz:¬9223372036854775807<1+sb.size:=by omega
    clear hsb
    go_wp2_with fail
    refine hfb.out.mono ?_;rintro e1 w7 ⟨rfl,rfl⟩
    go_wp2_with fail
    refine(tO (ByteArray.mk #[32]++sb) hK.out (by have:=hlen'.out;omega) (by rw [ByteArray.size_append];have:(ByteArray.mk #[32]).size=1:=rfl;omega)).mono ?_;rintro e1 w8 ⟨rfl,k8,_⟩;have hL:(H++kD args++(ByteArray.mk #[32]++sb).data.toList).length<=32000210:=by
     have h1:=hlen'.out;have h2:(ByteArray.mk #[32]++sb).data.toList.length<=6:=by rw [<-fX,ByteArray.size_append];have:(ByteArray.mk #[32]).size=1:=rfl;omega
     rw [List.length_append];omega
    have hLt:=@hid (H++kD args++(ByteArray.mk #[32]++sb).data.toList=H++(kD args++32 :: Lib.formatBool ng)) (by rw [ByteArray.data_append,Array.toList_append,zbd.out,List.append_assoc];rfl);generalize H++kD args++(ByteArray.mk #[32]++sb).data.toList=L at *;have K8:=hid (k8.all ((Below.refl _ _).alloc aB (.cells #[.slice a nu.length c,.slice b de.length d] 34)));have G8:=hid (heap_alloc_new w8 (.cells #[.slice a nu.length c,.slice b de.length d] 34));have n3:=aC k8.n 3;have n4:=aC k8.n 4;simp only [dA,dB,cW] at n3 n4;have hL':=hid hL;clear k8 hL hK hfb hlen' zb hz hit hqt;go_wp2
    go_loopw [53] (fun i wr=>∃k:Nat,k<=2/\i = .int .i64 k/\Hid (mY w wr #[.int .i64 11,.string nm,.bool ng,.slice a nu.length c,.slice b de.length d,.slice g args.length e,.int .i64 so] (tP L nu de k))/\Hid (wr.heap[w8.heap.size]? = some (.cells #[.slice a nu.length c,.slice b de.length d] 34 (0,0)))) (fun i _=>2 - (intOf i).toNat)
    case atStart=>exact⟨0,by omega,rfl,K8.out,G8.out⟩
    case round=>
     obtain ⟨k,hk,rfl,hK,hG⟩:=hrel;by_cases hlt:k<2
     ·obtain ⟨ad,cap,xs,hcell,hread,hlow,hxl,hout,hol⟩:∃(ad:Option Addr) (cap:Nat) (xs:List Int),wr.cell? ⟨w8.heap.size,k,none⟩=some (.slice ad xs.length cap)/\bJ bV.u64 S w ad xs.length xs/\aKw xs/\xs.length<=1000000/\tP L nu de (k+1)=tP L nu de k++47 :: fN xs/\(tP L nu de k).length<=54000300:=by
       have hlo:=hk'.out.low rfl;have g1:=hk'.out.num;have g2:=hk'.out.den;have g3:=nU hlo.1;dsimp only at hlo g1 g2 g3;have g4:=hL'.out
       match k,hlt with
       | 0,_=>exact⟨a,c,nu,aC hG.out 0,hx'.out.num,hlo.1,g1,rfl,by show L.length<=_;omega⟩
       | 1,_=>exact⟨b,d,de,aC hG.out 1,hx'.out.den,hlo.2,g2,rfl,by show(L++47 :: fN nu).length<=_;rw [List.length_append,List.length_cons];omega⟩
      have hki:(k:Int)<2:=by omega
      have hout':=hid hout;have hread':=hid hread;have hlow':=hid hlow;clear hout hread hlow;generalize hO1:tP L nu de (k+1)=O1 at *;have hO1':=hid hO1;clear hO1;generalize tP L nu de k=O0 at *
      go_wp2_with fail
      refine(tO (ByteArray.mk #[47]) hK.out (by omega) (by decide)).mono ?_;rintro e1 w9 ⟨rfl,k9,a9⟩;have K9:=hid k9;have G9:=hid ((a9 _ _ _ _ hG.out (by decide) (by decide)).trans hG.out);clear k9 a9 hcell;go_wp2
      go_loopw [60] (fun i wr=>∃j:Nat,j<=xs.length/\i = .int .i64 j/\Hid (mY w wr #[.int .i64 11,.string nm,.bool ng,.slice a nu.length c,.slice b de.length d,.slice g args.length e,.int .i64 so] (O0++47 :: fN (xs.take j)))/\Hid (wr.heap[w8.heap.size]? = some (.cells #[.slice a nu.length c,.slice b de.length d] 34 (0,0)))) (fun i _=>xs.length - (intOf i).toNat)
      case atStart=>exact⟨0,aV,rfl,K9.out,G9.out⟩
      case round=>
       obtain ⟨j,hj,rfl,hKj,hGj⟩:=hrel;by_cases hjl:j<xs.length
       ·obtain ⟨b3,o3,cs3,ha3,_,hr3,hc3⟩:=(hread'.out.below hKj.out.b aB).at (List.getElem?_eq_getElem hjl);have hw3:=hlow'.out xs[j] (List.getElem_mem hjl);have hc4:=hc3 0 (.int .u64 xs[j]) (by rw [hr3.1];rfl);have hsucc:=hid (zP hjl);have hlj:=nU (xs:=xs.take j) (fun x hx=>hlow'.out x (List.mem_of_mem_take hx));rw [List.length_take] at hlj;have hlj':=@hid ((O0++47 :: fN (xs.take j)).length<=76000400) (by rw [List.length_append,List.length_cons];omega);rw [cK hjl] at hsucc;obtain ⟨mm,hmm⟩:=Int.eq_ofNat_of_zero_le hw3.1;rw [hmm] at hc4 hsucc hw3;have hm64:mm<18446744073709551616:=by have:=hw3.2;omega
        have hc5:wr.cell? ⟨b3,o3+j,none⟩=some (.int .u64 mm):=by simpa [bV.u64] using hc4
        subst ha3;have hfm:=hid (aIx mm hm64 wr (hE'.out.all hKj.out.b));have hji:(j:Int)<xs.length:=by omega
        have zm:(fI (mm:Int)).size<=21:=by rw [fX];exact zR hw3
        have zmd:=@hid ((fI (mm:Int)).data.toList=Lib.itoa (mm:Int)) (by simp [fI]);have hz:¬9223372036854775807<(fI (mm:Int)).size+1:=by omega
        clear hc3 hc4 hr3 hw3 hmm hlj
        go_wp2_with fail
        refine hfm.out.mono ?_;rintro e1 w10 ⟨rfl,hb10⟩;have K10:=hid (hKj.out.all hb10);have G10:=hid ((hb10.block w8.heap.size (bQ hGj.out).1).trans hGj.out);clear hb10
        go_wp2_with fail
        refine(tO (fI (mm:Int)++ByteArray.mk #[44]) K10.out (by have:=hlj'.out;omega) (by rw [ByteArray.size_append];have:(ByteArray.mk #[44]).size=1:=rfl;omega)).mono ?_;rintro e1 w11 ⟨rfl,k11,a11⟩;have K11:=hid k11;have G11:=hid ((a11 _ _ _ _ G10.out (by decide) (by decide)).trans G10.out);clear k11 a11;go_wp2
        go_roundw
        case rel=>
         refine⟨j+1,by omega,by go_num,?_,G11.out⟩;rw [hsucc.out];have h11:=K11.out;rw [ByteArray.data_append,Array.toList_append,zmd.out,List.append_assoc,List.cons_append] at h11;exact h11
        case measure=>simp [intOf];omega
       ·have hjt:xs.take j=xs:=List.take_of_length_le (by omega);rw [hjt,<-hout'.out] at hKj;clear hjt;go_wp2
        go_roundw
        case rel=>exact⟨k+1,by omega,by go_num,by rw [hO1'.out];exact hKj.out,hGj.out⟩
        case measure=>simp [intOf];omega
     ·have hk2:k=2:=by omega
      subst hk2;have hv2:=@hid (KB=⟨(tP L nu de 2).toArray⟩) (by rw [hv.out];show _=ByteArray.mk ((L++47 :: fN nu)++47 :: fN de).toArray;rw [hLt.out];simp)
      go_wp2_with fail
      refine(Tryz.Builder_String_any w.heap.size (w.heap.size+1) _ wr hK.out.k hK.out.b.size).mono ?_;rintro e1 w9 ⟨rfl,hb9⟩;have B9:=hid (hK.out.b.trans hb9);clear hb9;go_wp2;go_ret;exact⟨by rw [hv2.out];rfl,B9.out⟩
end Go.Proofs.YtgoojkiccdjplaaGreatDoor
