/-
  Parts of this claim's texts, one behind the other: CM. No condition.
-/
import Derived.Test.YtgoojkiccdjplaaGreatDoorM25
set_option linter.unusedVariables false
set_option linter.unusedSimpArgs false
set_option maxRecDepth 100000
set_option maxHeartbeats 16000000
namespace Go.Proofs.YtgoojkiccdjplaaGreatDoor
open Go.RowKit Go.Sort Go.Lib
variable {X : Nat → Prop} {B r q : Nat}
theorem isEmpty_nil {nm:ByteArray} (h:nm.size=0):nm=ByteArray.mk #[]:=by
 obtain ⟨l⟩:=nm
 have:l = #[]:=Array.eq_empty_of_size_eq_zero h
 rw [this]
theorem isEmpty_no {nm:ByteArray} (h:nm.size≠0):nm.toList.isEmpty=false:=by
 rw [Lib.toList_data]
 cases hh:nm.data.toList with
 | nil=>exact absurd (by rw [size_data,hh];rfl) h
 | cons _ _=>rfl
theorem node_ne {T:TermD} {k:Nat} {x:NodeD} (hk:k<T.nodes.length) (h:nodeAt T k≠x) {j:Nat} (hj:j<k+1) (hne:∀j,j<k→T.nodes[j]? ≠ some x):T.nodes[j]? ≠ some x:=by
 by_cases e:j=k
 ·subst e;rw [nodeAt_nat hk];intro e;exact h (by injection e)
 ·exact hne j (by omega)
theorem node_one5 {x:NodeD} {a b g:Option Addr} {c d e:Nat}:∀u∈nodeC x a c b d g e,u.oneCell'=true:=node_one
theorem SlR.datX {α:Type} {R:Rep α} {w wr W:World} {a:Option Addr} {n:Nat} {xs:List α} (h:SlR R (DatY B X w) w a n xs) (h1:Below w.heap.size w wr) (h2:Below wr.heap.size wr W):SlR R (DatY B X W) W a n xs:=by
 have hb:=h1.trans (h2.mono h1.size)
 exact(h.keep (fun k hl _=>hb.block k hl) hb.size).mono fun k _ hd=>(by
  rcases hd with hd | hd
  ·exact .inl hd
  ·exact .inr (hd.same (hb.block k hd.2.lt)))
theorem RMakePost.add {T:TermD} {op:Int} {nm:ByteArray} {val:RatD} {args:List Int} {w wr w':World} {x:NodeD} (h:RTm X B r q T.S T.nodes w) (hb:Below w.heap.size w wr) (hp:RTm X B r q T.S (T.nodes ++ [x]) w'∧RStep r wr w') (hv:makeD T op nm val args=(((T.nodes.length:Int),0),addN T x)) :
  RMakePost X B r q T op nm val args w (.returned (.tuple #[.int .i64 T.nodes.length,.int .i64 0])) w':=
 ⟨by rw [hv],by rw [hv];exact hp.1,(RStep.of_below h.plt hb).trans hp.2⟩
theorem sameR_iff {a b:RatD}:sameR a b=true↔a=b:=by
 obtain ⟨n1,u1,d1⟩:=a
 obtain ⟨n2,u2,d2⟩:=b
 unfold sameR
 simp only [Bool.and_eq_true,decide_eq_true_eq,beq_iff_eq,RatD.mk.injEq]
theorem make_bad {T:TermD} {op:Int} {nm:ByteArray} {val:RatD} {args:List Int} (h:(badHead op args || badVal op nm val)=true):makeD T op nm val args=((0,1),T):=by
 unfold makeD
 rcases Bool.or_eq_true_iff.1 h with h | h
 ·rw [if_pos h]
 ·by_cases h1:badHead op args=true
  ·rw [if_pos h1]
  ·rw [if_neg h1,if_pos h]
theorem make_good {T:TermD} {op:Int} {nm:ByteArray} {val:RatD} {args:List Int} (h1:badHead op args=false) (h2:badVal op nm val=false):makeD T op nm val args=if args.any (fun i=>!hasT T i) then((0,1),T) else if (sortedD T op nm args).2 then putD T ⟨op,nm,val,args,(sortedD T op nm args).1⟩ else((0,3),T):=by
 unfold makeD
 rw [if_neg (by rw [h1];decide),if_neg (by rw [h2];decide)]
theorem any_bad {T:TermD} {args:List Int} {k:Nat} (hk:k<args.length) (h:hasT T (nth args k)=false):args.any (fun i=>!hasT T i)=true:=by
 rw [List.any_eq_true]
 exact⟨nth args k,nth_mem hk,by rw [h];rfl⟩
theorem any_good {T:TermD} {args:List Int} (h:∀j,j<args.length→hasT T (nth args j)=true):args.any (fun i=>!hasT T i)=false:=by
 rw [List.any_eq_false]
 intro x hx
 obtain ⟨j,hj,rfl⟩:=List.getElem_of_mem hx
 have:=h j hj
 rw [nth_eq hj] at this
 rw [this];decide
theorem head_good {op:Int} {args:List Int} (h:badHead op args=false):1≤op∧op≤20∧args.length≤64:=by
 unfold badHead at h
 simp only [Bool.or_eq_false_iff,decide_eq_false_iff_not] at h
 omega
theorem rmake_any (T:TermD) (op:Int) (nm:ByteArray) (val:RatD) (args:List Int) (a b g:Option Addr) (c d e:Nat) (w:World) (H:RTm X B r q T.S T.nodes w) (ti:TInv T) (hrs:∀x∈T.nodes,okI x.sort) (hrf:∀f∈T.S.funs,okI f.res) (hx:RArgs B X w val args op a b g c d e) :
  Calls Tryz.prog 67 #[.pointer (some ⟨r,0,none⟩),.int .i64 op,.string nm,ratV val a c b d,.slice g args.length e] w fun e w'=>RMakePost X B r q T op nm val args w e w':=by
 have H':=hid H
 have ti':=hid ti
 have hx':=hid hx
 have hsI:=hid (sorted_okI (op:=op) (nm:=nm) (args:=args) hrs hrf)
 have hal:=hx.al
 have hB0:Below w.heap.size w (w.alloc (.cells #[.bool val.neg,.slice a val.num.length c,.slice b val.den.length d] 36)):=(Below.refl _ _).alloc (Nat.le_refl _) _
 have X0:=heap_alloc_new w (.cells #[.bool val.neg,.slice a val.num.length c,.slice b val.den.length d] 36)
 have X0':=hid X0
 have B0':=hid hB0
 have hva:=hid (rvalid_any val a b c d (w.alloc (.cells #[.bool val.neg,.slice a val.num.length c,.slice b val.den.length d] 36)) (hx.rnum.below hB0 (Nat.le_refl _)) (hx.rden.below hB0 (Nat.le_refl _)) hx.nl hx.dl hx.nc hx.dc)
 have x0:=cell_p X0 0
 have x1:=cell_p X0 1
 have x2:=cell_p X0 2
 simp only [List.getElem?_toArray,List.getElem?_cons_succ,List.getElem?_cons_zero] at x0 x1 x2
 have hz:=@hid (zeroR val=(!val.neg && (decide (val.num.length=0) && decide (val.den.length=0)))) rfl
 have hbad:=@hid ((badHead op args || badVal op nm val)=((decide (op<1) || decide (20<op) || decide (64<args.length)) || ((!(op == 12) && !(nm.size == 0)) || (!(op == 11) && !zeroR val) || (op == 11 && !okRat val)))) rfl
 clear H ti hx hB0 X0 hrs hrf
 go_enter Tryz.func67,Tryz.ntmps67
 go_upto_region 1 with fail
 generalize hw1:(w.alloc (.cells #[.bool val.neg,.slice a val.num.length c,.slice b val.den.length d] 36))=w1 at *
 clear hw1
 obtain ⟨ng,nu,de⟩:=val
 dsimp only at *
 go_cut [12] from 18 to 32 (fun v12 wc=>v12 = .bool (zeroR ⟨ng,nu,de⟩)∧wc=w1)
 case first=>
  cases ng
  case true=>
   have hv:=hid (show zeroR ⟨true,nu,de⟩=false from by rw [hz.out];rfl)
   go_wp2
   go_meet
   case rel=>exact⟨congrArg Value.bool hv.out.symm,rfl⟩
  case false=>
   by_cases h1:nu.length=0
   ·have h1i:(nu.length:Int)=0:=by omega
    have h1b:((nu.length:Int) == 0)=true:=by simpa using h1
    have h1d:decide ((nu.length:Int)=0)=true:=decide_eq_true h1i
    by_cases h2:de.length=0
    ·have hv:=hid (show zeroR ⟨false,nu,de⟩=true from by rw [hz.out,decide_eq_true h1,decide_eq_true h2];rfl)
     have h2i:(de.length:Int)=0:=by omega
     have h2b:((de.length:Int) == 0)=true:=by simpa using h2
     have h2d:decide ((de.length:Int)=0)=true:=decide_eq_true h2i
     go_wp2
     go_meet
     case rel=>exact⟨congrArg Value.bool (by rw [hv.out] <;> rfl),rfl⟩
    ·have hv:=hid (show zeroR ⟨false,nu,de⟩=false from by rw [hz.out,decide_eq_true h1,decide_eq_false h2];rfl)
     have h2i:¬(de.length:Int)=0:=by omega
     have h2b:((de.length:Int) == 0)=false:=by simpa using h2
     have h2d:decide ((de.length:Int)=0)=false:=decide_eq_false h2i
     go_wp2
     go_meet
     case rel=>exact⟨congrArg Value.bool (by rw [hv.out] <;> rfl),rfl⟩
   ·have hv:=hid (show zeroR ⟨false,nu,de⟩=false from by rw [hz.out,decide_eq_false h1];rfl)
    have h1i:¬(nu.length:Int)=0:=by omega
    have h1b:((nu.length:Int) == 0)=false:=by simpa using h1
    have h1d:decide ((nu.length:Int)=0)=false:=decide_eq_false h1i
    go_wp2
    go_meet
    case rel=>exact⟨congrArg Value.bool (by rw [hv.out] <;> rfl),rfl⟩
 case rest=>
  obtain ⟨rfl,rfl⟩:=hcut
  obtain ⟨w1,rfl⟩:∃w1,w1=wc:=⟨_,rfl⟩
  go_upto_region 2 with fail
  clear hz
  go_cut [68] from 33 to 67 (fun v68 wc=>v68 = .bool (badHead op args || badVal op nm ⟨ng,nu,de⟩)∧Hid (Below w.heap.size w wc)∧Hid (wc.heap[w.heap.size]? = some (.cells #[.bool ng,.slice a nu.length c,.slice b de.length d] 36 (0,0))))
  case first=>
   generalize hbb:(badHead op args || badVal op nm ⟨ng,nu,de⟩)=bb at *
   clear hbb
   generalize hzr:zeroR ⟨ng,nu,de⟩=zr at *
   generalize hok:okRat ⟨ng,nu,de⟩=ok at *
   clear hzr hok
   by_cases h1:op<1
   ·have hv:=hid (show bb=true from by rw [hbad.out,decide_eq_true h1];rfl)
    clear hbad
    go_wp2
    go_meet
    case rel=>exact⟨congrArg Value.bool (by rw [hv.out] <;> rfl),B0'.out,X0'.out⟩
   have h1d:decide (op<1)=false:=decide_eq_false h1
   by_cases h2:20<op
   ·have hv:=hid (show bb=true from by rw [hbad.out,h1d,decide_eq_true h2];rfl)
    clear hbad
    go_wp2
    go_meet
    case rel=>exact⟨congrArg Value.bool (by rw [hv.out] <;> rfl),B0'.out,X0'.out⟩
   have h2d:decide (20<op)=false:=decide_eq_false h2
   by_cases h3:64<args.length
   ·have hv:=hid (show bb=true from by rw [hbad.out,h1d,h2d,decide_eq_true h3];rfl)
    have h3i:(64:Int)<args.length:=by omega
    clear hbad
    go_wp2
    go_meet
    case rel=>exact⟨congrArg Value.bool (by rw [hv.out] <;> rfl),B0'.out,X0'.out⟩
   have h3d:=decide_eq_false h3
   have h3i:¬(64:Int)<args.length:=by omega
   have h3e:decide ((64:Int)<args.length)=false:=decide_eq_false h3i
   have hbad2:=hid (show bb=((!(op == 12) && !(nm.size == 0)) || (!(op == 11) && !zr) || (op == 11 && !ok)) from by rw [hbad.out,h1d,h2d,h3d];rfl)
   clear hbad h3d
   by_cases hnm:nm.size=0
   case neg=>
    have hnl:=isEmpty_no hnm
    have hnb:(nm.size == 0)=false:=by simpa using hnm
    by_cases h12:op=12
    ·subst h12
     have hv:=hid (show bb = !zr from by rw [hbad2.out];cases zr <;> rfl)
     clear hbad2
     cases zr
     ·go_wp2
      go_meet
      case rel=>exact⟨congrArg Value.bool (by rw [hv.out] <;> rfl),B0'.out,X0'.out⟩
     ·go_wp2
      go_meet
      case rel=>exact⟨congrArg Value.bool (by rw [hv.out] <;> rfl),B0'.out,X0'.out⟩
    ·have h12b:(op == 12)=false:=by simpa using h12
     have h12c:(op != 12)=true:=by simpa using h12
     have hv:=hid (show bb=true from by rw [hbad2.out,h12b,hnb];rfl)
     clear hbad2
     go_wp2
     go_meet
     case rel=>exact⟨congrArg Value.bool (by rw [hv.out] <;> rfl),B0'.out,X0'.out⟩
   case pos=>
    have hne:=isEmpty_nil hnm
    subst hne
    by_cases h11:op=11
    ·subst h11
     have hv:=hid (show bb = !ok from by rw [hbad2.out];cases zr <;> cases ok <;> rfl)
     clear hbad2
     cases zr
     all_goals
      go_wp2_with fail
      refine hva.out.mono ?_;rintro e1 w2 ⟨rfl,hb2⟩
      have B2:=hid (B0'.out.trans (hb2.mono B0'.out.size))
      have X2:=hid ((hb2.block _ (Array.getElem?_eq_some_iff.1 X0'.out).1).trans X0'.out)
      clear hb2
      go_wp2
      go_meet
      case rel=>exact⟨congrArg Value.bool (by rw [hv.out] <;> rfl),B2.out,X2.out⟩
    ·have h11b:(op == 11)=false:=by simpa using h11
     have h11c:(op != 11)=true:=by simpa using h11
     have hv:=hid (show bb = !zr from by
      rw [hbad2.out,h11b,show((ByteArray.mk #[]).size == 0)=true from rfl]
      cases (op == 12) <;> cases zr <;> rfl)
     clear hbad2
     cases zr
     ·go_wp2
      go_meet
      case rel=>exact⟨congrArg Value.bool (by rw [hv.out] <;> rfl),B0'.out,X0'.out⟩
     ·go_wp2
      go_meet
      case rel=>exact⟨congrArg Value.bool (by rw [hv.out] <;> rfl),B0'.out,X0'.out⟩
  case rest=>
   obtain ⟨rfl,hB2,hX2⟩:=hcut
   obtain ⟨w2,rfl⟩:∃w2,w2=wc:=⟨_,rfl⟩
   clear hva hbad x0 x1 x2 X0' B0'
   cases hbb:(badHead op args || badVal op nm ⟨ng,nu,de⟩)
   case true=>
    have hv:=hid (make_bad (T:=T) hbb)
    clear hbb
    go_wp2
    go_ret2
    exact RMakePost.err H'.out hB2.out hv.out
   case false=>
    obtain ⟨hh,hbv⟩:=Bool.or_eq_false_iff.1 hbb
    have hd1:=hid (make_good (T:=T) hh hbv)
    obtain ⟨ho1,ho20,h64⟩:=head_good hh
    have hmq:=hid (fun hs=>make_q (T:=T) (op:=op) (nm:=nm) (val:=⟨ng,nu,de⟩) (args:=args) ti'.out.fq hbv hs)
    have R2:=hid (H'.out.all hB2.out)
    obtain ⟨aL,cL,k1,_⟩:=R2.out.rd.len
    have rX:=hid (hx'.out.rargs.below hB2.out (Nat.le_refl _))
    have hle:=ti'.out.ok.sm.le
    clear hbb hh hbv
    go_wp2
    go_loopw [10,11,13] (fun v10 v11 v13 wr=>∃k:Nat,k≤args.length∧v10 = .int .i64 0∧v11 = .int .i64 0∧v13 = .int .i64 k∧Hid (∀j,j<k→hasT T (nth args j)=true)∧∃z,wr=w2.drewN z) (fun _ _ v13 _=>args.length - (intOf v13).toNat)
    case atStart=>exact⟨0,Nat.zero_le _,rfl,rfl,rfl,fun j hj=>absurd hj (by omega),0,rfl⟩
    case round=>
     obtain ⟨k,hk,rfl,rfl,rfl,hall,z,rfl⟩:=hrel
     by_cases hkl:k<args.length
     case pos=>
      obtain ⟨bA,oA,rfl,kA⟩:=rX.out.at k hkl
      have hki:(k:Int)<args.length:=by omega
      have hbad:=hid (fun h=>show makeD T op nm ⟨ng,nu,de⟩ args=((0,1),T) from by rw [hd1.out,any_bad hkl h];rfl)
      have hgo:=hid (fun(h:hasT T (nth args k)=true)=>show ∀j,j<k+1→hasT T (nth args j)=true from fun j hj=>by
       by_cases e:j=k
       ·rw [e];exact h
       ·exact hall.out j (by omega))
      have hht:=hid (show hasT T (nth args k)=(decide (0≤nth args k) && decide (nth args k<(T.nodes.length:Int))) from rfl)
      generalize nth args k=x at *
      by_cases hx0:x<0
      ·have hv:=hid (hbad.out (by rw [hht.out,decide_eq_false (by omega)];rfl))
       have hxd:decide (x<0)=true:=decide_eq_true hx0
       clear hbad hgo
       go_wp2
       go_quiet (fail)
       go_wp2
       go_ret2
       exact RMakePost.err H'.out ((hB2.out.drewN _).drewN _) hv.out
      ·have hxd:decide (x<0)=false:=decide_eq_false hx0
       by_cases hxl:x<T.nodes.length
       ·have hv:=hid (hgo.out (by rw [hht.out,decide_eq_true (by omega),decide_eq_true hxl];rfl))
        have hxg:¬(T.nodes.length:Int)≤x:=by omega
        have hxgd:decide ((T.nodes.length:Int)≤x)=false:=decide_eq_false hxg
        clear hbad hgo hht
        go_wp2
        go_quiet (fail)
        go_wp2
        go_roundw
        case rel=>exact⟨k+1,by omega,rfl,rfl,by go_num,hv.out,_,by first | rfl | (rw [World.drewN_drewN])⟩
        case measure=>first | (simp [intOf];done) | (simp [intOf];omega)
       ·have hv:=hid (hbad.out (by rw [hht.out,decide_eq_false hxl,Bool.and_false]))
        have hxg:(T.nodes.length:Int)≤x:=by omega
        have hxgd:decide ((T.nodes.length:Int)≤x)=true:=decide_eq_true hxg
        clear hbad hgo hht
        go_wp2
        go_quiet (fail)
        go_wp2
        go_ret2
        exact RMakePost.err H'.out ((hB2.out.drewN _).drewN _) hv.out
     case neg=>
      obtain rfl:k=args.length:=by omega
      have hnb:=any_good hall.out
      have hin:=hid (inT_of hnb)
      have hd2:=hid (show makeD T op nm ⟨ng,nu,de⟩ args=if (sortedD T op nm args).2 then putD T ⟨op,nm,⟨ng,nu,de⟩,args,(sortedD T op nm args).1⟩ else((0,3),T) from by rw [hd1.out,hnb];rfl)
      have hBz:Below w2.heap.size w2 (w2.drewN z):=(Below.refl _ _).drewN z
      have R3:=R2.out.all hBz
      have hso:=hid (rtsort_any (X:=X) (Bq:=B) (q:=q) (r:=r) T op nm g args.length e args (w2.drewN z) ⟨R3.rd,R3.cq,R3.sq,rX.out.below hBz (Nat.le_refl _),h64,hin.out,ti'.out.ok.sm.s,ti'.out.nu,ti'.out.ok.ord,ti'.out.ok.sm.le,ti'.out.ok.sn⟩ ho1 ho20)
      have hB3:=hid (hB2.out.drewN z)
      have hX3:=hid (show(w2.drewN z).heap[w.heap.size]? = _ from hX2.out)
      generalize w2.drewN z=w3 at *
      clear hnb hall hd1 R3 hBz
      cases hok:(sortedD T op nm args).2
      case false=>
       have hv:=hid (show makeD T op nm ⟨ng,nu,de⟩ args=((0,3),T) from by rw [hd2.out,hok];rfl)
       go_wp2_with fail
       refine hso.out.mono ?_;rintro e4 w4 ⟨s,rfl,_,hb4⟩
       rw [hok]
       have B4:=hid (hB3.out.trans (hb4.mono hB3.out.size))
       clear hb4 hok
       go_wp2
       go_ret2
       exact RMakePost.err H'.out B4.out hv.out
      case true=>
       have hNQ:=hid (hmq.out hok)
       have hd3:=hid (show makeD T op nm ⟨ng,nu,de⟩ args=putD T ⟨op,nm,⟨ng,nu,de⟩,args,(sortedD T op nm args).1⟩ from by rw [hd2.out,hok];rfl)
       go_wp2_with fail
       refine hso.out.mono ?_;rintro e4 w4 ⟨s,rfl,hs,hb4⟩
       have hs':=hs hok
       rw [hok]
       subst hs'
       have B4:=hid (hB3.out.trans (hb4.mono hB3.out.size))
       have X4:=hid ((hb4.block _ (Array.getElem?_eq_some_iff.1 hX3.out).1).trans hX3.out)
       have R4:=hid (H'.out.all B4.out)
       clear hb4 hok hs hso hmq hd2 R2 rX k1
       obtain ⟨aL,cL,k1,sL⟩:=R4.out.rd.len
       have sL':=hid sL
       have hso2:=hid hsI.out
       clear hsI
       generalize (sortedD T op nm args).1=so at *
       clear sL
       go_wp2
       go_loopw [10,11,16,17] (fun v10 v11 v16 _ wr=>∃k:Nat,k≤T.nodes.length∧v10 = .int .i64 0∧v11 = .int .i64 0∧v16 = .int .i64 k∧Hid (∀j,j<k→T.nodes[j]? ≠ some ⟨op,nm,⟨ng,nu,de⟩,args,so⟩)∧Hid (Below w4.heap.size w4 wr)) (fun _ _ v16 _ _=>T.nodes.length - (intOf v16).toNat)
       case atStart=>exact⟨0,Nat.zero_le _,rfl,rfl,rfl,fun j hj=>absurd hj (by omega),Below.refl _ _⟩
       case round=>
        obtain ⟨k,hk,rfl,rfl,rfl,hne,hB⟩:=hrel
        have k1:=keep_cell hB.out k1
        by_cases hkl:k<T.nodes.length
        case pos=>
         have hxk:=nodeAt_nat hkl
         have hnn:=hid (fun(h:nodeAt T k≠⟨op,nm,⟨ng,nu,de⟩,args,so⟩)=>show ∀j,j<k+1→T.nodes[j]? ≠ some ⟨op,nm,⟨ng,nu,de⟩,args,so⟩ from fun j hj=>node_ne hkl h hj hne.out)
         have hhit:=hid (fun(h:nodeAt T k=⟨op,nm,⟨ng,nu,de⟩,args,so⟩)=>show makeD T op nm ⟨ng,nu,de⟩ args=(((k:Int),0),T) from by rw [hd3.out];exact ti'.out.ids.hit (by rw [←h];exact hxk))
         obtain ⟨b1,o1,a',c',b',d',g',e',rfl,hn,hcs⟩:=sL'.out.nodeAt hxk
         have q0:=keep_cell hB.out (hcs 0 _ rfl)
         rw [Nat.add_zero] at q0
         have q1:=keep_cell hB.out (hcs 1 _ rfl)
         have q2:=keep_cell hB.out (hcs 2 _ rfl)
         have q3:=keep_cell hB.out (hcs 3 _ rfl)
         have q4:=keep_cell hB.out (hcs 4 _ rfl)
         have q5:=keep_cell hB.out (hcs 5 _ rfl)
         have q6:=keep_cell hB.out (hcs 6 _ rfl)
         have hkL:(k:Int)<T.nodes.length:=by omega
         have hsz:=ti'.out.ok.sn _ (List.mem_of_getElem? hxk)
         have hN:=hid hn
         clear hn hcs hxk
         generalize nodeAt T k=nd at *
         obtain ⟨op',nm',⟨ng',nu',de'⟩,args',so'⟩:=nd
         dsimp only at *
         have hBW:=hid (B4.out.trans (hB.out.mono B4.out.size))
         have XV:=(Below.heap_alloc wr (.cells #[.int .i64 op',.string nm',.bool ng',.slice a' nu'.length c',.slice b' de'.length d',.slice g' args'.length e',.int .i64 so'] 38) _ (Array.getElem?_eq_some_iff.1 ((hB.out.block _ (Array.getElem?_eq_some_iff.1 X4.out).1).trans X4.out)).1).trans ((hB.out.block _ (Array.getElem?_eq_some_iff.1 X4.out).1).trans X4.out)
         have NV:=heap_alloc_new wr (.cells #[.int .i64 op',.string nm',.bool ng',.slice a' nu'.length c',.slice b' de'.length d',.slice g' args'.length e',.int .i64 so'] 38)
         have bA:Below wr.heap.size wr (wr.alloc (.cells #[.int .i64 op',.string nm',.bool ng',.slice a' nu'.length c',.slice b' de'.length d',.slice g' args'.length e',.int .i64 so'] 38)):=(Below.refl _ _).alloc (Nat.le_refl _) _
         have B5:=hid (hB.out.trans (bA.mono hB.out.size))
         have BV:=hBW.out.trans (bA.mono hBW.out.size)
         have hsm:=hid (rsame_any ⟨ng',nu',de'⟩ ⟨ng,nu,de⟩ a' b' a b c' d' c d _ (hN.out.num.below B5.out (Nat.le_refl _)) (hN.out.den.below B5.out (Nat.le_refl _)) (hx'.out.rnum.below BV (Nat.le_refl _)) (hx'.out.rden.below BV (Nat.le_refl _)) hsz.1 hsz.2.1 (Nat.lt_of_le_of_lt hx'.out.nl (by decide)) (Nat.lt_of_le_of_lt hx'.out.dl (by decide)))
         have hsi:=hid (fun W (hW:Below w4.heap.size w4 W)=>rsameInts_any g' g args'.length args.length e' e args' args W (hN.out.args.toI.below hW (Nat.le_refl _)) (hx'.out.rargs.below (B4.out.trans (hW.mono B4.out.size)) (Nat.le_refl _)) hsz.2.2 (by omega))
         have BV':=hid BV
         have NV':=hid NV
         have x0:=cell_p XV 0
         have x1:=cell_p XV 1
         have x2:=cell_p XV 2
         simp only [List.getElem?_toArray,List.getElem?_cons_succ,List.getElem?_cons_zero] at x0 x1 x2
         clear XV NV bA BV hN hsz
         by_cases e1:op'=op
         case neg=>
          have e1b:(op' == op)=false:=by simpa using e1
          have e1d:decide (op'=op)=false:=decide_eq_false e1
          have hv:=hid (hnn.out fun e=>e1 (congrArg NodeD.op e))
          go_wp2
          go_roundw
          case rel=>exact⟨k+1,by omega,rfl,rfl,by go_num,hv.out,B5.out⟩
          case measure=>first | (simp [intOf];done) | (simp [intOf];omega)
         have e1s:=e1.symm
         clear e1
         subst e1s
         have e1b:(op == op)=true:=by simp
         cases e2:(nm'.toList == nm.toList)
         case false=>
          have hv:=hid (hnn.out fun e=>eqb_no e2 (congrArg NodeD.name e))
          go_wp2
          go_roundw
          case rel=>exact⟨k+1,by omega,rfl,rfl,by go_num,hv.out,B5.out⟩
          case measure=>first | (simp [intOf];done) | (simp [intOf];omega)
         cases e3:sameR ⟨ng',nu',de'⟩ ⟨ng,nu,de⟩
         case false=>
          rw [e3] at hsm
          go_wp2_with fail
          refine hsm.out.mono ?_;rintro e6 w6 ⟨rfl,hb6⟩
          have B6:=hid (B5.out.trans (hb6.mono B5.out.size))
          clear hb6
          have hv:=hid (hnn.out fun e=>(by have:=sameR_iff.2 (congrArg NodeD.val e);rw [e3] at this;cases this))
          go_wp2
          go_roundw
          case rel=>exact⟨k+1,by omega,rfl,rfl,by go_num,hv.out,B6.out⟩
          case measure=>first | (simp [intOf];done) | (simp [intOf];omega)
         rw [e3] at hsm
         go_wp2_with fail
         refine hsm.out.mono ?_;rintro e6 w6 ⟨rfl,hb6⟩
         have B6:=hid (B5.out.trans (hb6.mono B5.out.size))
         have N6:=(hb6.block _ (Array.getElem?_eq_some_iff.1 NV'.out).1).trans NV'.out
         have n5:=cell_p N6 5
         have n6:=cell_p N6 6
         simp only [List.getElem?_toArray,List.getElem?_cons_succ,List.getElem?_cons_zero] at n5 n6
         have hsi2:=hid (hsi.out w6 B6.out)
         have BV6:=hid (BV'.out.trans (hb6.mono BV'.out.size))
         clear hb6 N6 x0 x1 x2 hsm hsi
         by_cases e4:args'=args
         case neg=>
          rw [decide_eq_false e4] at hsi2
          go_wp2_with fail
          refine hsi2.out.mono ?_;rintro e7 w7 ⟨rfl,z7,rfl⟩
          have hv:=hid (hnn.out fun e=>e4 (congrArg NodeD.args e))
          go_wp2
          go_roundw
          case rel=>exact⟨k+1,by omega,rfl,rfl,by go_num,hv.out,B6.out.drewN z7⟩
          case measure=>first | (simp [intOf];done) | (simp [intOf];omega)
         rw [decide_eq_true e4] at hsi2
         have e4s:=e4.symm
         clear e4
         subst e4s
         go_wp2_with fail
         refine hsi2.out.mono ?_;rintro e7 w7 ⟨rfl,z7,rfl⟩
         by_cases e5:so'=so
         case neg=>
          have e5b:(so' == so)=false:=by simpa using e5
          have e5d:decide (so'=so)=false:=decide_eq_false e5
          have hv:=hid (hnn.out fun e=>e5 (congrArg NodeD.sort e))
          go_wp2
          go_roundw
          case rel=>exact⟨k+1,by omega,rfl,rfl,by go_num,hv.out,B6.out.drewN z7⟩
          case measure=>first | (simp [intOf];done) | (simp [intOf];omega)
         have hv:=hid (hhit.out (by rw [eqb_iff.1 e2,sameR_iff.1 e3,e5]))
         have e5s:=e5.symm
         clear e5
         subst e5s
         have e5b:(so == so)=true:=by simp
         go_wp2
         go_ret2
         exact RMakePost.hit H'.out (BV6.out.drewN z7) hv.out
        case neg=>
         obtain rfl:k=T.nodes.length:=by omega
         have hids:=ti'.out.ids.miss hNQ.out (fun hm=>by
          obtain ⟨j,hj,e⟩:=List.getElem_of_mem hm
          exact hne.out j hj (by rw [List.getElem?_eq_getElem hj,e]))
         have BW:=hid (B4.out.trans (hB.out.mono B4.out.size))
         by_cases hfull:16384≤T.nodes.length
         case pos=>
          have hv:=hid (show makeD T op nm ⟨ng,nu,de⟩ args=((0,4),T) from by rw [hd3.out,put_full hids hfull])
          have hfi:(16384:Int)≤T.nodes.length:=by omega
          clear hids
          go_wp2
          go_ret2
          exact RMakePost.err H'.out BW.out hv.out
         have hv:=hid (show makeD T op nm ⟨ng,nu,de⟩ args=(((T.nodes.length:Int),0),addN T ⟨op,nm,⟨ng,nu,de⟩,args,so⟩) from by rw [hd3.out,put_addN hids (by omega)])
         have hfi:¬(16384:Int)≤T.nodes.length:=by omega
         have hfd:decide ((16384:Int)≤T.nodes.length)=false:=decide_eq_false hfi
         have R5:=hid (R4.out.all hB.out)
         obtain ⟨v5,hblk,o5⟩:=R5.out.row
         obtain ⟨aM,cM,rfl,_⟩:=o5.slice
         have q1:wr.cell? ⟨r,1,none⟩=some (.slice aM T.nodes.length cM):=cell_p hblk 1
         have hblk':=hid hblk
         have hrw:=R5.out.plt
         obtain ⟨css,oc,pA0⟩:=o5.pairs
         have sA:=hid (show Src wr 7 aM T.nodes.length css.flatten by
          refine⟨oc.1,fun h0=>?_⟩
          obtain ⟨g,cap,hv,_⟩:=oc.form h0
          cases hv
          exact⟨_,rfl,fun j u hu=>by rw [Addr.add_lit,Nat.zero_add];exact oc.cells (g:=g) rfl j u hu⟩)
         have pA:=hid pA0
         have pO:=hid pA0.ones
         have rX:=hx'.out.rargs.below BW.out (Nat.le_refl _)
         have wfX:=hid (show WfI args from rX.wf)
         have sX:=hid (show Src wr 1 g args.length (args.map (Value.int .i64)) by have:=(rX.srcs (q:=args.length) (Nat.le_refl _) hx'.out.ac.1).1;rwa [List.take_length] at this)
         have XW:=(hB.out.block _ (Array.getElem?_eq_some_iff.1 X4.out).1).trans X4.out
         have v0:=cell_p XW 0
         have v1:=cell_p XW 1
         have v2:=cell_p XW 2
         simp only [List.getElem?_toArray,List.getElem?_cons_succ,List.getElem?_cons_zero] at v0 v1 v2
         obtain ⟨i0,hi,hz0,hz1,hz2⟩:=info_parts info_node
         obtain ⟨j0,hj,hy0,hy1,hy2⟩:=info_parts info_int
         clear hids hblk o5 oc pA0 rX XW hfull k1
         go_wp2
         refine wp_region_tt (S:=fun W=>Below wr.heap.size wr W) 17 (by kernel_rfl) (by kernel_rfl) (keep_drew wr) (fun hHeld=>?_)
         refine tk (i:=0) (h:=?_)
         (try simp only [Act.put,sA,sB,sC])
         refine tk (i:=2) (h:=?_)
         (try simp only [Act.put,sA,sB,sC])
         refine tk (i:=3) (h:=?_)
         (try simp only [Act.put,sA,sB,sC])
         refine tk (i:=4) (h:=?_)
         (try simp only [Act.put,sA,sB,sC])
         refine tk (i:=5) (hy:=(Or.inl ⟨by rfl,by(intro W hSw;have hq1:=keep_cell (p:=⟨r,1,none⟩) hSw q1;go_simp <;> with_reducible rfl)⟩)) (h:=?_)
         (try simp only [Act.put,sA,sB,sC])
         refine tk (i:=7) (h:=?_)
         (try simp only [Act.put,sA,sB,sC])
         refine tk (i:=8) (h:=?_)
         (try simp only [Act.put,sA,sB,sC])
         refine tk (i:=9) (hy:=(Or.inl ⟨by rfl,by(intro W hSw;have hq1:=keep_cell hSw v0;have hq2:=keep_cell hSw v1;have hq3:=keep_cell hSw v2;go_simp <;> with_reducible rfl)⟩)) (h:=?_)
         (try simp only [Act.put,sA,sB,sC])
         refine tk (i:=11) (h:=?_)
         (try simp only [Act.put,sA,sB,sC])
         refine tk (i:=13) (h:=?_)
         (try simp only [Act.put,sA,sB,sC])
         refine tt_ready (rs:=[1,10]) (by decide +kernel) (allT_cons (by rfl) (fun K hK=>?_) (allT_cons (by rfl) (fun K hK=>?_) allT_nil))
         ·skip
          go_simp
          refine hK.out _ _ (by(exact keep_alloc (by assumption) _)) (fun hHeld2=>?_)
          clear hK K
          (try simp only [Act.put,sA,sB,sC])
          refine tt_ready (rs:=[6,10]) (by decide +kernel) (allT_cons (by rfl) (fun K hK=>?_) (allT_cons (by rfl) (fun K hK=>?_) allT_nil))
          ·skip
           refine step_append_C (base:=wr.heap.size) (by rfl) (.tmp 154) (.tmp 158) (by rfl) Tryz.underlying49 hi hz0 hz1 hz2 rfl (by decide) (Eq.refl (Value.slice _ _ _)) (by rfl) (by first | exact OwnC.lit0 (by simp) (by simp) | exact(OwnC.lit0 (by simp) (by simp)).alloc _) (Src.keep sA.out (by assumption)) pO.out (by unfold maxLen;omega) (by omega) (Below.size (w:=wr) (by assumption)) ?_
           intro v' w3 ho3 hg3 _
           rw [Nat.zero_add,List.nil_append] at ho3
           have O3:=hid ho3
           obtain ⟨a6,c6,rfl,_,_⟩:=ho3.slice
           first
           | have I7:=hid (OwnC.carry (base:=wr.heap.size) (e:=3) (size:=1) (v:=.slice (some ⟨wr.heap.size+1,0,none⟩) 0 0) (OwnC.lit0 (by simp) (by simp)).drew hg3 (by intro k hk;simp [Value.ownBlock] at hk;subst hk;simp [Value.ownBlock]))
           | have I7:=hid (OwnC.carry (base:=wr.heap.size) (e:=3) (size:=1) (v:=.slice (some ⟨wr.heap.size,0,none⟩) 0 0) ((OwnC.lit0 (by simp) (by simp)).alloc _).drew hg3 (by intro k hk;simp [Value.ownBlock] at hk;subst hk;simp [Value.ownBlock]))
           | have I7:=hid True.intro
           clear ho3
           refine hK.out _ _ (by(exact keep_push (by assumption) hg3 (by intro k hk;simp [Value.ownBlock] at hk;omega))) (fun hHeld3=>?_)
           clear hK K
           (try simp only [Act.put,sA,sB,sC])
           refine tt_ready (rs:=[10]) (by decide +kernel) (allT_cons (by rfl) (fun K hK=>?_) allT_nil)
           go_simp
           refine hK.out _ _ (by(exact keep_alloc (by assumption) _)) (fun hHeld4=>?_)
           clear hK K
           (try simp only [Act.put,sA,sB,sC])
           refine tt_ready (rs:=[12]) (by decide +kernel) (allT_cons (by rfl) (fun K hK=>?_) allT_nil)
           refine step_append_C (base:=wr.heap.size) (by rfl) (.tmp 163) (.tmp 164) (by rfl) Tryz.underlying23 hj hy0 hy1 hy2 rfl (by decide) (Eq.refl (Value.slice _ _ _)) (by rfl) (by first | exact I7.out | exact OwnC.lit0 (by first | rfl | simp) (Below.size (w:=wr) (by assumption))) (Src.keep sX.out (by assumption)) int_one (by unfold maxLen;omega) (by omega) (Below.size (w:=wr) (by assumption)) ?_
           intro v' w4 ho4 hg4 hl4
           rw [Nat.zero_add,List.nil_append] at ho4
           have O4:=hid ho4
           have F4:=hid (by first
            | exact OwnC.carry O3.out hg4 (fun k hk e=>ty_ne (by decide) (O3.out.ty k hk) (I7.out.ty k e))
            | exact OwnC.carry (O3.out.alloc _) hg4 (fun k hk e=>by have:=(O3.out.lt k hk).2;simp [Value.ownBlock] at e;omega):OwnC w4 wr.heap.size 38 7 (.slice a6 T.nodes.length c6) T.nodes.length css.flatten)
           obtain ⟨a7,c7,rfl,hc71,hc72⟩:=ho4.slice
           clear ho4
           refine hK.out _ _ (by(exact keep_push (by assumption) hg4 (by first | exact(fun k hk=>(I7.out.lt k hk).1) | (intro k hk;have hz:=Below.size (w:=wr) (w':=w3) (by assumption);simp [Value.ownBlock] at hk;omega)))) (fun hHeld5=>?_)
           clear hK K
           (try simp only [Act.put,sA,sB,sC])
           refine tk (i:=14) (h:=?_)
           (try simp only [Act.put,sA,sB,sC])
           refine tt_ready (rs:=[15]) (by decide +kernel) (allT_cons (by rfl) (fun K hK=>?_) allT_nil)
           go_simp
           refine hK.out _ _ (by(exact keep_alloc (by assumption) _)) (fun hHeld6=>?_)
           clear hK K
           (try simp only [Act.put,sA,sB,sC])
           refine tt_ready (rs:=[16]) (by decide +kernel) (allT_cons (by rfl) (fun K hK=>?_) allT_nil)
           refine step_append_C (base:=wr.heap.size) (by rfl) (.tmp 159) (.tmp 168) (by rfl) Tryz.underlying49 hi hz0 hz1 hz2 rfl (by decide) (Eq.refl (Value.slice _ _ _)) (by rfl) (F4.out.alloc _) (Src.lit (CellsF.lit (us:=nodeC ⟨op,nm,⟨ng,nu,de⟩,args,so⟩ a c b d a7 c7) (by first | rfl | simp)) rfl) node_one5 (by unfold maxLen;omega) (by omega) (Below.size (w:=wr) (by assumption)) ?_
           intro v' w5 ho5 hg5 _
           have O5:=hid ho5
           have I5:=hid ((O4.out.alloc _).carry hg5 (fun k hk e=>ty_ne (by decide) (F4.out.ty k e) (O4.out.ty k hk)))
           obtain ⟨a8,c8,rfl,_,_⟩:=ho5.slice
           clear ho5
           refine hK.out _ _ (by(exact keep_push (by assumption) hg5 (fun k hk=>(F4.out.lt k hk).1))) (fun hHeld7=>?_)
           clear hK K
           (try simp only [Act.put,sA,sB,sC])
           refine tt_tail (by decide +kernel) ?_
           simp only [List.drop_succ_cons,List.drop_zero]
           have hB5:Below wr.heap.size wr w5:=by assumption
           have B5:=hid hB5
           have g1':=keep_cell hB5 q1
           have f1':=(frz_p ((hB5.block r hrw).trans hblk'.out) 1)
           clear hg3 hg4 hg5 hB5 v0 v1 v2 q1
           go_wp2
           go_ret2
           exact RMakePost.add H'.out BW.out (RTm.push R5.out hblk'.out B5.out pA.out ⟨rfl,rfl⟩ O5.out ⟨hx'.out.rnum.datX BW.out B5.out,hx'.out.nc,hx'.out.rden.datX BW.out B5.out,hx'.out.dc,(own_intC I5.out wfX.out R5.out.sq.xlt).mono (fun _ _ hk=>.inr hk.dat),⟨hc71,hc72⟩,hx'.out.opk,hso2.out⟩) hv.out
          ·skip
           go_simp
           refine hK.out _ _ (by(exact keep_alloc (by assumption) _)) (fun hHeld3=>?_)
           clear hK K
           (try simp only [Act.put,sA,sB,sC])
           refine tt_ready (rs:=[6]) (by decide +kernel) (allT_cons (by rfl) (fun K hK=>?_) allT_nil)
           refine step_append_C (base:=wr.heap.size) (by rfl) (.tmp 154) (.tmp 158) (by rfl) Tryz.underlying49 hi hz0 hz1 hz2 rfl (by decide) (Eq.refl (Value.slice _ _ _)) (by rfl) (by first | exact OwnC.lit0 (by simp) (by simp) | exact(OwnC.lit0 (by simp) (by simp)).alloc _) (Src.keep sA.out (by assumption)) pO.out (by unfold maxLen;omega) (by omega) (Below.size (w:=wr) (by assumption)) ?_
           intro v' w3 ho3 hg3 _
           rw [Nat.zero_add,List.nil_append] at ho3
           have O3:=hid ho3
           obtain ⟨a6,c6,rfl,_,_⟩:=ho3.slice
           first
           | have I7:=hid (OwnC.carry (base:=wr.heap.size) (e:=3) (size:=1) (v:=.slice (some ⟨wr.heap.size+1,0,none⟩) 0 0) (OwnC.lit0 (by simp) (by simp)).drew hg3 (by intro k hk;simp [Value.ownBlock] at hk;subst hk;simp [Value.ownBlock]))
           | have I7:=hid (OwnC.carry (base:=wr.heap.size) (e:=3) (size:=1) (v:=.slice (some ⟨wr.heap.size,0,none⟩) 0 0) ((OwnC.lit0 (by simp) (by simp)).alloc _).drew hg3 (by intro k hk;simp [Value.ownBlock] at hk;subst hk;simp [Value.ownBlock]))
           | have I7:=hid True.intro
           clear ho3
           refine hK.out _ _ (by(exact keep_push (by assumption) hg3 (by intro k hk;simp [Value.ownBlock] at hk;omega))) (fun hHeld4=>?_)
           clear hK K
           (try simp only [Act.put,sA,sB,sC])
           refine tt_ready (rs:=[12]) (by decide +kernel) (allT_cons (by rfl) (fun K hK=>?_) allT_nil)
           refine step_append_C (base:=wr.heap.size) (by rfl) (.tmp 163) (.tmp 164) (by rfl) Tryz.underlying23 hj hy0 hy1 hy2 rfl (by decide) (Eq.refl (Value.slice _ _ _)) (by rfl) (by first | exact I7.out | exact OwnC.lit0 (by first | rfl | simp) (Below.size (w:=wr) (by assumption))) (Src.keep sX.out (by assumption)) int_one (by unfold maxLen;omega) (by omega) (Below.size (w:=wr) (by assumption)) ?_
           intro v' w4 ho4 hg4 hl4
           rw [Nat.zero_add,List.nil_append] at ho4
           have O4:=hid ho4
           have F4:=hid (by first
            | exact OwnC.carry O3.out hg4 (fun k hk e=>ty_ne (by decide) (O3.out.ty k hk) (I7.out.ty k e))
            | exact OwnC.carry (O3.out.alloc _) hg4 (fun k hk e=>by have:=(O3.out.lt k hk).2;simp [Value.ownBlock] at e;omega):OwnC w4 wr.heap.size 38 7 (.slice a6 T.nodes.length c6) T.nodes.length css.flatten)
           obtain ⟨a7,c7,rfl,hc71,hc72⟩:=ho4.slice
           clear ho4
           refine hK.out _ _ (by(exact keep_push (by assumption) hg4 (by first | exact(fun k hk=>(I7.out.lt k hk).1) | (intro k hk;have hz:=Below.size (w:=wr) (w':=w3) (by assumption);simp [Value.ownBlock] at hk;omega)))) (fun hHeld5=>?_)
           clear hK K
           (try simp only [Act.put,sA,sB,sC])
           refine tk (i:=14) (h:=?_)
           (try simp only [Act.put,sA,sB,sC])
           refine tt_ready (rs:=[15]) (by decide +kernel) (allT_cons (by rfl) (fun K hK=>?_) allT_nil)
           go_simp
           refine hK.out _ _ (by(exact keep_alloc (by assumption) _)) (fun hHeld6=>?_)
           clear hK K
           (try simp only [Act.put,sA,sB,sC])
           refine tt_ready (rs:=[16]) (by decide +kernel) (allT_cons (by rfl) (fun K hK=>?_) allT_nil)
           refine step_append_C (base:=wr.heap.size) (by rfl) (.tmp 159) (.tmp 168) (by rfl) Tryz.underlying49 hi hz0 hz1 hz2 rfl (by decide) (Eq.refl (Value.slice _ _ _)) (by rfl) (F4.out.alloc _) (Src.lit (CellsF.lit (us:=nodeC ⟨op,nm,⟨ng,nu,de⟩,args,so⟩ a c b d a7 c7) (by first | rfl | simp)) rfl) node_one5 (by unfold maxLen;omega) (by omega) (Below.size (w:=wr) (by assumption)) ?_
           intro v' w5 ho5 hg5 _
           have O5:=hid ho5
           have I5:=hid ((O4.out.alloc _).carry hg5 (fun k hk e=>ty_ne (by decide) (F4.out.ty k e) (O4.out.ty k hk)))
           obtain ⟨a8,c8,rfl,_,_⟩:=ho5.slice
           clear ho5
           refine hK.out _ _ (by(exact keep_push (by assumption) hg5 (fun k hk=>(F4.out.lt k hk).1))) (fun hHeld7=>?_)
           clear hK K
           (try simp only [Act.put,sA,sB,sC])
           refine tt_tail (by decide +kernel) ?_
           simp only [List.drop_succ_cons,List.drop_zero]
           have hB5:Below wr.heap.size wr w5:=by assumption
           have B5:=hid hB5
           have g1':=keep_cell hB5 q1
           have f1':=(frz_p ((hB5.block r hrw).trans hblk'.out) 1)
           clear hg3 hg4 hg5 hB5 v0 v1 v2 q1
           go_wp2
           go_ret2
           exact RMakePost.add H'.out BW.out (RTm.push R5.out hblk'.out B5.out pA.out ⟨rfl,rfl⟩ O5.out ⟨hx'.out.rnum.datX BW.out B5.out,hx'.out.nc,hx'.out.rden.datX BW.out B5.out,hx'.out.dc,(own_intC I5.out wfX.out R5.out.sq.xlt).mono (fun _ _ hk=>.inr hk.dat),⟨hc71,hc72⟩,hx'.out.opk,hso2.out⟩) hv.out
         ·skip
          go_simp
          refine hK.out _ _ (by(exact keep_alloc (by assumption) _)) (fun hHeld2=>?_)
          clear hK K
          (try simp only [Act.put,sA,sB,sC])
          refine tt_ready (rs:=[1]) (by decide +kernel) (allT_cons (by rfl) (fun K hK=>?_) allT_nil)
          go_simp
          refine hK.out _ _ (by(exact keep_alloc (by assumption) _)) (fun hHeld3=>?_)
          clear hK K
          (try simp only [Act.put,sA,sB,sC])
          refine tt_ready (rs:=[6]) (by decide +kernel) (allT_cons (by rfl) (fun K hK=>?_) allT_nil)
          refine step_append_C (base:=wr.heap.size) (by rfl) (.tmp 154) (.tmp 158) (by rfl) Tryz.underlying49 hi hz0 hz1 hz2 rfl (by decide) (Eq.refl (Value.slice _ _ _)) (by rfl) (by first | exact OwnC.lit0 (by simp) (by simp) | exact(OwnC.lit0 (by simp) (by simp)).alloc _) (Src.keep sA.out (by assumption)) pO.out (by unfold maxLen;omega) (by omega) (Below.size (w:=wr) (by assumption)) ?_
          intro v' w3 ho3 hg3 _
          rw [Nat.zero_add,List.nil_append] at ho3
          have O3:=hid ho3
          obtain ⟨a6,c6,rfl,_,_⟩:=ho3.slice
          first
          | have I7:=hid (OwnC.carry (base:=wr.heap.size) (e:=3) (size:=1) (v:=.slice (some ⟨wr.heap.size+1,0,none⟩) 0 0) (OwnC.lit0 (by simp) (by simp)).drew hg3 (by intro k hk;simp [Value.ownBlock] at hk;subst hk;simp [Value.ownBlock]))
          | have I7:=hid (OwnC.carry (base:=wr.heap.size) (e:=3) (size:=1) (v:=.slice (some ⟨wr.heap.size,0,none⟩) 0 0) ((OwnC.lit0 (by simp) (by simp)).alloc _).drew hg3 (by intro k hk;simp [Value.ownBlock] at hk;subst hk;simp [Value.ownBlock]))
          | have I7:=hid True.intro
          clear ho3
          refine hK.out _ _ (by(exact keep_push (by assumption) hg3 (by intro k hk;simp [Value.ownBlock] at hk;omega))) (fun hHeld4=>?_)
          clear hK K
          (try simp only [Act.put,sA,sB,sC])
          refine tt_ready (rs:=[12]) (by decide +kernel) (allT_cons (by rfl) (fun K hK=>?_) allT_nil)
          refine step_append_C (base:=wr.heap.size) (by rfl) (.tmp 163) (.tmp 164) (by rfl) Tryz.underlying23 hj hy0 hy1 hy2 rfl (by decide) (Eq.refl (Value.slice _ _ _)) (by rfl) (by first | exact I7.out | exact OwnC.lit0 (by first | rfl | simp) (Below.size (w:=wr) (by assumption))) (Src.keep sX.out (by assumption)) int_one (by unfold maxLen;omega) (by omega) (Below.size (w:=wr) (by assumption)) ?_
          intro v' w4 ho4 hg4 hl4
          rw [Nat.zero_add,List.nil_append] at ho4
          have O4:=hid ho4
          have F4:=hid (by first
           | exact OwnC.carry O3.out hg4 (fun k hk e=>ty_ne (by decide) (O3.out.ty k hk) (I7.out.ty k e))
           | exact OwnC.carry (O3.out.alloc _) hg4 (fun k hk e=>by have:=(O3.out.lt k hk).2;simp [Value.ownBlock] at e;omega):OwnC w4 wr.heap.size 38 7 (.slice a6 T.nodes.length c6) T.nodes.length css.flatten)
          obtain ⟨a7,c7,rfl,hc71,hc72⟩:=ho4.slice
          clear ho4
          refine hK.out _ _ (by(exact keep_push (by assumption) hg4 (by first | exact(fun k hk=>(I7.out.lt k hk).1) | (intro k hk;have hz:=Below.size (w:=wr) (w':=w3) (by assumption);simp [Value.ownBlock] at hk;omega)))) (fun hHeld5=>?_)
          clear hK K
          (try simp only [Act.put,sA,sB,sC])
          refine tk (i:=14) (h:=?_)
          (try simp only [Act.put,sA,sB,sC])
          refine tt_ready (rs:=[15]) (by decide +kernel) (allT_cons (by rfl) (fun K hK=>?_) allT_nil)
          go_simp
          refine hK.out _ _ (by(exact keep_alloc (by assumption) _)) (fun hHeld6=>?_)
          clear hK K
          (try simp only [Act.put,sA,sB,sC])
          refine tt_ready (rs:=[16]) (by decide +kernel) (allT_cons (by rfl) (fun K hK=>?_) allT_nil)
          refine step_append_C (base:=wr.heap.size) (by rfl) (.tmp 159) (.tmp 168) (by rfl) Tryz.underlying49 hi hz0 hz1 hz2 rfl (by decide) (Eq.refl (Value.slice _ _ _)) (by rfl) (F4.out.alloc _) (Src.lit (CellsF.lit (us:=nodeC ⟨op,nm,⟨ng,nu,de⟩,args,so⟩ a c b d a7 c7) (by first | rfl | simp)) rfl) node_one5 (by unfold maxLen;omega) (by omega) (Below.size (w:=wr) (by assumption)) ?_
          intro v' w5 ho5 hg5 _
          have O5:=hid ho5
          have I5:=hid ((O4.out.alloc _).carry hg5 (fun k hk e=>ty_ne (by decide) (F4.out.ty k e) (O4.out.ty k hk)))
          obtain ⟨a8,c8,rfl,_,_⟩:=ho5.slice
          clear ho5
          refine hK.out _ _ (by(exact keep_push (by assumption) hg5 (fun k hk=>(F4.out.lt k hk).1))) (fun hHeld7=>?_)
          clear hK K
          (try simp only [Act.put,sA,sB,sC])
          refine tt_tail (by decide +kernel) ?_
          simp only [List.drop_succ_cons,List.drop_zero]
          have hB5:Below wr.heap.size wr w5:=by assumption
          have B5:=hid hB5
          have g1':=keep_cell hB5 q1
          have f1':=(frz_p ((hB5.block r hrw).trans hblk'.out) 1)
          clear hg3 hg4 hg5 hB5 v0 v1 v2 q1
          go_wp2
          go_ret2
          exact RMakePost.add H'.out BW.out (RTm.push R5.out hblk'.out B5.out pA.out ⟨rfl,rfl⟩ O5.out ⟨hx'.out.rnum.datX BW.out B5.out,hx'.out.nc,hx'.out.rden.datX BW.out B5.out,hx'.out.dc,(own_intC I5.out wfX.out R5.out.sq.xlt).mono (fun _ _ hk=>.inr hk.dat),⟨hc71,hc72⟩,hx'.out.opk,hso2.out⟩) hv.out
end Go.Proofs.YtgoojkiccdjplaaGreatDoor
