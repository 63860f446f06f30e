/-
  Parts of this claim's texts, one behind the other: RF ZG ZH ZI. No condition.
-/
import Derived.Test.YtgoojkiccdjplaaGreatDoorM21
import Derived.Test.YtgoojkiccdjplaaGreatDoorM20
set_option linter.unusedVariables false
set_option linter.unusedSimpArgs false
set_option maxRecDepth 100000
set_option maxHeartbeats 16000000
namespace Go.Proofs.YtgoojkiccdjplaaGreatDoor
open Go.RowKit Go.Sort Go.Lib
variable {X : Nat → Prop}
theorem int_one {xs:List Int}:∀u∈xs.map (Value.int .i64),u.oneCell'=true:=by
 intro u hu
 obtain ⟨x,_,rfl⟩:=List.mem_map.1 hu
 rfl
theorem OwnC.carry {w W:World} {base size n:Nat} {e:TypeId} {v:Value} {xs:List Value} {row:Option Nat} (h:OwnC w base e size v n xs) (hg:w.grownBy W row) (hr:∀k,v.ownBlock=some k→row≠some k):OwnC W base e size v n xs:=
 h.same fun k hk=>hg.block k (h.lt k hk).2 (Ne.symm (hr k hk))
theorem own_intC {w:World} {base n:Nat} {a:Option Addr} {m c:Nat} {xs:List Int} (h:OwnC w base 3 1 (.slice a m c) n (xs.map (Value.int .i64))) (hwf:WfI xs) (hX:∀k,X k→k<base):SlR Rep.int (IntX X w) w a n xs:=by
 obtain ⟨_,h2,_⟩:=h.rdI hwf
 refine SlR.ofI h2 fun x hn hx=>?_
 subst hx
 exact⟨fun hxx=>by have:=hX _ hxx;have:=(h.lt _ rfl).1;omega,h.ty _ rfl⟩
def RFunPost (X:Nat→Prop) (B p:Nat) (T:TabD) (f:FunD) (w:World) (e:Ending) (w':World):Prop:=
 e = .returned (.int .i64 (errFun T f))∧RefX X B p (addFun T f) w'∧PStep p w w'
theorem RFunPost.no {B p:Nat} {T:TabD} {f:FunD} {w w':World} {z:Int} (h:RefX X B p T w) (hb:Below w.heap.size w w') (hz:errFun T f=z) (h0:z≠0):RFunPost X B p T f w (.returned (.int .i64 z)) w':=by
 refine⟨by rw [hz],?_,.of_below h.plt hb⟩
 unfold addFun
 rw [hz,if_neg h0]
 exact h.all hb
theorem rfunDone {B p:Nat} {T:TabD} {nm:ByteArray} {args:List Int} {r:Int} {w wr W:World} {a1 a2 a3 a7 a8:Option Addr} {c1 c2 c3 c7 c8:Nat} {css:List (List Value)} {n8:Nat} {xs8:List Value} (h:RefX X B p T wr)
  (hb:wr.heap[p]? = some (.cells #[.slice a1 T.sorts.length c1,.slice a2 T.funs.length c2,.slice a3 T.marks.length c3] 107 (0,0)))
  (hB:Below wr.heap.size wr W) (hp:Pairs repF (IntX X wr) wr T.funs css) (hx8:xs8=css.flatten ++ [Value.string nm,.slice a7 args.length c7,.int .i64 r]∧n8=T.funs.length+1)
  (ho:OwnC W wr.heap.size 114 3 (.slice a8 n8 c8) n8 xs8) (hi:OwnC W wr.heap.size 3 1 (.slice a7 args.length c7) args.length (args.map (Value.int .i64)))
  (hwf:WfI args) (hr:okI r) (h7:args.length≤c7) (h72:c7≤maxLen) (hv:errFun T ⟨nm,args,r⟩=0) (hps:PStep p w wr):RFunPost X B p T ⟨nm,args,r⟩ w (.returned (.int .i64 0)) (W.setCell ⟨p,1,none⟩ (.slice a8 n8 c8)):=by
 obtain ⟨rfl,rfl⟩:=hx8
 have hrd:=(repF_rd (f:=⟨nm,args,r⟩)).2 ⟨a7,_,c7,rfl,h7,h72,own_intC hi hwf h.xlt,hr⟩
 have hpp:Pairs repF (IntX X W) W (T.funs ++ [⟨nm,args,r⟩]) (css ++ [[.string nm,.slice a7 args.length c7,.int .i64 r]]):=by
  refine Pairs.append ⟨hp.1,fun j x hx=>?_⟩ (Pairs.one hrd)
  obtain ⟨cs,e1,e2⟩:=(hp.below hB).2 j x hx
  exact⟨cs,e1,repF.mono e2 fun b _ hb=>hb.same (hB.block b hb.lt)⟩
 have hO:=hpp.own (by rw [List.flatten_append,List.flatten_singleton];exact ho.lower (Nat.le_trans h.bp (Nat.le_of_lt h.plt))) (by simp)
 obtain ⟨t1,s1⟩:=h.setFuns hb (below_grown hB) (.inr fun k hk=>(ho.lt k hk).1) hO
 refine⟨by rw [hv],?_,hps.trans s1⟩
 unfold addFun
 rw [hv,if_pos rfl]
 exact t1
theorem rfun_any (B p:Nat) (T:TabD) (f:FunD) (a:Option Addr) (c:Nat) (w:World) (h:RefX X B p T w) (hs:Small T) (hx:RdI w a f.args.length f.args) (hn:f.args.length<1099511627776) (hcn:f.args.length≤c) :
  Calls Tryz.prog 61 #[.pointer (some ⟨p,0,none⟩),funV f.name a f.args.length c f.res] w fun e w'=>RFunPost X B p T f w e w':=by
 have h':=hid h
 have hx':=hid hx
 have hd:=@hid (errFun T f=if !mayFunB T f.name then 1 else if decide (64<f.args.length) then 1 else if !isB T.sorts.length f.res then 1 else if f.args.any (argBad T.sorts.length) then 1 else if decide (1000≤T.funs.length) then 4 else 0) rfl
 have hdm:=@hid (mayFunB T f.name=(mayB f.name && !(findF T f.name).isSome)) rfl
 have hB0:Below w.heap.size w (w.alloc (.cells #[.string f.name,.slice a f.args.length c,.int .i64 f.res] 114)):=(Below.refl _ _).alloc (Nat.le_refl _) _
 have hB0':=hid hB0
 have hfd:=hid (rfind_any B p T f.name _ (h.all hB0) hs)
 have hplt:=h.plt
 have hsl:=hs.s
 have hfl:=hs.f
 clear h hs hx hB0
 generalize lookF T f.name=ff at *
 generalize hfo:(findF T f.name).isSome=fo at *
 obtain ⟨nm,args,r⟩:=f
 dsimp only at *
 have hnm:=hid (fun w=>rname_any nm w)
 cases hmy:mayB nm
 case false=>
  have hv:=@hid (errFun T ⟨nm,args,r⟩=1) (by rw [hd.out,hdm.out,hmy];rfl)
  rw [hmy] at hnm
  clear hmy hd hdm
  go_enter Tryz.func61,Tryz.ntmps61
  go_wp2_with fail
  refine hfd.out.mono ?_
  rintro e w1 ⟨af,cf,rfl,_,_,_,hb1⟩
  have b01:=hB0'.out.trans (hb1.mono (by simp))
  have bL:=b01.alloc b01.size (.cells #[.string ff.name,.slice af ff.args.length cf,.int .i64 ff.res] 114)
  have H0:=(Below.heap_alloc w1 (.cells #[.string ff.name,.slice af ff.args.length cf,.int .i64 ff.res] 114) w.heap.size (by have:=hb1.size;simp at this;omega)).trans ((hb1.block w.heap.size (by simp)).trans (heap_alloc_new w _))
  have bL':=hid bL
  have H0':=hid H0
  have hlt0:=(Array.getElem?_eq_some_iff.1 H0).1
  have k00:(w1.alloc (.cells #[.string ff.name,.slice af ff.args.length cf,.int .i64 ff.res] 114)).cell? ⟨w.heap.size,0,none⟩=some (.string nm):=cell_p H0 0
  have k01:(w1.alloc (.cells #[.string ff.name,.slice af ff.args.length cf,.int .i64 ff.res] 114)).cell? ⟨w.heap.size,1,none⟩=some (.slice a args.length c):=cell_p H0 1
  have k02:(w1.alloc (.cells #[.string ff.name,.slice af ff.args.length cf,.int .i64 ff.res] 114)).cell? ⟨w.heap.size,2,none⟩=some (.int .i64 r):=cell_p H0 2
  clear b01 bL H0 hb1
  go_wp2_with fail
  refine(hnm.out _).mono ?_
  rintro e w2 ⟨rfl,hb2⟩
  have B2:=hid (bL'.out.trans (hb2.mono bL'.out.size))
  have H2:=(hb2.block w.heap.size hlt0).trans H0'.out
  have k0:w2.cell? ⟨w.heap.size,0,none⟩=some (.string nm):=cell_p H2 0
  have k1:w2.cell? ⟨w.heap.size,1,none⟩=some (.slice a args.length c):=cell_p H2 1
  have k2:w2.cell? ⟨w.heap.size,2,none⟩=some (.int .i64 r):=cell_p H2 2
  have R2:=hid (h'.out.all B2.out)
  clear hb2 H2 hlt0 k00 k01 k02
  go_wp2
  go_ret
  exact RFunPost.no h'.out B2.out hv.out (by decide)
 case true=>
 rw [hmy] at hnm hdm
 cases fo
 case true=>
  have hv:=@hid (errFun T ⟨nm,args,r⟩=1) (by rw [hd.out,hdm.out];rfl)
  clear hmy hd hdm
  go_enter Tryz.func61,Tryz.ntmps61
  go_wp2_with fail
  refine hfd.out.mono ?_
  rintro e w1 ⟨af,cf,rfl,_,_,_,hb1⟩
  have b01:=hB0'.out.trans (hb1.mono (by simp))
  have bL:=b01.alloc b01.size (.cells #[.string ff.name,.slice af ff.args.length cf,.int .i64 ff.res] 114)
  have H0:=(Below.heap_alloc w1 (.cells #[.string ff.name,.slice af ff.args.length cf,.int .i64 ff.res] 114) w.heap.size (by have:=hb1.size;simp at this;omega)).trans ((hb1.block w.heap.size (by simp)).trans (heap_alloc_new w _))
  have bL':=hid bL
  have H0':=hid H0
  have hlt0:=(Array.getElem?_eq_some_iff.1 H0).1
  have k00:(w1.alloc (.cells #[.string ff.name,.slice af ff.args.length cf,.int .i64 ff.res] 114)).cell? ⟨w.heap.size,0,none⟩=some (.string nm):=cell_p H0 0
  have k01:(w1.alloc (.cells #[.string ff.name,.slice af ff.args.length cf,.int .i64 ff.res] 114)).cell? ⟨w.heap.size,1,none⟩=some (.slice a args.length c):=cell_p H0 1
  have k02:(w1.alloc (.cells #[.string ff.name,.slice af ff.args.length cf,.int .i64 ff.res] 114)).cell? ⟨w.heap.size,2,none⟩=some (.int .i64 r):=cell_p H0 2
  clear b01 bL H0 hb1
  go_wp2_with fail
  refine(hnm.out _).mono ?_
  rintro e w2 ⟨rfl,hb2⟩
  have B2:=hid (bL'.out.trans (hb2.mono bL'.out.size))
  have H2:=(hb2.block w.heap.size hlt0).trans H0'.out
  have k0:w2.cell? ⟨w.heap.size,0,none⟩=some (.string nm):=cell_p H2 0
  have k1:w2.cell? ⟨w.heap.size,1,none⟩=some (.slice a args.length c):=cell_p H2 1
  have k2:w2.cell? ⟨w.heap.size,2,none⟩=some (.int .i64 r):=cell_p H2 2
  have R2:=hid (h'.out.all B2.out)
  clear hb2 H2 hlt0 k00 k01 k02
  go_wp2
  go_ret
  exact RFunPost.no h'.out B2.out hv.out (by decide)
 case false=>
 by_cases h64:64<args.length
 ·have hv:=@hid (errFun T ⟨nm,args,r⟩=1) (by rw [hd.out,hdm.out];simp [h64])
  have h64i:(64:Int)<args.length:=by omega
  clear hmy hd hdm
  go_enter Tryz.func61,Tryz.ntmps61
  go_wp2_with fail
  refine hfd.out.mono ?_
  rintro e w1 ⟨af,cf,rfl,_,_,_,hb1⟩
  have b01:=hB0'.out.trans (hb1.mono (by simp))
  have bL:=b01.alloc b01.size (.cells #[.string ff.name,.slice af ff.args.length cf,.int .i64 ff.res] 114)
  have H0:=(Below.heap_alloc w1 (.cells #[.string ff.name,.slice af ff.args.length cf,.int .i64 ff.res] 114) w.heap.size (by have:=hb1.size;simp at this;omega)).trans ((hb1.block w.heap.size (by simp)).trans (heap_alloc_new w _))
  have bL':=hid bL
  have H0':=hid H0
  have hlt0:=(Array.getElem?_eq_some_iff.1 H0).1
  have k00:(w1.alloc (.cells #[.string ff.name,.slice af ff.args.length cf,.int .i64 ff.res] 114)).cell? ⟨w.heap.size,0,none⟩=some (.string nm):=cell_p H0 0
  have k01:(w1.alloc (.cells #[.string ff.name,.slice af ff.args.length cf,.int .i64 ff.res] 114)).cell? ⟨w.heap.size,1,none⟩=some (.slice a args.length c):=cell_p H0 1
  have k02:(w1.alloc (.cells #[.string ff.name,.slice af ff.args.length cf,.int .i64 ff.res] 114)).cell? ⟨w.heap.size,2,none⟩=some (.int .i64 r):=cell_p H0 2
  clear b01 bL H0 hb1
  go_wp2_with fail
  refine(hnm.out _).mono ?_
  rintro e w2 ⟨rfl,hb2⟩
  have B2:=hid (bL'.out.trans (hb2.mono bL'.out.size))
  have H2:=(hb2.block w.heap.size hlt0).trans H0'.out
  have k0:w2.cell? ⟨w.heap.size,0,none⟩=some (.string nm):=cell_p H2 0
  have k1:w2.cell? ⟨w.heap.size,1,none⟩=some (.slice a args.length c):=cell_p H2 1
  have k2:w2.cell? ⟨w.heap.size,2,none⟩=some (.int .i64 r):=cell_p H2 2
  have R2:=hid (h'.out.all B2.out)
  clear hb2 H2 hlt0 k00 k01 k02
  go_wp2
  go_ret
  exact RFunPost.no h'.out B2.out hv.out (by decide)
 cases hir:isB T.sorts.length r
 case false=>
  have hv:=@hid (errFun T ⟨nm,args,r⟩=1) (by rw [hd.out,hdm.out,hir];simp)
  clear hmy hd hdm
  go_enter Tryz.func61,Tryz.ntmps61
  go_wp2_with fail
  refine hfd.out.mono ?_
  rintro e w1 ⟨af,cf,rfl,_,_,_,hb1⟩
  have b01:=hB0'.out.trans (hb1.mono (by simp))
  have bL:=b01.alloc b01.size (.cells #[.string ff.name,.slice af ff.args.length cf,.int .i64 ff.res] 114)
  have H0:=(Below.heap_alloc w1 (.cells #[.string ff.name,.slice af ff.args.length cf,.int .i64 ff.res] 114) w.heap.size (by have:=hb1.size;simp at this;omega)).trans ((hb1.block w.heap.size (by simp)).trans (heap_alloc_new w _))
  have bL':=hid bL
  have H0':=hid H0
  have hlt0:=(Array.getElem?_eq_some_iff.1 H0).1
  have k00:(w1.alloc (.cells #[.string ff.name,.slice af ff.args.length cf,.int .i64 ff.res] 114)).cell? ⟨w.heap.size,0,none⟩=some (.string nm):=cell_p H0 0
  have k01:(w1.alloc (.cells #[.string ff.name,.slice af ff.args.length cf,.int .i64 ff.res] 114)).cell? ⟨w.heap.size,1,none⟩=some (.slice a args.length c):=cell_p H0 1
  have k02:(w1.alloc (.cells #[.string ff.name,.slice af ff.args.length cf,.int .i64 ff.res] 114)).cell? ⟨w.heap.size,2,none⟩=some (.int .i64 r):=cell_p H0 2
  clear b01 bL H0 hb1
  go_wp2_with fail
  refine(hnm.out _).mono ?_
  rintro e w2 ⟨rfl,hb2⟩
  have B2:=hid (bL'.out.trans (hb2.mono bL'.out.size))
  have H2:=(hb2.block w.heap.size hlt0).trans H0'.out
  have k0:w2.cell? ⟨w.heap.size,0,none⟩=some (.string nm):=cell_p H2 0
  have k1:w2.cell? ⟨w.heap.size,1,none⟩=some (.slice a args.length c):=cell_p H2 1
  have k2:w2.cell? ⟨w.heap.size,2,none⟩=some (.int .i64 r):=cell_p H2 2
  have R2:=hid (h'.out.all B2.out)
  clear hb2 H2 hlt0 k00 k01 k02
  have his:=hid (ris_any B p T r w2 R2.out hsl)
  rw [hir] at his
  clear hir
  go_wp2_with fail
  refine his.out.mono ?_;rintro e w' ⟨rfl,rfl⟩
  go_wp2
  go_ret
  exact RFunPost.no h'.out B2.out hv.out (by decide)
 case true=>
 have hd2:=@hid (errFun T ⟨nm,args,r⟩=if args.any (argBad T.sorts.length) then 1 else if decide (1000≤T.funs.length) then 4 else 0) (by rw [hd.out,hdm.out,hir];simp [h64])
 have hrb:okI r:=by unfold isB at hir;simp at hir;unfold okI;omega
 have hrb':=hid hrb
 clear hmy hd hdm hrb
 obtain ⟨i0,hi,hz0,hz1,hz2⟩:=info_parts info_fun
 obtain ⟨j0,hj,hy0,hy1,hy2⟩:=info_parts info_int
 go_enter Tryz.func61,Tryz.ntmps61
 go_wp2_with fail
 refine hfd.out.mono ?_
 rintro e w1 ⟨af,cf,rfl,_,_,_,hb1⟩
 have b01:=hB0'.out.trans (hb1.mono (by simp))
 have bL:=b01.alloc b01.size (.cells #[.string ff.name,.slice af ff.args.length cf,.int .i64 ff.res] 114)
 have H0:=(Below.heap_alloc w1 (.cells #[.string ff.name,.slice af ff.args.length cf,.int .i64 ff.res] 114) w.heap.size (by have:=hb1.size;simp at this;omega)).trans ((hb1.block w.heap.size (by simp)).trans (heap_alloc_new w _))
 have bL':=hid bL
 have H0':=hid H0
 have hlt0:=(Array.getElem?_eq_some_iff.1 H0).1
 have k00:(w1.alloc (.cells #[.string ff.name,.slice af ff.args.length cf,.int .i64 ff.res] 114)).cell? ⟨w.heap.size,0,none⟩=some (.string nm):=cell_p H0 0
 have k01:(w1.alloc (.cells #[.string ff.name,.slice af ff.args.length cf,.int .i64 ff.res] 114)).cell? ⟨w.heap.size,1,none⟩=some (.slice a args.length c):=cell_p H0 1
 have k02:(w1.alloc (.cells #[.string ff.name,.slice af ff.args.length cf,.int .i64 ff.res] 114)).cell? ⟨w.heap.size,2,none⟩=some (.int .i64 r):=cell_p H0 2
 clear b01 bL H0 hb1
 go_wp2_with fail
 refine(hnm.out _).mono ?_
 rintro e w2 ⟨rfl,hb2⟩
 have B2:=hid (bL'.out.trans (hb2.mono bL'.out.size))
 have H2:=(hb2.block w.heap.size hlt0).trans H0'.out
 have k0:w2.cell? ⟨w.heap.size,0,none⟩=some (.string nm):=cell_p H2 0
 have k1:w2.cell? ⟨w.heap.size,1,none⟩=some (.slice a args.length c):=cell_p H2 1
 have k2:w2.cell? ⟨w.heap.size,2,none⟩=some (.int .i64 r):=cell_p H2 2
 have R2:=hid (h'.out.all B2.out)
 clear hb2 H2 hlt0 k00 k01 k02
 have his:=hid (ris_any B p T r w2 R2.out hsl)
 rw [hir] at his
 have hia:=hid (fun s=>ris_any B p T s w2 R2.out hsl)
 obtain ⟨a1,c1,a2,c2,a3,c3,hblk,o1,o2,o3⟩:=R2.out.look
 have q1:w2.cell? ⟨p,1,none⟩=some (.slice a2 T.funs.length c2):=cell_p hblk 1
 have hblk':=hid hblk
 have X1:=hid (hx'.out.below B2.out (Nat.le_refl _))
 have wfX:=hid (show WfI args from hx'.out.wf)
 have sX:=hid (show Src w2 1 a args.length (args.map (Value.int .i64)) by have:=(X1.out.srcs (q:=args.length) (Nat.le_refl _) hcn).1;rwa [List.take_length] at this)
 have hps:=hid (PStep.of_below hplt B2.out)
 obtain ⟨css,oc,pA0⟩:=o2.pairs
 have hcm:=o2.slice
 have sA:=hid (show Src w2 3 a2 T.funs.length css.flatten by
  refine⟨oc.1,fun h0=>?_⟩
  obtain ⟨g,cap,hv,_⟩:=oc.form h0
  cases hv
  exact⟨_,rfl,fun j u hu=>by rw [Addr.add_lit,Nat.zero_add];exact oc.cells (g:=g) rfl j u hu⟩)
 have pA:=hid pA0
 have pO:=hid pA0.ones
 clear hir hblk o1 o2 o3 oc pA0 hcm
 go_wp2_with fail
 refine his.out.mono ?_;rintro e w' ⟨rfl,rfl⟩
 go_wp2
 go_loopw [4,7] (fun _ i wr=>∃k:Nat,k≤args.length∧i = .int .i64 k∧wr=w2∧Hid (∀j,j<k→argBad T.sorts.length (nth args j)=false)) (fun _ i _=>args.length - (intOf i).toNat)
 case atStart=>exact⟨0,Nat.zero_le _,rfl,rfl,fun j hj=>absurd hj (Nat.not_lt_zero _)⟩
 case round=>
  obtain ⟨k,hk,rfl,rfl,hok⟩:=hrel
  by_cases hlt:k<args.length
  ·obtain ⟨b,o,rfl,h1⟩:=X1.out.at k hlt
   have hyes:=hid (fun hb=>any_at (p:=argBad T.sorts.length) hlt hb)
   have hnext:=hid (fun hb:argBad T.sorts.length (nth args k)=false=>show ∀j,j<k+1→argBad T.sorts.length (nth args j)=false from fun j hj=>by
    by_cases e:j=k
    ·subst e;exact hb
    ·exact hok.out j (by omega))
   have hab:=@hid (argBad T.sorts.length (nth args k)=(nth args k == 0 || !isB T.sorts.length (nth args k))) rfl
   generalize nth args k=x at *
   by_cases hx0:x=0
   ·have hv:=@hid (errFun T ⟨nm,args,r⟩=1) (by rw [hd2.out,hyes.out (by rw [hab.out,hx0];rfl)];rfl)
    subst hx0
    go_wp2
    go_ret
    exact RFunPost.no h'.out B2.out hv.out (by decide)
   have hx0':(x == 0)=false:=by simpa using hx0
   have hia1:=hid (hia.out x)
   cases hix:isB T.sorts.length x
   case false=>
    have hv:=@hid (errFun T ⟨nm,args,r⟩=1) (by rw [hd2.out,hyes.out (by rw [hab.out,hix];simp)];rfl)
    rw [hix] at hia1
    clear hix
    go_wp2_with fail
    refine hia1.out.mono ?_;rintro e w' ⟨rfl,rfl⟩
    go_wp2
    go_ret
    exact RFunPost.no h'.out B2.out hv.out (by decide)
   case true=>
    have hv:=hid (hnext.out (by rw [hab.out,hix,hx0'];rfl))
    rw [hix] at hia1
    clear hix
    go_wp2_with fail
    refine hia1.out.mono ?_;rintro e w' ⟨rfl,rfl⟩
    go_wp2
    go_roundw
    case rel=>exact⟨k+1,by omega,by go_num,by trivial,hv.out⟩
    case measure=>simp [intOf];omega
  ·obtain rfl:k=args.length:=by omega
   have hno:=hid (any_take_no (fun j hj=>hok.out j hj))
   by_cases h1000:1000≤T.funs.length
   ·have hv:=@hid (errFun T ⟨nm,args,r⟩=4) (by rw [hd2.out,hno.out];simp [h1000])
    have h1000i:(1000:Int)≤T.funs.length:=by omega
    go_wp2
    go_ret
    exact RFunPost.no h'.out B2.out hv.out (by decide)
   ·have hv:=@hid (errFun T ⟨nm,args,r⟩=0) (by rw [hd2.out,hno.out];simp [h1000])
    have h1000i:(T.funs.length:Int)<1000:=by omega
    have hpw:=R2.out.plt
    clear hok hno hd2 his hia
    go_wp2
    refine wp_region_tt (S:=fun W=>Below wr.heap.size wr W) 18 (by kernel_rfl) (by kernel_rfl) (keep_drew wr) (fun hHeld=>?_)
    refine tk (i:=0) (h:=?_)
    (try simp only [Act.put,sA,sB,sC])
    refine tk (i:=2) (h:=?_)
    (try simp only [Act.put,sA,sB,sC])
    refine tk (i:=3) (h:=?_)
    (try simp only [Act.put,sA,sB,sC])
    refine tk (i:=4) (h:=?_)
    (try simp only [Act.put,sA,sB,sC])
    refine tk (i:=5) (hy:=(Or.inl ⟨by rfl,by(intro W hSw;have hq1:=keep_cell (p:=⟨p,1,none⟩) hSw q1;go_simp <;> with_reducible rfl)⟩)) (h:=?_)
    (try simp only [Act.put,sA,sB,sC])
    refine tk (i:=7) (h:=?_)
    (try simp only [Act.put,sA,sB,sC])
    refine tk (i:=8) (hy:=(Or.inl ⟨by rfl,by(intro W hSw;have hq1:=keep_cell hSw k0;go_simp <;> with_reducible rfl)⟩)) (h:=?_)
    (try simp only [Act.put,sA,sB,sC])
    refine tk (i:=10) (h:=?_)
    (try simp only [Act.put,sA,sB,sC])
    refine tk (i:=11) (hy:=(Or.inl ⟨by rfl,by(intro W hSw;have hq1:=keep_cell hSw k1;go_simp <;> with_reducible rfl)⟩)) (h:=?_)
    (try simp only [Act.put,sA,sB,sC])
    refine tk (i:=13) (h:=?_)
    (try simp only [Act.put,sA,sB,sC])
    refine tk (i:=14) (hy:=(Or.inl ⟨by rfl,by(intro W hSw;have hq1:=keep_cell hSw k2;go_simp <;> with_reducible rfl)⟩)) (h:=?_)
    (try simp only [Act.put,sA,sB,sC])
    refine tt_ready (rs:=[1,9]) (by decide +kernel) (allT_cons (by rfl) (fun K hK=>?_) (allT_cons (by rfl) (fun K hK=>?_) allT_nil))
    ·skip
     go_simp
     refine hK.out _ _ (by(exact keep_alloc (by assumption) _)) (fun hHeld2=>?_)
     clear hK K
     (try simp only [Act.put,sA,sB,sC])
     refine tt_ready (rs:=[6,9]) (by decide +kernel) (allT_cons (by rfl) (fun K hK=>?_) (allT_cons (by rfl) (fun K hK=>?_) allT_nil))
     ·skip
      refine step_append_C (base:=wr.heap.size) (by rfl) (.tmp 65) (.tmp 69) (by rfl) Tryz.underlying104 hi hz0 hz1 hz2 rfl (by decide) (Eq.refl (Value.slice _ _ _)) (by rfl) (by first | exact OwnC.lit0 (by simp) (by simp) | exact(OwnC.lit0 (by simp) (by simp)).alloc _) (Src.keep sA.out (by assumption)) pO.out (by unfold maxLen;omega) (by omega) (Below.size (w:=wr) (by assumption)) ?_
      intro v' w3 ho3 hg3 _
      rw [Nat.zero_add,List.nil_append] at ho3
      have O3:=hid ho3
      obtain ⟨a6,c6,rfl,_,_⟩:=ho3.slice
      first
      | have I7:=hid (OwnC.carry (base:=wr.heap.size) (e:=3) (size:=1) (v:=.slice (some ⟨wr.heap.size+1,0,none⟩) 0 0) (OwnC.lit0 (by simp) (by simp)).drew hg3 (by intro k hk;simp [Value.ownBlock] at hk;subst hk;simp [Value.ownBlock]))
      | have I7:=hid (OwnC.carry (base:=wr.heap.size) (e:=3) (size:=1) (v:=.slice (some ⟨wr.heap.size,0,none⟩) 0 0) ((OwnC.lit0 (by simp) (by simp)).alloc _).drew hg3 (by intro k hk;simp [Value.ownBlock] at hk;subst hk;simp [Value.ownBlock]))
      | have I7:=hid True.intro
      clear ho3
      refine hK.out _ _ (by(exact keep_push (by assumption) hg3 (by intro k hk;simp [Value.ownBlock] at hk;omega))) (fun hHeld3=>?_)
      clear hK K
      (try simp only [Act.put,sA,sB,sC])
      refine tt_ready (rs:=[9]) (by decide +kernel) (allT_cons (by rfl) (fun K hK=>?_) allT_nil)
      go_simp
      refine hK.out _ _ (by(exact keep_alloc (by assumption) _)) (fun hHeld4=>?_)
      clear hK K
      (try simp only [Act.put,sA,sB,sC])
      refine tt_ready (rs:=[12]) (by decide +kernel) (allT_cons (by rfl) (fun K hK=>?_) allT_nil)
      refine step_append_C (base:=wr.heap.size) (by rfl) (.tmp 73) (.tmp 75) (by rfl) Tryz.underlying23 hj hy0 hy1 hy2 rfl (by decide) (Eq.refl (Value.slice _ _ _)) (by rfl) (by first | exact I7.out | exact OwnC.lit0 (by first | rfl | simp) (Below.size (w:=wr) (by assumption))) (Src.keep sX.out (by assumption)) int_one (by unfold maxLen;omega) (by omega) (Below.size (w:=wr) (by assumption)) ?_
      intro v' w4 ho4 hg4 hl4
      rw [Nat.zero_add,List.nil_append] at ho4
      have O4:=hid ho4
      have F4:=hid (by first
       | exact OwnC.carry O3.out hg4 (fun k hk e=>ty_ne (by decide) (O3.out.ty k hk) (I7.out.ty k e))
       | exact OwnC.carry (O3.out.alloc _) hg4 (fun k hk e=>by have:=(O3.out.lt k hk).2;simp [Value.ownBlock] at e;omega):OwnC w4 wr.heap.size 114 3 (.slice a6 T.funs.length c6) T.funs.length css.flatten)
      obtain ⟨a7,c7,rfl,hc71,hc72⟩:=ho4.slice
      clear ho4
      refine hK.out _ _ (by(exact keep_push (by assumption) hg4 (by first | exact(fun k hk=>(I7.out.lt k hk).1) | (intro k hk;have hz:=Below.size (w:=wr) (w':=w3) (by assumption);simp [Value.ownBlock] at hk;omega)))) (fun hHeld5=>?_)
      clear hK K
      (try simp only [Act.put,sA,sB,sC])
      refine tk (i:=15) (h:=?_)
      (try simp only [Act.put,sA,sB,sC])
      refine tt_ready (rs:=[16]) (by decide +kernel) (allT_cons (by rfl) (fun K hK=>?_) allT_nil)
      go_simp
      refine hK.out _ _ (by(exact keep_alloc (by assumption) _)) (fun hHeld6=>?_)
      clear hK K
      (try simp only [Act.put,sA,sB,sC])
      refine tt_ready (rs:=[17]) (by decide +kernel) (allT_cons (by rfl) (fun K hK=>?_) allT_nil)
      refine step_append_C (base:=wr.heap.size) (by rfl) (.tmp 70) (.tmp 80) (by rfl) Tryz.underlying104 hi hz0 hz1 hz2 rfl (by decide) (Eq.refl (Value.slice _ _ _)) (by rfl) (F4.out.alloc _) (Src.lit (CellsF.lit (us:=[Value.string nm,.slice a7 args.length c7,.int .i64 r]) (by first | rfl | simp)) rfl) triple_one (by unfold maxLen;omega) (by omega) (Below.size (w:=wr) (by assumption)) ?_
      intro v' w5 ho5 hg5 _
      have O5:=hid ho5
      have I5:=hid ((O4.out.alloc _).carry hg5 (fun k hk e=>ty_ne (by decide) (F4.out.ty k e) (O4.out.ty k hk)))
      obtain ⟨a8,c8,rfl,_,_⟩:=ho5.slice
      clear ho5
      refine hK.out _ _ (by(exact keep_push (by assumption) hg5 (fun k hk=>(F4.out.lt k hk).1))) (fun hHeld7=>?_)
      clear hK K
      (try simp only [Act.put,sA,sB,sC])
      refine tt_tail (by decide +kernel) ?_
      simp only [List.drop_succ_cons,List.drop_zero]
      have hB5:Below wr.heap.size wr w5:=by assumption
      have B5:=hid hB5
      have g1':=keep_cell hB5 q1
      have f1':=(frz_p ((hB5.block p hpw).trans hblk'.out) 1)
      clear hg3 hg4 hg5 hB5 k0 k1 k2 q1
      go_wp2
      go_ret
      exact rfunDone R2.out hblk'.out B5.out pA.out ⟨rfl,rfl⟩ O5.out I5.out wfX.out hrb'.out hc71 hc72 hv.out hps.out
     ·skip
      go_simp
      refine hK.out _ _ (by(exact keep_alloc (by assumption) _)) (fun hHeld3=>?_)
      clear hK K
      (try simp only [Act.put,sA,sB,sC])
      refine tt_ready (rs:=[6]) (by decide +kernel) (allT_cons (by rfl) (fun K hK=>?_) allT_nil)
      refine step_append_C (base:=wr.heap.size) (by rfl) (.tmp 65) (.tmp 69) (by rfl) Tryz.underlying104 hi hz0 hz1 hz2 rfl (by decide) (Eq.refl (Value.slice _ _ _)) (by rfl) (by first | exact OwnC.lit0 (by simp) (by simp) | exact(OwnC.lit0 (by simp) (by simp)).alloc _) (Src.keep sA.out (by assumption)) pO.out (by unfold maxLen;omega) (by omega) (Below.size (w:=wr) (by assumption)) ?_
      intro v' w3 ho3 hg3 _
      rw [Nat.zero_add,List.nil_append] at ho3
      have O3:=hid ho3
      obtain ⟨a6,c6,rfl,_,_⟩:=ho3.slice
      first
      | have I7:=hid (OwnC.carry (base:=wr.heap.size) (e:=3) (size:=1) (v:=.slice (some ⟨wr.heap.size+1,0,none⟩) 0 0) (OwnC.lit0 (by simp) (by simp)).drew hg3 (by intro k hk;simp [Value.ownBlock] at hk;subst hk;simp [Value.ownBlock]))
      | have I7:=hid (OwnC.carry (base:=wr.heap.size) (e:=3) (size:=1) (v:=.slice (some ⟨wr.heap.size,0,none⟩) 0 0) ((OwnC.lit0 (by simp) (by simp)).alloc _).drew hg3 (by intro k hk;simp [Value.ownBlock] at hk;subst hk;simp [Value.ownBlock]))
      | have I7:=hid True.intro
      clear ho3
      refine hK.out _ _ (by(exact keep_push (by assumption) hg3 (by intro k hk;simp [Value.ownBlock] at hk;omega))) (fun hHeld4=>?_)
      clear hK K
      (try simp only [Act.put,sA,sB,sC])
      refine tt_ready (rs:=[12]) (by decide +kernel) (allT_cons (by rfl) (fun K hK=>?_) allT_nil)
      refine step_append_C (base:=wr.heap.size) (by rfl) (.tmp 73) (.tmp 75) (by rfl) Tryz.underlying23 hj hy0 hy1 hy2 rfl (by decide) (Eq.refl (Value.slice _ _ _)) (by rfl) (by first | exact I7.out | exact OwnC.lit0 (by first | rfl | simp) (Below.size (w:=wr) (by assumption))) (Src.keep sX.out (by assumption)) int_one (by unfold maxLen;omega) (by omega) (Below.size (w:=wr) (by assumption)) ?_
      intro v' w4 ho4 hg4 hl4
      rw [Nat.zero_add,List.nil_append] at ho4
      have O4:=hid ho4
      have F4:=hid (by first
       | exact OwnC.carry O3.out hg4 (fun k hk e=>ty_ne (by decide) (O3.out.ty k hk) (I7.out.ty k e))
       | exact OwnC.carry (O3.out.alloc _) hg4 (fun k hk e=>by have:=(O3.out.lt k hk).2;simp [Value.ownBlock] at e;omega):OwnC w4 wr.heap.size 114 3 (.slice a6 T.funs.length c6) T.funs.length css.flatten)
      obtain ⟨a7,c7,rfl,hc71,hc72⟩:=ho4.slice
      clear ho4
      refine hK.out _ _ (by(exact keep_push (by assumption) hg4 (by first | exact(fun k hk=>(I7.out.lt k hk).1) | (intro k hk;have hz:=Below.size (w:=wr) (w':=w3) (by assumption);simp [Value.ownBlock] at hk;omega)))) (fun hHeld5=>?_)
      clear hK K
      (try simp only [Act.put,sA,sB,sC])
      refine tk (i:=15) (h:=?_)
      (try simp only [Act.put,sA,sB,sC])
      refine tt_ready (rs:=[16]) (by decide +kernel) (allT_cons (by rfl) (fun K hK=>?_) allT_nil)
      go_simp
      refine hK.out _ _ (by(exact keep_alloc (by assumption) _)) (fun hHeld6=>?_)
      clear hK K
      (try simp only [Act.put,sA,sB,sC])
      refine tt_ready (rs:=[17]) (by decide +kernel) (allT_cons (by rfl) (fun K hK=>?_) allT_nil)
      refine step_append_C (base:=wr.heap.size) (by rfl) (.tmp 70) (.tmp 80) (by rfl) Tryz.underlying104 hi hz0 hz1 hz2 rfl (by decide) (Eq.refl (Value.slice _ _ _)) (by rfl) (F4.out.alloc _) (Src.lit (CellsF.lit (us:=[Value.string nm,.slice a7 args.length c7,.int .i64 r]) (by first | rfl | simp)) rfl) triple_one (by unfold maxLen;omega) (by omega) (Below.size (w:=wr) (by assumption)) ?_
      intro v' w5 ho5 hg5 _
      have O5:=hid ho5
      have I5:=hid ((O4.out.alloc _).carry hg5 (fun k hk e=>ty_ne (by decide) (F4.out.ty k e) (O4.out.ty k hk)))
      obtain ⟨a8,c8,rfl,_,_⟩:=ho5.slice
      clear ho5
      refine hK.out _ _ (by(exact keep_push (by assumption) hg5 (fun k hk=>(F4.out.lt k hk).1))) (fun hHeld7=>?_)
      clear hK K
      (try simp only [Act.put,sA,sB,sC])
      refine tt_tail (by decide +kernel) ?_
      simp only [List.drop_succ_cons,List.drop_zero]
      have hB5:Below wr.heap.size wr w5:=by assumption
      have B5:=hid hB5
      have g1':=keep_cell hB5 q1
      have f1':=(frz_p ((hB5.block p hpw).trans hblk'.out) 1)
      clear hg3 hg4 hg5 hB5 k0 k1 k2 q1
      go_wp2
      go_ret
      exact rfunDone R2.out hblk'.out B5.out pA.out ⟨rfl,rfl⟩ O5.out I5.out wfX.out hrb'.out hc71 hc72 hv.out hps.out
    ·skip
     go_simp
     refine hK.out _ _ (by(exact keep_alloc (by assumption) _)) (fun hHeld2=>?_)
     clear hK K
     (try simp only [Act.put,sA,sB,sC])
     refine tt_ready (rs:=[1]) (by decide +kernel) (allT_cons (by rfl) (fun K hK=>?_) allT_nil)
     go_simp
     refine hK.out _ _ (by(exact keep_alloc (by assumption) _)) (fun hHeld3=>?_)
     clear hK K
     (try simp only [Act.put,sA,sB,sC])
     refine tt_ready (rs:=[6]) (by decide +kernel) (allT_cons (by rfl) (fun K hK=>?_) allT_nil)
     refine step_append_C (base:=wr.heap.size) (by rfl) (.tmp 65) (.tmp 69) (by rfl) Tryz.underlying104 hi hz0 hz1 hz2 rfl (by decide) (Eq.refl (Value.slice _ _ _)) (by rfl) (by first | exact OwnC.lit0 (by simp) (by simp) | exact(OwnC.lit0 (by simp) (by simp)).alloc _) (Src.keep sA.out (by assumption)) pO.out (by unfold maxLen;omega) (by omega) (Below.size (w:=wr) (by assumption)) ?_
     intro v' w3 ho3 hg3 _
     rw [Nat.zero_add,List.nil_append] at ho3
     have O3:=hid ho3
     obtain ⟨a6,c6,rfl,_,_⟩:=ho3.slice
     first
     | have I7:=hid (OwnC.carry (base:=wr.heap.size) (e:=3) (size:=1) (v:=.slice (some ⟨wr.heap.size+1,0,none⟩) 0 0) (OwnC.lit0 (by simp) (by simp)).drew hg3 (by intro k hk;simp [Value.ownBlock] at hk;subst hk;simp [Value.ownBlock]))
     | have I7:=hid (OwnC.carry (base:=wr.heap.size) (e:=3) (size:=1) (v:=.slice (some ⟨wr.heap.size,0,none⟩) 0 0) ((OwnC.lit0 (by simp) (by simp)).alloc _).drew hg3 (by intro k hk;simp [Value.ownBlock] at hk;subst hk;simp [Value.ownBlock]))
     | have I7:=hid True.intro
     clear ho3
     refine hK.out _ _ (by(exact keep_push (by assumption) hg3 (by intro k hk;simp [Value.ownBlock] at hk;omega))) (fun hHeld4=>?_)
     clear hK K
     (try simp only [Act.put,sA,sB,sC])
     refine tt_ready (rs:=[12]) (by decide +kernel) (allT_cons (by rfl) (fun K hK=>?_) allT_nil)
     refine step_append_C (base:=wr.heap.size) (by rfl) (.tmp 73) (.tmp 75) (by rfl) Tryz.underlying23 hj hy0 hy1 hy2 rfl (by decide) (Eq.refl (Value.slice _ _ _)) (by rfl) (by first | exact I7.out | exact OwnC.lit0 (by first | rfl | simp) (Below.size (w:=wr) (by assumption))) (Src.keep sX.out (by assumption)) int_one (by unfold maxLen;omega) (by omega) (Below.size (w:=wr) (by assumption)) ?_
     intro v' w4 ho4 hg4 hl4
     rw [Nat.zero_add,List.nil_append] at ho4
     have O4:=hid ho4
     have F4:=hid (by first
      | exact OwnC.carry O3.out hg4 (fun k hk e=>ty_ne (by decide) (O3.out.ty k hk) (I7.out.ty k e))
      | exact OwnC.carry (O3.out.alloc _) hg4 (fun k hk e=>by have:=(O3.out.lt k hk).2;simp [Value.ownBlock] at e;omega):OwnC w4 wr.heap.size 114 3 (.slice a6 T.funs.length c6) T.funs.length css.flatten)
     obtain ⟨a7,c7,rfl,hc71,hc72⟩:=ho4.slice
     clear ho4
     refine hK.out _ _ (by(exact keep_push (by assumption) hg4 (by first | exact(fun k hk=>(I7.out.lt k hk).1) | (intro k hk;have hz:=Below.size (w:=wr) (w':=w3) (by assumption);simp [Value.ownBlock] at hk;omega)))) (fun hHeld5=>?_)
     clear hK K
     (try simp only [Act.put,sA,sB,sC])
     refine tk (i:=15) (h:=?_)
     (try simp only [Act.put,sA,sB,sC])
     refine tt_ready (rs:=[16]) (by decide +kernel) (allT_cons (by rfl) (fun K hK=>?_) allT_nil)
     go_simp
     refine hK.out _ _ (by(exact keep_alloc (by assumption) _)) (fun hHeld6=>?_)
     clear hK K
     (try simp only [Act.put,sA,sB,sC])
     refine tt_ready (rs:=[17]) (by decide +kernel) (allT_cons (by rfl) (fun K hK=>?_) allT_nil)
     refine step_append_C (base:=wr.heap.size) (by rfl) (.tmp 70) (.tmp 80) (by rfl) Tryz.underlying104 hi hz0 hz1 hz2 rfl (by decide) (Eq.refl (Value.slice _ _ _)) (by rfl) (F4.out.alloc _) (Src.lit (CellsF.lit (us:=[Value.string nm,.slice a7 args.length c7,.int .i64 r]) (by first | rfl | simp)) rfl) triple_one (by unfold maxLen;omega) (by omega) (Below.size (w:=wr) (by assumption)) ?_
     intro v' w5 ho5 hg5 _
     have O5:=hid ho5
     have I5:=hid ((O4.out.alloc _).carry hg5 (fun k hk e=>ty_ne (by decide) (F4.out.ty k e) (O4.out.ty k hk)))
     obtain ⟨a8,c8,rfl,_,_⟩:=ho5.slice
     clear ho5
     refine hK.out _ _ (by(exact keep_push (by assumption) hg5 (fun k hk=>(F4.out.lt k hk).1))) (fun hHeld7=>?_)
     clear hK K
     (try simp only [Act.put,sA,sB,sC])
     refine tt_tail (by decide +kernel) ?_
     simp only [List.drop_succ_cons,List.drop_zero]
     have hB5:Below wr.heap.size wr w5:=by assumption
     have B5:=hid hB5
     have g1':=keep_cell hB5 q1
     have f1':=(frz_p ((hB5.block p hpw).trans hblk'.out) 1)
     clear hg3 hg4 hg5 hB5 k0 k1 k2 q1
     go_wp2
     go_ret
     exact rfunDone R2.out hblk'.out B5.out pA.out ⟨rfl,rfl⟩ O5.out I5.out wfX.out hrb'.out hc71 hc72 hv.out hps.out
def sy:ByteArray:=⟨#[121]⟩
def sz:ByteArray:=⟨#[122]⟩
def sp:ByteArray:=⟨#[112]⟩
def sq:ByteArray:=⟨#[113]⟩
def sa:ByteArray:=⟨#[97]⟩
def sb:ByteArray:=⟨#[98]⟩
def sh:ByteArray:=⟨#[104]⟩
def declL:List FunD:=[⟨sx,[],1⟩,⟨sy,[],1⟩,⟨sz,[],1⟩,⟨sp,[],0⟩,⟨sq,[],0⟩,⟨sa,[],2⟩,⟨sb,[],2⟩,⟨sf,[1],1⟩,⟨sg,[2,1],2⟩,⟨sh,[2],0⟩]
def T7 (k:Nat):TabD:=⟨[sU],declL.take k,[]⟩
theorem findF_data (T:TabD) (s:ByteArray):findF T s=T.funs.find? fun f=>f.name.data.toList == s.data.toList:=by
 unfold findF
 congr 1
 funext f
 exact eqS_data f.name s
theorem err7:∀k:Fin 10,errFun (T7 k.val) (declL.getD k.val noFun)=0:=by
 intro k
 unfold errFun mayFunB
 rw [mayB_data,findF_data]
 revert k
 decide +kernel
theorem add7 {k:Nat} (hk:k<10) (f:FunD) (hf:declL[k]? = some f):errFun (T7 k) f=0∧addFun (T7 k) f=T7 (k+1):=by
 have h:=err7 ⟨k,hk⟩
 have e:declL.getD k noFun=f:=by rw [List.getD_eq_getElem?_getD,hf];rfl
 dsimp only at h
 rw [e] at h
 refine⟨h,?_⟩
 unfold addFun
 rw [if_pos h]
 unfold T7
 have hl:k<declL.length:=(List.getElem?_eq_some_iff.1 hf).1
 rw [List.take_succ_eq_append_getElem hl]
 have e2:=List.getElem?_eq_getElem hl
 rw [hf] at e2
 injection e2 with e2
 rw [←e2]
theorem small7 (k:Nat):Small (T7 k):=by
 have hl:(T7 k).funs.length≤10:=by show(declL.take k).length≤10;rw [List.length_take];exact Nat.min_le_right _ _
 refine⟨by show(1:Nat)<_;decide,by omega,by show(0:Nat)<_;decide,fun f hf=>?_⟩
 have:f∈declL:=List.mem_of_mem_take hf
 simp [declL] at this
 rcases this with rfl | rfl | rfl | rfl | rfl | rfl | rfl | rfl | rfl | rfl <;> decide
theorem bad7:badSort ⟨[],[],[]⟩ sU=false:=bad_U
theorem SlR.ofCss {α:Type} {R:Rep α} {S:Nat→Prop} {w:World} {g:Nat} {t:TypeId} {f:Nat × Nat} {css:List (List Value)} {xs:List α} (hb:w.heap[g]? = some (.cells css.flatten.toArray t f)) (hS:S g) (hl:css.length=xs.length)
  (hr:∀(j:Nat) (x:α),xs[j]? = some x→∃cs,css[j]? = some cs∧R.rd S w x cs):SlR R S w (some ⟨g,0,none⟩) xs.length xs:=by
 refine⟨rfl,fun _=>⟨g,0,rfl,(Array.getElem?_eq_some_iff.1 hb).1,hS,fun j x hx=>?_⟩⟩
 obtain ⟨cs,h1,h2⟩:=hr j x hx
 refine⟨cs,h2,fun i u hu=>?_⟩
 have hk:∀cs∈css,cs.length=R.k:=fun cs hc=>by
  obtain ⟨j,hj,rfl⟩:=List.getElem_of_mem hc
  obtain ⟨cs',h3,h4⟩:=hr j _ (List.getElem?_eq_getElem (by omega:j<xs.length))
  rw [List.getElem?_eq_getElem hj] at h3
  injection h3 with h3
  rw [h3];exact R.len h4
 have:=flat_at hk h1 hu
 rw [Nat.zero_add,cell_p hb]
 simpa using this
def declC (g : Nat) : List (List Value) :=
  [[.string sx, .slice none 0 0, .int .i64 1], [.string sy, .slice none 0 0, .int .i64 1], [.string sz, .slice none 0 0, .int .i64 1], [.string sp, .slice none 0 0, .int .i64 0], [.string sq, .slice none 0 0, .int .i64 0], [.string sa, .slice none 0 0, .int .i64 2], [.string sb, .slice none 0 0, .int .i64 2],
   [.string sf, .slice (some ⟨g, 0, none⟩) 1 1, .int .i64 1], [.string sg, .slice (some ⟨g + 1, 0, none⟩) 2 2, .int .i64 2], [.string sh, .slice (some ⟨g + 2, 0, none⟩) 1 1, .int .i64 0]]
def DeclPost (w:World) (e:Ending) (w':World):Prop:=
 e = .returned (.slice (some ⟨w.heap.size+3,0,none⟩) 10 10)∧SlR repF (fun k=>w.heap.size≤k) w' (some ⟨w.heap.size+3,0,none⟩) 10 declL∧Below w.heap.size w w'∧w'.heap.size=w.heap.size+4
theorem decl_rd {S:Nat→Prop} {w:World} {g:Nat} (h1:SlR Rep.int S w (some ⟨g,0,none⟩) 1 [1]) (h2:SlR Rep.int S w (some ⟨g+1,0,none⟩) 2 [2,1]) (h3:SlR Rep.int S w (some ⟨g+2,0,none⟩) 1 [2]) :
  ∀(j:Nat) (x:FunD),declL[j]? = some x→∃cs,(declC g)[j]? = some cs∧repF.rd S w x cs:=by
 have o0:okI 0:=⟨by decide,by decide⟩
 have o1:okI 1:=⟨by decide,by decide⟩
 have o2:okI 2:=⟨by decide,by decide⟩
 have nl:=fun nm r (h:okI r)=>(repF_rd (S:=S) (w:=w) (f:=⟨nm,[],r⟩) (cs:=[.string nm,.slice none 0 0,.int .i64 r])).2 ⟨none,0,0,rfl,Nat.le_refl _,Nat.zero_le _,SlR.nil _ _ _ _,h⟩
 intro j x hx
 match j,hx with
 | 0,hx=>cases hx;exact⟨_,rfl,nl _ _ o1⟩
 | 1,hx=>cases hx;exact⟨_,rfl,nl _ _ o1⟩
 | 2,hx=>cases hx;exact⟨_,rfl,nl _ _ o1⟩
 | 3,hx=>cases hx;exact⟨_,rfl,nl _ _ o0⟩
 | 4,hx=>cases hx;exact⟨_,rfl,nl _ _ o0⟩
 | 5,hx=>cases hx;exact⟨_,rfl,nl _ _ o2⟩
 | 6,hx=>cases hx;exact⟨_,rfl,nl _ _ o2⟩
 | 7,hx=>cases hx;exact⟨_,rfl,repF_rd.2 ⟨_,1,1,rfl,Nat.le_refl _,by decide,h1,o1⟩⟩
 | 8,hx=>cases hx;exact⟨_,rfl,repF_rd.2 ⟨_,2,2,rfl,Nat.le_refl _,by decide,h2,o2⟩⟩
 | 9,hx=>cases hx;exact⟨_,rfl,repF_rd.2 ⟨_,1,1,rfl,Nat.le_refl _,by decide,h3,o0⟩⟩
 | j+10,hx=>simp [declL] at hx
structure Duo (w0:World) (p q:Nat) (T:TabD) (w:World):Prop where
 t:TabIs w0.heap.size p T w
 r:RefX (fun _=>False) w0.heap.size q T w
 ap:Apart w p q
 b:Below w0.heap.size w0 w
 e:Env w
section
variable {w0 w w1 w' : World} {p q : Nat} {T T' : TabD}
theorem Apart.symm (h:Apart w p q) (hp:∀j,ownOf w p j→j<w.heap.size):Apart w q p:=fun j hj=>⟨hp j hj,fun hq=>(h j hq).2 hj⟩
theorem Duo.all (h:Duo w0 p q T w) (hb:Below w.heap.size w w'):Duo w0 p q T w':=
 ⟨h.t.all hb,h.r.all hb,(h.ap.keep (.of_below h.t.plt hb)).2,h.b.trans (hb.mono h.b.size),h.e.all hb⟩
theorem Duo.step (h:Duo w0 p q T w) (h0:0<w0.heap.size) (s1:PStep p w w1):RefX (fun _=>False) w0.heap.size q T w1∧Apart w1 p q∧Below w0.heap.size w0 w1∧Env w1:=by
 have hk:=h.ap.keep s1
 have hb:=h.t.stepBelow s1
 exact⟨h.r.keep hk.1 (fun j hj=>(s1.block j hj.lt fun e=>h.t.ownI e hj).1) s1.size,hk.2,h.b.trans hb,h.e.below hb h0⟩
theorem Duo.step2 (h0:0<w0.heap.size) (t1:TabIs w0.heap.size p T' w1) (r1:RefX (fun _=>False) w0.heap.size q T w1) (ap:Apart w1 p q) (b:Below w0.heap.size w0 w1) (e:Env w1) (r2:RefX (fun _=>False) w0.heap.size q T' w') (s2:PStep q w1 w'):Duo w0 p q T' w':=by
 have ap':=ap.symm fun j hj=>(t1.ownB hj).2
 have hk:=ap'.keep s2
 have hb:=r1.stepBelow s2
 exact⟨t1.keep hk.1 (fun j hj=>(s2.block j hj.lt fun e=>r1.ownI e hj).1) s2.size,r2,hk.2.symm fun j hj=>(r2.ownB hj).2,b.trans hb,e.below hb h0⟩
def FreeS (S:Nat→Prop) (p q:Nat) (w:World):Prop:=∀k,S k→k<w.heap.size∧¬ownOf w p k∧¬ownOf w q k
theorem FreeS.stepP {S:Nat→Prop} (h:FreeS S p q w) (s:PStep p w w') (hq:w'.heap[q]? = w.heap[q]?):FreeS S p q w'∧∀k,S k→w'.heap[k]? = w.heap[k]?:=
 ⟨fun k hk=>⟨Nat.lt_of_lt_of_le (h k hk).1 s.size,(s.block k (h k hk).1 (h k hk).2.1).2,fun e=>(h k hk).2.2 ((ownOf.same hq).1 e)⟩,fun k hk=>(s.block k (h k hk).1 (h k hk).2.1).1⟩
theorem FreeS.stepQ {S:Nat→Prop} (h:FreeS S p q w) (s:PStep q w w') (hp:w'.heap[p]? = w.heap[p]?):FreeS S p q w'∧∀k,S k→w'.heap[k]? = w.heap[k]?:=
 ⟨fun k hk=>⟨Nat.lt_of_lt_of_le (h k hk).1 s.size,fun e=>(h k hk).2.1 ((ownOf.same hp).1 e),(s.block k (h k hk).1 (h k hk).2.2).2⟩,fun k hk=>(s.block k (h k hk).1 (h k hk).2.2).1⟩
end
theorem OwnR.lower {α:Type} {R:Rep α} {S:Nat→Prop} {w:World} {base base':Nat} {e:TypeId} {v:Value} {xs:List α} (h:OwnR R S w base e v xs) (hb:base'≤base):OwnR R S w base' e v xs:=by
 obtain ⟨css,h1,h2⟩:=h
 exact⟨css,h1.lower hb,h2⟩
theorem TermX.lower {B B' p:Nat} {T:TermD} {w:World} (h:TermX B p T w) (hb:B'≤B):TermX B' p T w:=by
 obtain ⟨q,v1,v2,m,h⟩:=h
 exact⟨q,v1,v2,m,Nat.le_trans hb h.bp,h.blk,h.nodes.lower hb,h.nums.lower hb,h.ids,Nat.le_trans hb h.bm,h.srtX,h.xlt⟩
def TabsPost (w:World) (e:Ending) (w':World):Prop:=∃p r,e = .returned (.tuple #[.pointer (some ⟨p,0,none⟩),.pointer (some ⟨r,0,none⟩)])∧TermX w.heap.size p (emptyT (T7 10)) w'∧Below w.heap.size w w'
def addN (T:TermD) (n:NodeD):TermD:={ T with nodes:=T.nodes ++ [n],nums:=T.nums ++ [numberD T n],ids:=fun k=>if k=keyB n then some (T.nodes.length:Int) else T.ids k,cnt:=T.cnt+1 }
def nX:NodeD:=⟨12,sx,noRat,[],1⟩
def A0:TermD:=emptyT (T7 10)
def A1:TermD:=addN A0 nX
section
variable {T : TermD} {op : Int} {nm : ByteArray} {val : RatD} {args : List Int} {s : Int}
theorem make_put (h1:badHead op args=false) (h2:badVal op nm val=false) (h3:args.any (fun i=>!hasT T i)=false) (h4:sortedD T op nm args=(s,true)):makeD T op nm val args=putD T ⟨op,nm,val,args,s⟩:=by
 unfold makeD
 rw [h1,h2,h3,h4]
 rfl
theorem put_addN {n:NodeD} (h:T.ids (keyB n)=none) (hl:T.nodes.length<16384):putD T n=(((T.nodes.length:Int),0),addN T n):=put_new h (by omega)
end
theorem lookF_data (T:TabD) (s:ByteArray):lookF T s=(T.funs.find? fun f=>f.name.data.toList == s.data.toList).getD noFun:=by unfold lookF;rw [findF_data]
theorem callD_data (T:TermD) (nm:ByteArray) (args:List Int):callD T nm args=if (T.S.funs.find? fun f=>f.name.data.toList == nm.data.toList).isSome∧((T.S.funs.find? fun f=>f.name.data.toList == nm.data.toList).getD noFun).args.length=args.length then
  (if sameSorts T args ((T.S.funs.find? fun f=>f.name.data.toList == nm.data.toList).getD noFun).args then(((T.S.funs.find? fun f=>f.name.data.toList == nm.data.toList).getD noFun).res,true) else(0,false)) else(0,false):=by
 unfold callD
 rw [findF_data,lookF_data]
theorem sort_x:sortedD A0 12 sx []=(1,true):=by
 show callD A0 sx []=_
 rw [callD_data]
 decide +kernel
theorem mk_x:makeD A0 12 sx noRat []=((0,0),A1):=(make_put (by decide +kernel) (by decide +kernel) rfl sort_x).trans (put_addN rfl (by decide))
theorem TermOk.empty (k:Nat):TermOk (emptyT (T7 k)):=
 ⟨⟨rfl,Nat.le_refl _,Nat.zero_le _,⟨Int.le_refl _,by show(0:Int)≤_;decide⟩,small7 k,fun _ _ h=>by simp [emptyT] at h⟩,fun _ h=>by simp [emptyT] at h,fun _ _ h=>by simp [emptyT] at h⟩
theorem TermOk.add {T:TermD} (h:TermOk T) {n:NodeD} (hl:T.nodes.length<16384) (h1:n.val.num.length≤1000000) (h2:n.val.den.length≤1000000) (h3:n.args.length≤1000000) (hi:InT T n.args):TermOk (addN T n):=by
 refine⟨⟨by simp [addN,h.sm.nn],by have:=h.sm.cn;simp [addN];omega,by simp [addN];omega,h.sm.fr,h.sm.s,fun k i hk=>?_⟩,fun x hx=>?_,fun k x hx=>?_⟩
 ·unfold addN at hk
  dsimp only at hk
  have e:((addN T n).nodes.length:Int)=T.nodes.length+1:=by simp [addN]
  rw [e]
  split at hk
  ·injection hk with hk;omega
  ·have:=h.sm.ids k i hk;omega
 ·rcases List.mem_append.1 hx with hx | hx
  ·exact h.sn x hx
  ·obtain rfl:=List.mem_singleton.1 hx;omega
 ·by_cases hk:k<T.nodes.length
  ·exact h.ord k x (by rw [show(addN T n).nodes=T.nodes ++ [n] from rfl,List.getElem?_append_left hk] at hx;exact hx)
  ·have hl2:=(List.getElem?_eq_some_iff.1 hx).1
   rw [show(addN T n).nodes=T.nodes ++ [n] from rfl,List.length_append,List.length_singleton] at hl2
   obtain rfl:k=T.nodes.length:=by omega
   rw [show(addN T n).nodes=T.nodes ++ [n] from rfl,List.getElem?_append_right (Nat.le_refl _),Nat.sub_self] at hx
   cases hx
   exact hi
theorem TermOk.put {T : TermD} (h : TermOk T) {n : NodeD} (h1 : n.val.num.length ≤ 1000000) (h2 : n.val.den.length ≤ 1000000) (h3 : n.args.length ≤ 1000000) (hi : InT T n.args) : TermOk (putD T n).2 := by
  cases hk : T.ids (keyB n) with
  | some i => rw [put_some hk]; exact h
  | none =>
    by_cases hl : 16384 ≤ T.nodes.length
    · rw [put_full hk hl]; exact h
    · rw [put_addN hk (by omega)]; exact h.add (by omega) h1 h2 h3 hi
theorem TermOk.make {T:TermD} (h:TermOk T) {op:Int} {nm:ByteArray} {val:RatD} {args:List Int} (h1:val.num.length≤1000000) (h2:val.den.length≤1000000):TermOk (makeD T op nm val args).2:=by
 unfold makeD
 split
 ·exact h
 ·rename_i hh
  split
  ·exact h
  ·split
   ·exact h
   ·rename_i ha
    split
    ·refine h.put h1 h2 ?_ (inT_of (by simpa using ha))
     unfold badHead at hh
     simp at hh
     show args.length≤_
     omega
    ·exact h
theorem TermOk.fresh {T:TermD} (h:TermOk T) (s:Int) (hf:T.fresh<1099511627776):TermOk (freshD T s).2:=by
 unfold freshD
 split
 ·have hp:=h.put (n:=freshNode T s) (Nat.zero_le _) (Nat.zero_le _) (Nat.zero_le _) (fun x hx=>by cases hx)
  split
  ·exact⟨⟨hp.sm.nn,hp.sm.cn,hp.sm.le,⟨by have:=h.sm.fr;show 0≤T.fresh+1;omega,by show T.fresh+1≤_;omega⟩,hp.sm.s,hp.sm.ids⟩,hp.sn,hp.ord⟩
  ·exact hp
 ·exact h
end Go.Proofs.YtgoojkiccdjplaaGreatDoor
