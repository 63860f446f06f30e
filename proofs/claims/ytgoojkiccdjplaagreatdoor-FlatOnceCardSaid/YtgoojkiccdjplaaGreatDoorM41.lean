/-
  Parts of this claim's texts, one behind the other: VD VF. No condition.
-/
import Derived.Test.YtgoojkiccdjplaaGreatDoorM40
set_option linter.unusedVariables false
set_option linter.unusedSimpArgs false
set_option maxRecDepth 100000
set_option maxHeartbeats 16000000
namespace Go.Proofs.YtgoojkiccdjplaaGreatDoor
open Go.RowKit Go.Sort Go.Lib
theorem eqI_any (a b:Option Addr) (n m c d:Nat) (xs ys:List Int) (w:World) (hx:RdI w a n xs) (hy:RdI w b m ys) (hn:n≤9223372036854775807) (hm:m≤9223372036854775807) :
  Calls Tryz.prog 127 #[.slice a n c,.slice b m d] w fun e w'=>e = .returned (.bool (decide (xs=ys)))∧∃q,w'=w.drewN q:=by
 have lx:=hx.len
 have ly:=hy.len
 by_cases h:n=m
 ·subst h
  by_cases h0:n=0
  ·subst h0
   refine(Tryz.slices_Equal_int_empty a b c 0 d w (by omega)).mono ?_
   rintro e w' ⟨rfl,rfl⟩
   have:xs=ys:=by rw [List.eq_nil_of_length_eq_zero lx,List.eq_nil_of_length_eq_zero ly]
   exact⟨by rw [decide_eq_true this];rfl,0,rfl⟩
  ·obtain ⟨b1,o1,rfl,_,h1⟩:=hx.cells (by omega)
   obtain ⟨b2,o2,rfl,_,h2⟩:=hy.cells (by omega)
   refine(Tryz.slices_Equal_int b1 o1 n c b2 o2 n d xs ys w (by omega) (by omega) (by omega) (by omega) (fun j hj=>h1 j (by omega)) (fun j hj=>h2 j (by omega))).mono ?_
   rintro e w' ⟨rfl,q,rfl⟩
   rw [List.take_of_length_le (by omega),List.take_of_length_le (by omega)]
   exact⟨by rw [show(xs == ys)=decide (xs=ys) from by rw [Bool.eq_iff_iff];simp],q,rfl⟩
 ·refine(Tryz.slices_Equal_int_lens a b n c m d w h).mono ?_
  rintro e w' ⟨rfl,rfl⟩
  have:xs≠ys:=fun e=>h (by rw [←lx,←ly,e])
  exact⟨by rw [decide_eq_false this],0,rfl⟩
structure TurnA (w0 w:World) (p nb:Nat) (Y:Nat→Prop) (T:TermD) (s:FlS) (cs:Array Value) (nm:ByteArray) (nk mb:Nat) (j:Nat) (out:List Int) (v:Value) (Tj:TermD) (sj:FlS) (wr:World):Prop where
 cx:Cx w0 p (FlatJ w0 p nb) (FlatD p nb) (fun k=>Y k∨((k=nk∨k=mb)∨rowB v k)) Tj sj wr
 os:OStep p (FlatD p nb s w) (FlatD p nb sj wr) w wr
 nn:wr.heap[nk]? = some (.cells cs 38 (0,0))
 mm:wr.heap[mb]? = some (.cells #[.int .i64 0,.string nm,v] 57 (0,0))
 ro:OwnC wr w.heap.size 3 1 v j (out.map (Value.int .i64))
 ok:∀x∈out,okI x
 ge:w.heap.size≤nk∧w.heap.size≤mb
 nd:∀k,((k=nk∨k=mb)∨rowB v k)→¬FlatD p nb sj wr k
 g:GrowT T Tj j
 cn:sj.cnt≤s.cnt+j
 md:sj.made=s.made
 lo:w0.heap.size≤w.heap.size
section
variable {w0 w wr w' : World} {p nb : Nat} {Y : Nat → Prop} {T T' : TermD} {s s' : FlS} {cs : Array Value} {nm : ByteArray} {nk mb j : Nat} {out : List Int} {v v' : Value} {Tj : TermD} {sj : FlS}
theorem TurnA.all (h:TurnA w0 w p nb Y T s cs nm nk mb j out v Tj sj wr) (hb:Below wr.heap.size wr w'):TurnA w0 w p nb Y T s cs nm nk mb j out v Tj sj w':=by
 obtain ⟨c,d⟩:=h.cx.allK (flat_keep w0 p nb) hb
 exact⟨c,h.os.trans (OStep.ofBelow h.cx.plt hb fun k _ e=>(d k).1 e),(hb.block _ (Array.getElem?_eq_some_iff.1 h.nn).1).trans h.nn,(hb.block _ (Array.getElem?_eq_some_iff.1 h.mm).1).trans h.mm,
  h.ro.same fun k hk=>hb.block k (h.ro.lt k hk).2,h.ok,h.ge,fun k hk e=>h.nd k hk ((d k).1 e),h.g,h.cn,h.md,h.lo⟩
theorem TurnA.step (h:TurnA w0 w p nb Y T s cs nm nk mb j out v Tj sj wr) (ho:OStep p (FlatD p nb sj wr) (FlatD p nb s' w') wr w') (hg:GrowT Tj T' 1) (hn:s'.cnt≤sj.cnt+1) (hm:s'.made=sj.made) :
  OStep p (FlatD p nb s w) (FlatD p nb s' w') w w'∧w'.heap[nk]? = some (.cells cs 38 (0,0))∧w'.heap[mb]? = some (.cells #[.int .i64 0,.string nm,v] 57 (0,0))∧OwnC w' w.heap.size 3 1 v j (out.map (Value.int .i64))∧(∀k,((k=nk∨k=mb)∨rowB v k)→¬FlatD p nb s' w' k)∧GrowT T T' (j+1)∧s'.cnt≤s.cnt+(j+1)∧s'.made=s.made:=by
 have hk:∀k,((k=nk∨k=mb)∨rowB v k)→w'.heap[k]? = wr.heap[k]? ∧ ¬FlatD p nb s' w' k:=fun k hk=>by
  obtain ⟨h1,h2⟩:=h.cx.x (.inr (.inr hk))
  have:=ho.block k h1 h2 (h.nd k hk)
  exact⟨this.1,this.2.2⟩
 exact⟨h.os.trans ho,(hk nk (.inl (.inl rfl))).1.trans h.nn,(hk mb (.inl (.inr rfl))).1.trans h.mm,h.ro.same fun k e=>(hk k (.inr e)).1,fun k e=>(hk k e).2,h.g.trans hg,by have:=h.cn;omega,hm.trans h.md⟩
theorem TurnA.push {w5 w6:World} {o:Obj} {x:Int} (h:TurnA w0 w p nb Y T s cs nm nk mb j out v Tj sj wr) (hc:Cx w0 p (FlatJ w0 p nb) (FlatD p nb) (fun k=>Y k∨((k=nk∨k=mb)∨rowB v k)) T' s' w5) (ho:OStep p (FlatD p nb sj wr) (FlatD p nb s' w5) wr w5) (hg:GrowT Tj T' 1) (hn:s'.cnt≤sj.cnt+1) (hm:s'.made=sj.made) (hx:okI x)
  (hgr:(w5.alloc o).grownBy w6 v.ownBlock) (hl:v'.ownBlock=v.ownBlock∨∀k,v'.ownBlock=some k→w5.heap.size≤k) (hr:OwnC w6 w.heap.size 3 1 v' (j+1) (out.map (Value.int .i64) ++ [.int .i64 x])) :
  TurnA w0 w p nb Y T s cs nm nk mb (j+1) (out ++ [x]) v' T' s' (w6.setCell ⟨mb,2,none⟩ v'):=by
 obtain ⟨t1,t2,t3,t4,t5,t6,t7,t8⟩:=h.step ho hg hn hm
 have hgr':=grown_alloc hgr
 have hmt:v.ownBlock≠some mb:=fun e=>ty_ne (by decide) (t4.ty mb e) ⟨_,_,t3⟩
 have hnt:v.ownBlock≠some nk:=fun e=>ty_ne (by decide) (t4.ty nk e) ⟨_,_,t2⟩
 have hnm:nk≠mb:=fun e=>by rw [e,t3] at t2;injection t2 with t2;injection t2 with _ t2 _;exact absurd t2 (by decide)
 have m6:=(hgr'.block mb (Array.getElem?_eq_some_iff.1 t3).1 hmt.symm).trans t3
 have e6:∀k,k<w5.heap.size→¬((k=nk∨k=mb)∨rowB v k)→(w6.setCell ⟨mb,2,none⟩ v').heap[k]? = w5.heap[k]?:=fun k h1 h2=>(Below.heap_setCell _ _ _ _ (fun e=>h2 (.inl (.inr e)))).trans (hgr'.block k h1 (fun e=>h2 (.inr e.symm)))
 have hvm:v'.ownBlock≠some mb:=fun e=>ty_ne (by decide) (hr.ty mb e) ⟨_,_,m6⟩
 have hz:(w6.setCell ⟨mb,2,none⟩ v').heap.size=w6.heap.size:=size_set
 have hs6:w5.heap.size≤(w6.setCell ⟨mb,2,none⟩ v').heap.size:=by rw [hz];exact hgr'.size
 have hB:Below w0.heap.size w5 (w6.setCell ⟨mb,2,none⟩ v'):=by
  refine⟨hgr'.os,hgr'.tape,hgr'.output,hs6,fun k hk=>e6 k (Nat.lt_of_lt_of_le hk hc.b.size) (fun e=>?_)⟩
  have hw:=h.lo
  rcases e with (e | e) | e
  ·have:=h.ge.1;omega
  ·have:=h.ge.2;omega
  ·have:=(h.ro.lt k e).1;omega
 have hD:∀k,FlatD p nb s' w5 k→(w6.setCell ⟨mb,2,none⟩ v').heap[k]? = w5.heap[k]?:=fun k hk=>e6 k (hc.x (.inl hk)).1 fun e=>t5 k e hk
 have I:St w0 p { T' with X:=fun k=>FlatD p nb s' w5 k∨(Y k∨((k=nk∨k=mb)∨rowB v' k)) } (w6.setCell ⟨mb,2,none⟩ v'):=hc.st.excl (X':=fun k=>FlatD p nb s' w5 k∨(Y k∨((k=nk∨k=mb)∨rowB v' k))) hB (fun k h1 h2=>e6 k h1 fun e=>h2 (.inr (.inr e))) fun k hk=>by
  rcases hk with hk | hk | hk | hk
  ·exact⟨.inl (.inl hk),Nat.lt_of_lt_of_le (hc.x (.inl hk)).1 hs6⟩
  ·exact⟨.inl (.inr (.inl hk)),Nat.lt_of_lt_of_le (hc.x (.inr (.inl hk))).1 hs6⟩
  ·exact⟨.inl (.inr (.inr (.inl hk))),Nat.lt_of_lt_of_le (hc.x (.inr (.inr (.inl hk)))).1 hs6⟩
  ·refine⟨?_,by rw [hz];exact(hr.lt k hk).2⟩
   rcases hl with hl | hl
   ·exact .inl (.inr (.inr (.inr (show v.ownBlock=some k by rw [←hl];exact hk))))
   ·exact .inr (hl k hk)
 obtain ⟨c6,d6⟩:=hc.sameK (flat_keep w0 p nb) I hD hs6
 have hrow:∀k,rowB v' k→rowB v k∨w5.heap.size≤k:=fun k hk=>by
  rcases hl with hl | hl
  ·exact .inl (show v.ownBlock=some k by rw [←hl];exact hk)
  ·exact .inr (hl k hk)
 have hnD:∀k,w5.heap.size≤k→¬FlatD p nb s' w5 k:=fun k h1 h2=>by have:=(hc.x (.inl h2)).1;omega
 have hp6:(w6.setCell ⟨mb,2,none⟩ v').heap[p]? = w5.heap[p]?:=e6 p hc.plt fun e=>(hc.x (.inr (.inr e))).2 (.inl (.inl rfl))
 refine⟨c6,⟨hgr'.os.trans t1.os,hgr'.tape.trans t1.tape,hgr'.output.trans t1.output,Nat.le_trans t1.size hs6,fun k h1 h2 h3=>?_⟩,?_,?_,?_,?_,h.ge,fun k hk=>?_,t6,t7,t8,h.lo⟩
 ·obtain ⟨a1,a2,a3⟩:=t1.block k h1 h2 h3
  have hn:¬((k=nk∨k=mb)∨rowB v k):=fun e=>by
   rcases e with (e | e) | e
   ·have:=h.ge.1;omega
   ·have:=h.ge.2;omega
   ·have:=(h.ro.lt k e).1;omega
  exact⟨(e6 k (Nat.lt_of_lt_of_le h1 t1.size) hn).trans a1,fun e=>a2 ((ownT.same hp6).1 e),fun e=>a3 ((d6 k).1 e)⟩
 ·exact(Below.heap_setCell _ _ _ _ (fun e=>hnm e)).trans ((hgr'.block nk (Array.getElem?_eq_some_iff.1 t2).1 hnt.symm).trans t2)
 ·unfold World.setCell
  rw [Array.getElem?_modify,if_pos rfl,m6]
  rfl
 ·rw [List.map_append]
  exact hr.same fun k hk=>Below.heap_setCell _ _ _ _ (fun e=>hvm (by rw [show k=mb from e] at hk;exact hk))
 ·intro y hy
  rcases List.mem_append.1 hy with hy | hy
  ·exact h.ok y hy
  ·obtain rfl:=List.mem_singleton.1 hy;exact hx
 ·intro e
  have e:=(d6 k).1 e
  rcases hk with hk | hk
  ·exact t5 k (.inl hk) e
  ·rcases hrow k hk with hk | hk
   ·exact t5 k (.inr hk) e
   ·exact hnD k hk e
theorem TurnA.done (h:TurnA w0 w p nb Y T s cs nm nk mb j out v Tj sj wr):Cx w0 p (FlatJ w0 p nb) (FlatD p nb) Y Tj sj wr∧OStep p (FlatD p nb s w) (FlatD p nb sj wr) w wr:=by
 refine⟨⟨(h.cx.st.fewer (Y:=fun k=>FlatD p nb sj wr k∨Y k) fun k hk=>?_).t,h.cx.b,h.cx.j⟩,h.os⟩
 exact hk.imp id .inl
end
theorem info_made:(Tryz.prog.info? 57).map (fun i=>(i.zero,i.size,i.bytes))=some (some (.agg #[.int .i64 0,.string ByteArray.empty,.slice none 0 0]),3,48):=by kernel_rfl
theorem made_one {k:Int} {nm:ByteArray} {a:Option Addr} {n c:Nat}:∀u ∈ [Value.int .i64 k,.string nm,.slice a n c],u.oneCell'=true:=by
 intro u hu
 simp at hu
 rcases hu with rfl | rfl | rfl <;> rfl
theorem eqL (a b:ByteArray):(a.toList == b.toList)=decide (a=b):=by
 rw [toL,toL]
 by_cases h:a=b
 ·subst h;simp
 ·rw [decide_eq_false h]
  refine beq_eq_false_iff_ne.2 fun e=>h ?_
  cases a
  cases b
  congr 1
  exact Array.ext' e
theorem OStep.more {p:Nat} {D D' D'':Nat→Prop} {w w':World} (h:OStep p D D' w w') (hD:∀k,k<w.heap.size→D'' k→D' k):OStep p D D'' w w':=
 ⟨h.os,h.tape,h.output,h.size,fun k h1 h2 h3=>by
  obtain ⟨a1,a2,a3⟩:=h.block k h1 h2 h3
  exact⟨a1,a2,fun e=>a3 (hD k h1 e)⟩⟩
theorem turn_push {w0 w u w5 w6 w7:World} {p nb bm nk mb n:Nat} {Y:Nat→Prop} {T T':TermD} {s sj:FlS} {vm vr v':Value} {am:Option Addr} {cm:Nat} {k:Int} {nm:ByteArray} {out:List Int} {css:List (List Value)}
  (hc:Cx w0 p (FlatJ w0 p nb) (FlatD p nb) (fun k=>Y k∨((k=nk∨k=mb)∨rowB (.slice am n cm) k)) T sj u) (hos:OStep p (FlatD p nb s w) (FlatD p nb sj u) w u) (hge:w.heap.size≤nk∧w.heap.size≤mb) (hlo:w0.heap.size≤w.heap.size) (hnd:∀k,((k=nk∨k=mb)∨rowB (.slice am n cm) k)→¬FlatD p nb sj u k)
  (I:St w0 p { T' with X:=fun k=>FlatD p nb sj u k∨(Y k∨((k=nk∨k=mb)∨rowB (.slice am n cm) k)) } w5) (S:TStep p u w5)
  (e6:∀j,j≠mb→w6.heap[j]? = w5.heap[j]?) (z6:w6.heap.size=w5.heap.size) (o6:w6.os=w5.os∧w6.tape=w5.tape∧w6.output=w5.output)
  (FD:FlatAt w0 p nb sj w6 bm vm vr) (hi:∀j,FlatD p nb sj w6 j↔FlatD p nb sj u j) (hk:okI k)
  (o1:OwnC w6 w0.heap.size 57 3 vm sj.made.length css.flatten) (o2:css.length=sj.made.length) (o3:∀(j:Nat) (x:MadeD),sj.made[j]? = some x→∃cs,css[j]? = some cs∧repMd.rd (RowB w6 vm sj.made.length) w6 x cs)
  (hn:out.length=n) (hr:OwnC w6 w.heap.size 3 1 (.slice am n cm) n (out.map (Value.int .i64))) (hro:∀x∈out,okI x)
  (hg:w6.grownBy w7 vm.ownBlock) (hl:v'.ownBlock=vm.ownBlock∨∀j,v'.ownBlock=some j→w6.heap.size≤j) (ho:OwnC w7 w0.heap.size 57 3 v' (sj.made.length+1) (css.flatten ++ [.int .i64 k,.string nm,.slice am n cm])) :
  Cx w0 p (FlatJ w0 p nb) (FlatD p nb) Y T' (pushM sj ⟨k,nm,out⟩) (w7.setCell ⟨nb,2,none⟩ v')∧OStep p (FlatD p nb s w) (FlatD p nb (pushM sj ⟨k,nm,out⟩) (w7.setCell ⟨nb,2,none⟩ v')) w (w7.setCell ⟨nb,2,none⟩ v'):=by
 subst hn
 have hi6:=FlatD.iff (s:=sj) FD.blk
 have hnl:nb<w6.heap.size:=(Array.getElem?_eq_some_iff.1 FD.blk).1
 have n1:vm.ownBlock≠some nb:=fun e=>ty_ne (by decide) (FD.md.ty nb e) ⟨_,_,FD.blk⟩
 have b7:=(hg.block nb hnl n1.symm).trans FD.blk
 have v1:v'.ownBlock≠some nb:=fun e=>ty_ne (by decide) (ho.ty nb e) ⟨_,_,b7⟩
 have e8:∀j,j<w6.heap.size→j≠nb→vm.ownBlock≠some j→(w7.setCell ⟨nb,2,none⟩ v').heap[j]? = w6.heap[j]?:=fun j h1 h2 h3=>(Below.heap_setCell _ _ _ _ (fun e=>h2 e)).trans (hg.block j h1 h3.symm)
 have b8:(w7.setCell ⟨nb,2,none⟩ v').heap[nb]? = some (.cells #[.pointer (some ⟨p,0,none⟩),.map (some bm),v',vr] 145 (0,0)):=by
  unfold World.setCell
  rw [Array.getElem?_modify,if_pos rfl,b7]
  rfl
 have hs8:w6.heap.size≤(w7.setCell ⟨nb,2,none⟩ v').heap.size:=by rw [size_set];exact hg.size
 have ho8:OwnC (w7.setCell ⟨nb,2,none⟩ v') w0.heap.size 57 3 v' (sj.made.length+1) (css.flatten ++ [.int .i64 k,.string nm,.slice am out.length cm]):=ho.same fun j e=>Below.heap_setCell _ _ _ _ (fun e2=>v1 (by rw [show j=nb from e2] at e;exact e))
 obtain ⟨zA,zD⟩:=FD.push (m:=⟨k,nm,out⟩) (w':=w7.setCell ⟨nb,2,none⟩ v') hk o1 o2 o3 hr hlo hro (fun j e1 e2=>hnd j (.inr e1) ((hi j).1 e2)) e8 hs8 b8 ho8 hl
 have hxl:=I.t
 obtain ⟨q,u1,u2,m,ha⟩:=hxl
 have hB:Below w0.heap.size w5 (w7.setCell ⟨nb,2,none⟩ v'):=by
  refine⟨hg.os.trans o6.1,hg.tape.trans o6.2.1,hg.output.trans o6.2.2,by rw [←z6];exact hs8,fun j hj=>?_⟩
  have h5:=I.b.size
  refine(e8 j (by omega) (fun e=>?_) (fun e=>?_)).trans (e6 j fun e=>?_)
  ·have:=FD.lt.1;omega
  ·have:=(FD.md.lt j e).1;omega
  ·have:=hge.2;omega
 have hK:∀j,j<w5.heap.size→¬(FlatD p nb sj u j∨((j=nk∨j=mb)∨rowB (.slice am out.length cm) j))→(w7.setCell ⟨nb,2,none⟩ v').heap[j]? = w5.heap[j]?:=fun j h1 h2=>by
  have h3:¬FlatD p nb sj w6 j:=fun e=>h2 (.inl ((hi j).1 e))
  rw [hi6 j] at h3
  exact(e8 j (by omega) (fun e=>h3 (.inl e)) (fun e=>h3 (.inr (.inr (.inl e))))).trans (e6 j fun e=>h2 (.inr (.inl (.inr e))))
 have hD:∀j,FlatD p nb (pushM sj ⟨k,nm,out⟩) (w7.setCell ⟨nb,2,none⟩ v') j→(FlatD p nb sj u j∨((j=nk∨j=mb)∨rowB (.slice am out.length cm) j))∨w5.heap.size≤j:=fun j hj=>by
  rcases (zD j hj).1 with h | h | h
  ·exact .inl (.inl ((hi j).1 h))
  ·exact .inl (.inr (.inr h))
  ·exact .inr (by omega)
 refine⟨cx_turn (D0:=fun j=>FlatD p nb sj u j∨((j=nk∨j=mb)∨rowB (.slice am out.length cm) j)) (I.fewer (Y:=fun j=>(FlatD p nb sj u j∨((j=nk∨j=mb)∨rowB (.slice am out.length cm) j))∨Y j) fun j hj=>?_) hB hK ⟨_,_,_,zA⟩ fun j hj=>⟨hD j hj,(zD j hj).2⟩,?_⟩
 ·rcases hj with (hj | hj) | hj
  ·exact .inl hj
  ·exact .inr (.inr hj)
  ·exact .inr (.inl hj)
 ·have h1:OStep p (FlatD p nb s w) (fun j=>FlatD p nb sj u j∨((j=nk∨j=mb)∨rowB (.slice am out.length cm) j)) w u:=hos.more fun j hj e=>by
   rcases e with e | (e | e) | e
   ·exact e
   ·have:=hge.1;omega
   ·have:=hge.2;omega
   ·have:=(hr.lt j e).1;omega
  refine h1.trans (os_turn (w0:=w0) (OStep.ofT S fun _ e=>e) ⟨I.t.plt,fun j hj=>?_⟩ hB hK hD)
  rcases hj with hj | hj
  ·exact(ha.xlt j (.inl hj)).2.1
  ·exact(ha.xlt j (.inr (.inr hj))).2.1
theorem findM_hit {P:MadeD→Bool} {l:List MadeD} {i:Nat} {x:MadeD} (h:∀j y,j<i→l[j]? = some y→P y=false) (hx:l[i]? = some x) (hp:P x=true):l.find? P=some x:=by
 obtain ⟨hi,rfl⟩:=List.getElem?_eq_some_iff.1 hx
 exact List.find?_eq_some_iff_getElem.2 ⟨hp,i,hi,rfl,fun j hj=>by rw [h j _ hj (List.getElem?_eq_getElem (by omega))];rfl⟩
theorem findM_miss {P:MadeD→Bool} {l:List MadeD} (h:∀j y,j<l.length→l[j]? = some y→P y=false):l.find? P=none:=by
 refine List.find?_eq_none.2 fun x hx=>?_
 obtain ⟨i,hi,rfl⟩:=List.getElem_of_mem hx
 rw [h i _ hi (List.getElem?_eq_getElem hi)]
 exact Bool.false_ne_true
def FlatPost (w0:World) (p nb:Nat) (Y:Nat→Prop) (s:FlS) (R:(Int × Bool × Int) × TermD × FlS) (w:World) (e:Ending) (w':World):Prop:=
 e = .returned (.tuple #[.int .i64 R.1.1,.bool R.1.2.1,.int .i64 R.1.2.2])∧Cx w0 p (FlatJ w0 p nb) (FlatD p nb) Y R.2.1 R.2.2 w'∧OStep p (FlatD p nb s w) (FlatD p nb R.2.2 w') w w'
theorem argsD_snoc {l out:List Int} {Tj:TermD} {sj:FlS} {R:(List Int × Int) × TermD × FlS} {j:Nat} (h:R=argsD (l.drop j) out Tj sj) (hj:j<l.length) :
  R=if (nameD Tj sj (nth l j)).1.2=0 then argsD (l.drop (j+1)) (out ++ [(nameD Tj sj (nth l j)).1.1]) (nameD Tj sj (nth l j)).2.1 (nameD Tj sj (nth l j)).2.2 else((out,(nameD Tj sj (nth l j)).1.2),(nameD Tj sj (nth l j)).2.1,(nameD Tj sj (nth l j)).2.2):=by
 rw [h,List.drop_eq_getElem_cons hj,←nth_eq hj]
 rfl
theorem flat1_any {w0:World} (hE:EnvT w0) (p nb:Nat) (Y:Nat→Prop) (T:TermD) (s:FlS) (w:World) (id:Int) (n:NodeD) (a b g:Option Addr) (c d e:Nat) (h:Cx w0 p (FlatJ w0 p nb) (FlatD p nb) Y T s w) (hG:TermG T) (hF:T.fresh≤1000000000000) (hZ:szF s≤1000000000000) (hN:NodeG n) (hn:NodeS (fun k=>DatB w k∧¬FlatD p nb s w k) w n a c b d g e) :
  Calls Tryz.prog 83 #[.pointer (some ⟨nb,0,none⟩),.int .i64 id,nodeV n a c b d g e] w fun e w'=>FlatPost w0 p nb Y s (flatF T s id n) w e w':=by
 have hE':=hid hE
 have hC:=hid h
 have hG':=hid hG
 have hdef:=@hid (flatF T s id n=if appliedN n then flatR n.name n.sort (argsD n.args [] T s) else((0,false,0),T,s)) rfl
 have hal:=hid hN.args
 have hN':=hid hn
 have hap:=applied_any n a c b d g e (w.alloc (.cells (nodeC n a c b d g e).toArray 38))
 obtain ⟨op,nm,⟨ng,nu,de⟩,args,so⟩:=n
 dsimp only [nodeC] at hdef hal hap
 have hap':=hid hap
 have hb0:Below w.heap.size w (w.alloc (.cells #[.int .i64 op,.string nm,.bool ng,.slice a nu.length c,.slice b de.length d,.slice g args.length e,.int .i64 so] 38)):=(Below.refl _ _).alloc (Nat.le_refl _) _
 have hX0:=heap_alloc_new w (.cells #[.int .i64 op,.string nm,.bool ng,.slice a nu.length c,.slice b de.length d,.slice g args.length e,.int .i64 so] 38)
 have B0:=hid hb0
 have hso:=hid (show okI so from hn.sort)
 have hsz1:w.heap.size<(w.alloc (.cells #[.int .i64 op,.string nm,.bool ng,.slice a nu.length c,.slice b de.length d,.slice g args.length e,.int .i64 so] 38)).heap.size:=by simp
 generalize hw1:w.alloc (.cells #[.int .i64 op,.string nm,.bool ng,.slice a nu.length c,.slice b de.length d,.slice g args.length e,.int .i64 so] 38)=w1 at *
 have r0:=cell_p hX0 0
 have r1:=cell_p hX0 1
 have r2:=cell_p hX0 2
 have r3:=cell_p hX0 3
 have r4:=cell_p hX0 4
 have r5:=cell_p hX0 5
 have r6:=cell_p hX0 6
 simp only [List.getElem?_toArray,List.getElem?_cons_succ,List.getElem?_cons_zero] at r0 r1 r2 r3 r4 r5 r6
 have X0:=hid hX0
 clear hE h hG hN hn hb0 hap hX0
 cases happ:appliedN ⟨op,nm,⟨ng,nu,de⟩,args,so⟩
 case false=>
  rw [happ] at hap' hdef
  have hv:=@hid (flatF T s id ⟨op,nm,⟨ng,nu,de⟩,args,so⟩=((0,false,0),T,s)) hdef.out
  clear hdef happ
  go_enter Tryz.func83,Tryz.ntmps83
  go_wp2_with fail
  refine hap'.out.mono ?_;rintro e1 w2 ⟨rfl,hb2⟩
  have B2:=hid (B0.out.trans (hb2.mono B0.out.size))
  clear hb2 hap'
  go_wp2
  go_ret3
  have z:=hC.out.allK (flat_keep w0 p nb) B2.out
  exact⟨by rw [hv.out];rfl,by rw [hv.out];exact z.1,by rw [hv.out];exact OStep.ofBelow hC.out.plt B2.out fun k _ e=>(z.2 k).1 e⟩
 case true=>
  rw [happ] at hap' hdef
  have hd2:=@hid (flatF T s id ⟨op,nm,⟨ng,nu,de⟩,args,so⟩=flatR nm so (argsD args [] T s)) hdef.out
  have hA:=@hid (argsD args [] T s=argsD (args.drop 0) [] T s) rfl
  generalize argsD args [] T s=AA at *
  clear hdef happ
  go_enter Tryz.func83,Tryz.ntmps83
  go_wp2_with fail
  refine hap'.out.mono ?_;rintro e1 w2 ⟨rfl,hb2⟩
  have hB2:=B0.out.trans (hb2.mono B0.out.size)
  have X2:=(hb2.block _ hsz1).trans X0.out
  have r1:=cell_p X2 1
  have hb3:=hB2.alloc hB2.size (.cells #[.int .i64 0,.string nm,.slice none 0 0] 57)
  have X3:=(Below.heap_alloc w2 (.cells #[.int .i64 0,.string nm,.slice none 0 0] 57) w.heap.size (Nat.lt_of_lt_of_le hsz1 hb2.size)).trans X2
  have M3:=heap_alloc_new w2 (.cells #[.int .i64 0,.string nm,.slice none 0 0] 57)
  have r5:=cell_p X3 5
  simp only [List.getElem?_toArray,List.getElem?_cons_succ,List.getElem?_cons_zero] at r1 r5
  have TA0:=hid (show TurnA w0 w p nb Y T s #[.int .i64 op,.string nm,.bool ng,.slice a nu.length c,.slice b de.length d,.slice g args.length e,.int .i64 so] nm w.heap.size w2.heap.size 0 [] (.slice none 0 0) T s (w2.alloc (.cells #[.int .i64 0,.string nm,.slice none 0 0] 57)) from by
   obtain ⟨c3,d3⟩:=hC.out.allK (flat_keep w0 p nb) hb3
   have hge:w.heap.size≤w2.heap.size:=hB2.size
   have I:=hC.out.st.more (Y:=fun k=>FlatD p nb s w k∨(Y k∨((k=w.heap.size∨k=w2.heap.size)∨rowB (.slice none 0 0) k))) hb3 fun k hk=>by
    rcases hk with hk | hk | (hk | hk) | hk
    ·exact .inl (.inl hk)
    ·exact .inl (.inr hk)
    ·subst hk;exact .inr ⟨Nat.le_refl _,(Array.getElem?_eq_some_iff.1 X3).1⟩
    ·subst hk;exact .inr ⟨hge,(Array.getElem?_eq_some_iff.1 M3).1⟩
    ·cases hk
   refine⟨(hC.out.sameK (flat_keep w0 p nb) I (fun k hk=>hb3.block k (hC.out.x (.inl hk)).1) hb3.size).1,OStep.ofBelow hC.out.plt hb3 fun k _ e=>(d3 k).1 e,X3,M3,OwnC.nil _ _ _ _,fun _ hx=>(by simp at hx),⟨Nat.le_refl _,hge⟩,fun k hk e=>?_,GrowT.refl hG'.out,Nat.le_refl _,rfl,hC.out.b.size⟩
   have:=(hC.out.x (.inl ((d3 k).1 e))).1
   rcases hk with (hk | hk) | hk
   ·omega
   ·omega
   ·cases hk)
  clear hb2 hB2 X2 hb3 X3 M3 hap' r0 r2 r3 r4 r6
  go_wp2
  generalize hw3:w2.alloc (.cells #[.int .i64 0,.string nm,.slice none 0 0] 57)=w3 at *
  generalize hmb:w2.heap.size=mb at *
  clear hw3 hmb hw1
  go_loopw [6,7,8,11,12,13,27] (fun v6 v7 v8 _ _ _ v27 wr=>∃(j:Nat) (out:List Int) (v:Value) (Tj:TermD) (sj:FlS),j≤args.length∧v6 = .int .i64 0∧v7 = .bool false∧v8 = .int .i64 0∧v27 = .int .i64 j∧Hid (AA=argsD (args.drop j) out Tj sj)∧Hid (TurnA w0 w p nb Y T s #[.int .i64 op,.string nm,.bool ng,.slice a nu.length c,.slice b de.length d,.slice g args.length e,.int .i64 so] nm w.heap.size mb j out v Tj sj wr)) (fun _ _ _ _ _ _ v27 _=>args.length - (intOf v27).toNat)
  case atStart=>exact⟨0,[],_,T,s,Nat.zero_le _,rfl,rfl,rfl,rfl,hA.out,TA0.out⟩
  case round=>
   obtain ⟨j,out,v,Tj,sj,hj,rfl,rfl,rfl,rfl,hR,hT⟩:=hrel
   have hal':args.length≤64:=hal.out
   have hTf:Tj.fresh≤1000000000000+64:=by have:=hT.out.g.fr;omega
   have hTc:sj.cnt≤1000000000000+64:=by have:=hT.out.cn;unfold szF at hZ;omega
   by_cases hlt:j<args.length
   ·have hji:(j:Int)<args.length:=by omega
    have hrd:RdI wr g args.length args:=(hN'.out.args.keep (w':=wr) (fun k hk hd=>by
     have hd':=hd
     obtain ⟨q,u1,u2,m,ha⟩:=hC.out.t
     exact(hT.out.os.block k hk (ha.notDat hd.1) hd.2).1) hT.out.os.size).toI
    obtain ⟨bg,og,rfl,kj⟩:=hrd.at j hlt
    have hao:okI (nth args j):=hrd.wf _ (nth_mem hlt)
    have hst:=argsD_snoc hR.out hlt
    have hnm:=name_any hE'.out p nb _ Tj sj wr (nth args j) hT.out.cx hT.out.g.g (by omega) (by omega) hao
    have hgr:=hid (name_grow hT.out.g.g (by omega) sj (by obtain ⟨bm,vm,vr,fa⟩:=hT.out.cx.j;exact fa.ok) (nth args j))
    have hst':=hid hst
    have hnm':=hid hnm
    have hao':=hid hao
    generalize nth args j=x at *
    generalize nameD Tj sj x=M at *
    obtain ⟨⟨k,er⟩,T5,s5⟩:=M
    dsimp only at hst' hgr
    unfold NamePost at hnm'
    dsimp only at hnm'
    clear hrd hst hnm hao
    go_wp2_with fail
    refine hnm'.out.mono ?_;rintro e1 w5 ⟨rfl,cx5,os5⟩
    have C5:=hid cx5
    have O5:=hid os5
    have S5:=hid (hT.out.step os5 hgr.out.1 hgr.out.2.2.1 hgr.out.2.2.2.1)
    clear cx5 os5 hnm' kj
    by_cases her:er=0
    case neg=>
     have hs2:=hst'.out
     rw [if_neg her] at hs2
     have hv:=hd2.out
     rw [hs2] at hv
     unfold flatR at hv
     dsimp only at hv
     rw [if_neg her] at hv
     have hv':=hid hv
     clear hv hs2
     go_wp2
     go_ret3
     refine⟨by rw [hv'.out];rfl,?_,by rw [hv'.out];exact S5.out.1⟩
     rw [hv'.out]
     exact⟨(C5.out.st.fewer (Y:=fun k=>FlatD p nb s5 w5 k∨Y k) fun k hk=>hk.imp (fun h=>h) .inl).t,C5.out.b,C5.out.j⟩
    case pos=>
     subst her
     have hs2:=hst'.out
     rw [if_pos rfl] at hs2
     have hs3:=hid hs2
     obtain ⟨av,cv,rfl,hcv1,hcv2⟩:=hT.out.ro.slice
     have mm:=S5.out.2.2.1
     have q2:w5.cell? ⟨mb,2,none⟩=some (.slice av j cv):=cell_p mm 2
     have ho5:=S5.out.2.2.2.1
     obtain ⟨i0,hi0,hz0,hz1,hz2⟩:=info_parts info_int
     have hsz5:w.heap.size≤w5.heap.size:=S5.out.1.size
     have hmm:=hid mm
     clear hs2 hst' mm
     go_wp2_with (at_builtin;refine wpList_append_C rfl (.tmp 41) (.tmp 43) rfl Tryz.underlying23 hi0 hz0 hz1 hz2 rfl (by decide) rfl rfl (ho5.alloc (.cells #[.int .i64 k] 3)) (Src.one (b:=w5.heap.size) (news:=[.int .i64 k]) rfl ?c1) ?c2 ?c3 ?c4 ?c5 ?_)
     case c1=>intro j u hu;rw [World.cell?_alloc_new];simpa using hu
     case c2=>intro u hu;simp at hu;subst hu;rfl
     case c3=>unfold maxLen;omega
     case c4=>omega
     case c5=>first | omega | (simp;omega)
     intro v' w6 ho6 hg6 hl6
     obtain ⟨a6,c6,rfl,_,_⟩:=ho6.slice
     have hmt:(Value.slice av j cv).ownBlock≠some mb:=fun e=>ty_ne (by decide) (ho5.ty mb e) ⟨_,_,hmm.out⟩
     have m6:=((grown_alloc hg6).block mb (Array.getElem?_eq_some_iff.1 hmm.out).1 hmt.symm).trans hmm.out
     have y2:w6.cell? ⟨mb,2,none⟩=some (.slice av j cv):=cell_p m6 2
     have f2:w6.frozen? ⟨mb,2,none⟩=false:=frz_p m6 2
     have P6:=hid (hT.out.push (v':=.slice a6 (j+1) c6) C5.out O5.out hgr.out.1 hgr.out.2.2.1 hgr.out.2.2.2.1 (hgr.out.2.1 hao'.out) hg6 (hl6.imp (fun h=>h) fun h j e=>Nat.le_of_succ_le (h j e)) ho6)
     clear ho6 hg6 hl6 hmt m6 ho5
     go_wp2
     go_roundw
     case rel=>exact⟨j+1,_,_,_,_,by omega,rfl,rfl,rfl,by go_num,hs3.out,P6.out⟩
     case measure=>simp [intOf];omega
   ·obtain rfl:j=args.length:=by omega
    have hAA:=hR.out
    rw [List.drop_length] at hAA
    have hAA:AA=((out,0),Tj,sj):=hAA
    have hd3:=hd2.out
    rw [hAA] at hd3
    unfold flatR at hd3
    dsimp only at hd3
    rw [if_pos rfl] at hd3
    have hd4:=hid hd3
    obtain ⟨bm,vm,vr,fa⟩:=hT.out.cx.j
    obtain ⟨am,cm,rfl,hcm1,hcm2⟩:=fa.md.slice
    have FA:=hid fa
    have q2:wr.cell? ⟨nb,2,none⟩=some (.slice am sj.made.length cm):=cell_p fa.blk 2
    have hml:sj.made.length≤1000000000000:=by have:=hT.out.md;unfold szF at hZ;rw [this];omega
    have hol:=hid (show out.length=args.length from by have:=hT.out.ro.1;simpa using this)
    obtain ⟨u,rfl⟩:∃u,u=wr:=⟨_,rfl⟩
    have r6:=cell_p hT.out.nn 6
    simp only [List.getElem?_toArray,List.getElem?_cons_succ,List.getElem?_cons_zero] at r6
    have q0:u.cell? ⟨nb,0,none⟩=some (.pointer (some ⟨p,0,none⟩)):=cell_p fa.blk 0
    obtain ⟨av,cv,rfl,hcv1,hcv2⟩:=hT.out.ro.slice
    have hmlt:mb<u.heap.size:=(Array.getElem?_eq_some_iff.1 hT.out.mm).1
    clear fa hAA hd3 hd2 hR hA
    go_wp2
    go_loopw [6,7,8,15,52] (fun v6 v7 v8 _ v52 ww=>∃i:Nat,i≤sj.made.length∧v6 = .int .i64 0∧v7 = .bool false∧v8 = .int .i64 0∧v52 = .int .i64 i∧Hid (∀j y,j<i→sj.made[j]? = some y→alikeM nm out y=false)∧Hid (Below u.heap.size u ww)) (fun _ _ _ _ v52 _=>sj.made.length - (intOf v52).toNat)
    case atStart=>exact⟨0,Nat.zero_le _,rfl,rfl,rfl,rfl,fun j _ hj=>absurd hj (Nat.not_lt_zero _),Below.refl _ _⟩
    case round=>
     obtain ⟨i,hi,rfl,rfl,rfl,rfl,hno,hB⟩:=hrel
     obtain ⟨ww,rfl⟩:∃ww,ww=wr:=⟨_,rfl⟩
     by_cases hli:i<sj.made.length
     ·have hii:(i:Int)<sj.made.length:=by omega
      obtain ⟨x,hx⟩:∃x,sj.made[i]? = some x:=⟨_,List.getElem?_eq_getElem hli⟩
      obtain ⟨bx,ox,cs,rfl,_,hrd,hcs⟩:=((FA.out.md.below hB.out (Nat.le_refl _)).read (S':=fun _=>True) (fun _ _ _=>trivial) (fun _ _=>trivial)).at hx
      obtain ⟨ax,cx,rfl,hxv,hx1,hx2,hxa⟩:=repMd_rd.1 hrd
      have hcs:∀(k:Nat) (v:Value),[Value.int .i64 x.var,.string x.fn,.slice ax x.args.length cx][k]? = some v→ww.cell? ⟨bx,ox+i * 3+k,none⟩=some v:=hcs
      have y0:=hcs 0 _ rfl
      rw [Nat.add_zero] at y0
      have y1:=hcs 1 _ rfl
      have y2:=hcs 2 _ rfl
      have hB3:=hB.out.alloc hB.out.size (.cells #[.int .i64 x.var,.string x.fn,.slice ax x.args.length cx] 57)
      have O3:=heap_alloc_new ww (.cells #[.int .i64 x.var,.string x.fn,.slice ax x.args.length cx] 57)
      have M3:=(hB3.block mb hmlt).trans hT.out.mm
      have hxa3:=hxa.toI.below ((Below.refl _ _).alloc (Nat.le_refl ww.heap.size) (.cells #[.int .i64 x.var,.string x.fn,.slice ax x.args.length cx] 57)) (Nat.le_refl _)
      have hra3:=(OwnC.rdX hT.out.ro hT.out.ok).below hB3 (Nat.le_refl _)
      generalize hw3:ww.alloc (.cells #[.int .i64 x.var,.string x.fn,.slice ax x.args.length cx] 57)=w3 at *
      have heq:=hid (eqI_any ax av x.args.length args.length cx cv x.args out w3 hxa3 hra3 (by unfold maxLen at hx2;omega) (by omega))
      have o0:=cell_p O3 0
      have o1:=cell_p O3 1
      have o2:=cell_p O3 2
      have m1:=cell_p M3 1
      have m2:=cell_p M3 2
      simp only [List.getElem?_toArray,List.getElem?_cons_succ,List.getElem?_cons_zero] at o0 o1 o2 m1 m2
      have B3:=hid hB3
      have hal2:=@hid (alikeM nm out x=(decide (x.fn=nm) && decide (x.args=out))) rfl
      have hL:=eqL x.fn nm
      clear hrd hcs hxa hxa3 hra3 O3 M3 hB3 r1 r5
      cases hfe:decide (x.fn=nm)
      case false=>
       rw [hfe] at hL hal2
       have hno2:=@hid (∀j y,j<i+1→sj.made[j]? = some y→alikeM nm out y=false) (fun j y hj hy=>by
        by_cases hji:j<i
        ·exact hno.out j y hji hy
        ·obtain rfl:j=i:=by omega
         rw [hx] at hy
         injection hy with hy
         rw [←hy];exact hal2.out)
       clear hx hfe hal2
       go_wp2
       go_roundw
       case rel=>exact⟨i+1,by omega,rfl,rfl,rfl,by go_num,hno2.out,B3.out⟩
       case measure=>simp [intOf];omega
      case true=>
       rw [hfe] at hL hal2
       cases hae:decide (x.args=out)
       case false=>
        rw [hae] at heq hal2
        have hno2:=@hid (∀j y,j<i+1→sj.made[j]? = some y→alikeM nm out y=false) (fun j y hj hy=>by
         by_cases hji:j<i
         ·exact hno.out j y hji hy
         ·obtain rfl:j=i:=by omega
          rw [hx] at hy
          injection hy with hy
          rw [←hy];exact hal2.out)
        clear hx hfe hae hal2
        go_wp2_with fail
        refine heq.out.mono ?_;rintro e1 w4 ⟨rfl,qq,hw4⟩
        have B4:=hid (show Below u.heap.size u w4 from by rw [hw4];exact B3.out.drewN qq)
        clear hw4 heq
        go_wp2
        go_roundw
        case rel=>exact⟨i+1,by omega,rfl,rfl,rfl,by go_num,hno2.out,B4.out⟩
        case measure=>simp [intOf];omega
       case true=>
        rw [hae] at heq hal2
        have hf:=hd4.out
        rw [findM_hit hno.out hx hal2.out] at hf
        have hf':=hid hf
        clear hx hfe hae hal2 hf
        go_wp2_with fail
        refine heq.out.mono ?_;rintro e1 w4 ⟨rfl,qq,hw4⟩
        have B4:=hid (show Below u.heap.size u w4 from by rw [hw4];exact B3.out.drewN qq)
        have o0:w4.cell? ⟨ww.heap.size,0,none⟩=some (.int .i64 x.var):=by rw [hw4];exact o0
        clear hw4 heq
        go_wp2
        go_ret3
        have z:=(hT.out.all B4.out).done
        exact⟨by rw [hf'.out];rfl,by rw [hf'.out];exact z.1,by rw [hf'.out];exact z.2⟩
     ·obtain rfl:i=sj.made.length:=by omega
      have hf:=hd4.out
      rw [findM_miss hno.out] at hf
      have hf':=hid hf
      have TB:=hid (hT.out.all hB.out)
      have TD:=hid (TB.out.all (keep_drew ww))
      have r6:=cell_p TB.out.nn 6
      obtain ⟨bm2,vm2,vr2,fb⟩:=TB.out.cx.j
      have q0:ww.cell? ⟨nb,0,none⟩=some (.pointer (some ⟨p,0,none⟩)):=cell_p fb.blk 0
      simp only [List.getElem?_toArray,List.getElem?_cons_succ,List.getElem?_cons_zero] at r6
      have hfr:=fresh_any w0.heap.size p _ so ww.drew TD.out.cx.t (TD.out.g.g.ok.sm.X _) (TD.out.cx.st.env hE'.out) hso.out
      unfold FreshPost at hfr
      rw [freshD_X] at hfr
      dsimp only at hfr
      have hfr':=hid hfr
      have hG5:=hid (TD.out.g.g.fresh so (by omega)).g
      have hbd:=hid (put_bdF TD.out.g.g so)
      generalize freshD Tj so=M at *
      obtain ⟨⟨k,er⟩,T5⟩:=M
      dsimp only at hf' hfr' hG5 hbd
      clear hf hd4 hfr fb r1 r5 hno
      go_wp2
      have hS0:=hid (And.intro q0 r6)
      clear q0 r6
      refine wp_region_tt (S:=fun W=>W.cell? ⟨nb,0,none⟩=_∧W.cell? ⟨w.heap.size,6,none⟩=some (.int .i64 so)) 11 (by kernel_rfl) (by kernel_rfl) hS0.out (fun hHeld=>?_)
      refine tk (i:=0) (h:=?_)
      (try simp only [Act.put,sA,sB,sC])
      refine tk (i:=1) (h:=?_)
      (try simp only [Act.put,sA,sB,sC])
      refine tk (i:=2) (h:=?_)
      (try simp only [Act.put,sA,sB,sC])
      refine tk (i:=3) (hy:=(Or.inl ⟨by rfl,by(intro W hSw;have hq1:=hSw.1;go_simp <;> with_reducible rfl)⟩)) (h:=?_)
      (try simp only [Act.put,sA,sB,sC])
      refine tk (i:=4) (h:=?_)
      (try simp only [Act.put,sA,sB,sC])
      refine tk (i:=5) (hy:=(Or.inl ⟨by rfl,by(intro W hSw;have hq1:=hSw.2;go_simp <;> with_reducible rfl)⟩)) (h:=?_)
      (try simp only [Act.put,sA,sB,sC])
      refine tt_ready (rs:=[6]) (by decide +kernel) (allT_cons (by rfl) (fun K hK=>?_) allT_nil)
      go_simp
      go_at_call 74
      refine hfr'.out.mono ?_;rintro e1 w5 ⟨rfl,t5,s5⟩
      have I5:=hid (TD.out.cx.st.step t5 s5)
      have D5:=hid (show ∀k,FlatD p nb sj ww.drew k→w5.heap[k]? = ww.drew.heap[k]? from fun k hk=>TD.out.cx.st.own (.inl hk) s5)
      have K5:=hid (show ∀k,((k=w.heap.size∨k=mb)∨rowB (.slice av args.length cv) k)→w5.heap[k]? = ww.drew.heap[k]? from fun k hk=>TD.out.cx.st.own (.inr (.inr hk)) s5)
      have S5:=hid s5
      clear t5 s5 hfr'
      dsimp only
      refine hK.out _ _ (by(exact⟨by(obtain ⟨bm3,vm3,vr3,fd⟩:=TD.out.cx.j;exact cell_p (fd.keep D5.out S5.out.size).1.blk 0),cell_p ((K5.out _ (.inl (.inl rfl))).trans TD.out.nn) 6⟩)) (fun hHeld2=>?_)
      clear hK K
      (try simp only [Act.put,sA,sB,sC])
      refine tk (i:=7) (h:=?_)
      (try simp only [Act.put,sA,sB,sC])
      refine tk (i:=8) (h:=?_)
      (try simp only [Act.put,sA,sB,sC])
      refine tk (i:=9) (h:=?_)
      (try simp only [Act.put,sA,sB,sC])
      refine tk (i:=10) (h:=?_)
      (try simp only [Act.put,sA,sB,sC])
      refine tt_tail (by decide +kernel) ?_
      simp only [List.drop_succ_cons,List.drop_zero]
      clear hS0
      by_cases her:er=0
      case neg=>
       have hv:=hf'.out
       rw [if_neg her] at hv
       have hv':=hid hv
       clear hv
       go_wp2
       go_ret3
       obtain ⟨z1,z2⟩:=TD.out.cx.sameK (flat_keep w0 p nb) I5.out D5.out S5.out.size
       refine⟨by rw [hv'.out];rfl,?_,?_⟩
       ·rw [hv'.out];exact⟨(z1.st.fewer (Y:=fun k=>FlatD p nb sj w5 k∨Y k) fun k hk=>hk.imp (fun h=>h) .inl).t,z1.b,z1.j⟩
       ·rw [hv'.out];exact TD.out.os.trans (OStep.ofT S5.out fun k e=>(z2 k).1 e)
      case pos=>
       subst her
       have hv:=hf'.out
       rw [if_pos rfl] at hv
       have hv':=hid hv
       obtain ⟨bm3,vm3,vr3,fd⟩:=TD.out.cx.j
       have FD5:=hid (fd.keep D5.out S5.out.size)
       have mk5:=(K5.out mb (.inl (.inr rfl))).trans TD.out.mm
       have rw5:=TD.out.ro.same fun k hk=>K5.out k (.inr hk)
       have y0:w5.cell? ⟨mb,0,none⟩=some (.int .i64 0):=cell_p mk5 0
       have f0:w5.frozen? ⟨mb,0,none⟩=false:=frz_p mk5 0
       have mk6:(w5.setCell ⟨mb,0,none⟩ (.int .i64 k)).heap[mb]? = some (.cells #[.int .i64 k,.string nm,.slice av args.length cv] 57 (0,0)):=by
        unfold World.setCell
        rw [Array.getElem?_modify,if_pos rfl,mk5]
        rfl
       have e6:∀j,j≠mb→(w5.setCell ⟨mb,0,none⟩ (.int .i64 k)).heap[j]? = w5.heap[j]?:=fun j hj=>Below.heap_setCell _ _ _ _ (fun e=>hj e)
       have z6:(w5.setCell ⟨mb,0,none⟩ (.int .i64 k)).heap.size=w5.heap.size:=size_set
       have o6:(w5.setCell ⟨mb,0,none⟩ (.int .i64 k)).os=w5.os∧(w5.setCell ⟨mb,0,none⟩ (.int .i64 k)).tape=w5.tape∧(w5.setCell ⟨mb,0,none⟩ (.int .i64 k)).output=w5.output:=⟨rfl,rfl,rfl⟩
       go_wp2
       generalize hw6:w5.setCell ⟨mb,0,none⟩ (.int .i64 k)=w6 at *
       have hDmb:∀j,FlatD p nb sj ww.drew j→j≠mb:=fun j hj e=>TD.out.nd j (.inl (.inr e)) hj
       have FD6:=hid (FD5.out.1.keep (w':=w6) (fun j hj=>e6 j (hDmb j ((FD5.out.2 j).1 hj))) (Nat.le_of_eq z6.symm))
       obtain ⟨am3,cm3,rfl,hcm3,hcm4⟩:=FD6.out.1.md.slice
       have MK6:=hid mk6
       have hnl6:nb<w6.heap.size:=(Array.getElem?_eq_some_iff.1 FD6.out.1.blk).1
       have hml6:mb<w6.heap.size:=(Array.getElem?_eq_some_iff.1 mk6).1
       have hDm6:=hid (show(Value.slice am3 sj.made.length cm3).ownBlock≠some mb from fun e=>hDmb mb ((FD5.out.2 mb).1 ((FD6.out.2 mb).1 ((FlatD.iff FD6.out.1.blk mb).2 (.inr (.inr (.inl e)))))) rfl)
       have rw6:=hid (rw5.same (w':=w6) fun j hj=>e6 j fun e=>ty_ne (by decide) (rw5.ty j hj) ⟨_,_,e ▸ mk5⟩)
       obtain ⟨css,oc,ol,oe⟩:=FD6.out.1.md
       have OC:OwnC w6 w0.heap.size 57 3 (.slice am3 sj.made.length cm3) sj.made.length css.flatten:=oc
       have OL:=hid ol
       have OE:=hid oe
       have E6:=hid e6
       have Z6:=hid z6
       have O6:=hid o6
       obtain ⟨i0,hi0,hz0,hz1,hz2⟩:=info_parts info_made
       have hs06:w0.heap.size≤w6.heap.size:=by have:=I5.out.b.size;omega
       clear hv mk5 rw5 y0 f0 mk6 e6 z6 o6 hDmb oc ol oe fd hw6
       refine wp_region_tt (S:=fun W=>W.heap[nb]? = some (.cells #[.pointer (some ⟨p,0,none⟩),.map (some bm3),.slice am3 sj.made.length cm3,vr3] 145 (0,0))∧W.heap[mb]? = some (.cells #[.int .i64 k,.string nm,.slice av args.length cv] 57 (0,0))) 8 (by kernel_rfl) (by kernel_rfl) ⟨FD6.out.1.blk,MK6.out⟩ (fun hHeld=>?_)
       refine tk (i:=0) (h:=?_)
       (try simp only [Act.put,sA,sB,sC])
       refine tk (i:=1) (h:=?_)
       (try simp only [Act.put,sA,sB,sC])
       refine tk (i:=2) (h:=?_)
       (try simp only [Act.put,sA,sB,sC])
       refine tk (i:=3) (h:=?_)
       (try simp only [Act.put,sA,sB,sC])
       refine tk (i:=4) (hy:=(Or.inl ⟨by rfl,by(intro W hSw;have hq1:W.cell? ⟨nb,2,none⟩=some (.slice am3 sj.made.length cm3):=cell_p hSw.1 2;go_simp <;> with_reducible rfl)⟩)) (h:=?_)
       (try simp only [Act.put,sA,sB,sC])
       refine tk (i:=5) (hy:=(Or.inl ⟨by rfl,by(intro W hSw;have y0:W.cell? ⟨mb,0,none⟩=some (.int .i64 k):=cell_p hSw.2 0;have y1:W.cell? ⟨mb,1,none⟩=some (.string nm):=cell_p hSw.2 1;have y2:W.cell? ⟨mb,2,none⟩=some (.slice av args.length cv):=cell_p hSw.2 2;go_simp <;> with_reducible rfl)⟩)) (h:=?_)
       (try simp only [Act.put,sA,sB,sC])
       refine tt_ready (rs:=[6]) (by decide +kernel) (allT_cons (by rfl) (fun K hK=>?_) allT_nil)
       go_simp
       refine hK.out _ _ (by(exact⟨(Below.heap_alloc _ _ _ hnl6).trans FD6.out.1.blk,(Below.heap_alloc _ _ _ hml6).trans MK6.out⟩)) (fun hHeld2=>?_)
       clear hK K
       (try simp only [Act.put,sA,sB,sC])
       refine tt_ready (rs:=[7]) (by decide +kernel) (allT_cons (by rfl) (fun K hK=>?_) allT_nil)
       refine step_append_C (by rfl) (.tmp 90) (.tmp 92) (by rfl) Tryz.underlying53 hi0 hz0 hz1 hz2 rfl (by decide) (by rfl) (by rfl) ((OC.alloc (.cells #[.int .i64 k,.string nm,.slice av args.length cv] 57)).same (fun _ _=>rfl)) (Src.lit (CellsF.lit (us:=[.int .i64 k,.string nm,.slice av args.length cv]) (by first | rfl | simp)) rfl) made_one (by unfold maxLen;omega) (by omega) (by first | omega | (simp;omega)) ?_
       intro v' w7 ho7 hg7 hl7
       obtain ⟨a7,c7,rfl,_,_⟩:=ho7.slice
       have hg:w6.grownBy w7 (Value.slice am3 sj.made.length cm3).ownBlock:=grown_alloc (o:=.cells #[.int .i64 k,.string nm,.slice av args.length cv] 57) ⟨hg7.os,hg7.tape,hg7.output,hg7.size,hg7.block⟩
       have hl:(Value.slice a7 (sj.made.length+1) c7).ownBlock=(Value.slice am3 sj.made.length cm3).ownBlock∨∀j,(Value.slice a7 (sj.made.length+1) c7).ownBlock=some j→w6.heap.size≤j:=hl7.imp (fun h=>h) fun h j e=>Nat.le_of_succ_le (by have:=h j e;first | exact this | simpa using this)
       have n1:(Value.slice am3 sj.made.length cm3).ownBlock≠some nb:=fun e=>ty_ne (by decide) (OC.ty nb e) ⟨_,_,FD6.out.1.blk⟩
       have n2:(Value.slice am3 sj.made.length cm3).ownBlock≠some mb:=fun e=>hDm6.out e
       have b7:=(hg.block nb hnl6 n1.symm).trans FD6.out.1.blk
       have m7:=(hg.block mb hml6 n2.symm).trans MK6.out
       have q7:w7.cell? ⟨nb,2,none⟩=some (.slice am3 sj.made.length cm3):=cell_p b7 2
       have f7:w7.frozen? ⟨nb,2,none⟩=false:=frz_p b7 2
       have Z:=hid (turn_push (v':=.slice a7 (sj.made.length+1) c7) TD.out.cx TD.out.os TD.out.ge TD.out.lo TD.out.nd I5.out S5.out E6.out Z6.out O6.out FD6.out.1 (fun j=>(FD6.out.2 j).trans (FD5.out.2 j)) hbd.out OC OL.out OE.out hol.out rw6.out TD.out.ok hg hl ho7)
       clear ho7 hg7 hl7 hg hl n1 n2
       refine hK.out _ _ (by(exact⟨b7,m7⟩)) (fun hHeld3=>?_)
       clear hK K
       (try simp only [Act.put,sA,sB,sC])
       refine tt_tail (by decide +kernel) ?_
       simp only [List.drop_succ_cons,List.drop_zero]
       go_wp2
       go_ret3
       exact⟨by rw [hv'.out];rfl,by rw [hv'.out];exact Z.out.1,by rw [hv'.out];exact Z.out.2⟩
theorem flat_ok {w0:World} (hE:EnvT w0) (p nb:Nat):OtherOk w0 p 83 [.pointer (some ⟨nb,0,none⟩)] [] flatF (FlatJ w0 p nb) (FlatD p nb) szF where
 enter:=enters_of Tryz.func83 (by kernel_rfl) rfl
 lt _ _ h k hk:=h.ltD k hk
 keep _ _ _ h hk hs:=h.keep hk hs
 grow T s w id n hj h hf hn:=by
  obtain ⟨bm,vm,vr,fa⟩:=hj
  refine flatF_grow T s id n h hf hn fa.ok fun o ho=>?_
  obtain ⟨css,_,_,h3⟩:=fa.md
  obtain ⟨j,hj,rfl⟩:=List.getElem_of_mem ho
  obtain ⟨cs,_,hr⟩:=h3 j _ (List.getElem?_eq_getElem hj)
  obtain ⟨_,_,_,hv,_⟩:=repMd_rd.1 hr
  exact hv
 call Y T s w id n a c b d g e h hG hF hZ hN _ hn:=flat1_any hE p nb Y T s w id n a b g c d e h hG hF hZ hN hn
end Go.Proofs.YtgoojkiccdjplaaGreatDoor
