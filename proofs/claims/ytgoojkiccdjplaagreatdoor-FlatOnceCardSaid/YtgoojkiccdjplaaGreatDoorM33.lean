/-
  Parts of this claim's texts, one behind the other: DC DD DM. No condition.
-/
import Derived.Test.YtgoojkiccdjplaaGreatDoorM30
import Derived.Test.YtgoojkiccdjplaaGreatDoorM32
set_option linter.unusedVariables false
set_option linter.unusedSimpArgs false
set_option maxRecDepth 100000
set_option maxHeartbeats 16000000
namespace Go.Proofs.YtgoojkiccdjplaaGreatDoor
open Go.RowKit Go.Sort Go.Lib
def nbN (n:NodeD):Bool:=decide (n.op=10) && !decide (n.sort=0)
def Clean (T:TermD) (i:Int):Prop:=∀z,Reach T i z→nbN (nodeAt T z)=false
section
variable {T T0 T' : TermD}
theorem reach_has (ho : OrdT T) {i z : Int} (hi : hasT T i = true) (h : Reach T i z) : hasT T z = true := by
  induction h with
  | refl i => exact hi
  | arg ha _ ih =>
    refine ih ?_
    have h0 := hasT_iff.1 hi
    have := ord_at ho ha
    exact hasT_iff.2 ⟨this.1, by have := this.2 h0.1; omega⟩
theorem has_arg (ho:OrdT T) {i a:Int} (hi:hasT T i=true) (ha:a∈(nodeAt T i).args):hasT T a=true:=reach_has ho hi (.arg ha (.refl a))
theorem reach_ext (h : Ext T T') (ho : OrdT T) {i z : Int} (hi : hasT T i = true) (hr : Reach T' i z) : Reach T i z := by
  induction hr with
  | refl i => exact .refl i
  | arg ha _ ih =>
    rw [h.node hi] at ha
    exact .arg ha (ih (has_arg ho hi ha))
theorem Clean.ext (h:Ext T T') (ho:OrdT T) {i:Int} (hi:hasT T i=true) (hc:Clean T i):Clean T' i:=fun z hz=>by
 have h1:=reach_ext h ho hi hz
 rw [h.node (reach_has ho hi h1)]
 exact hc z h1
theorem Clean.arg {i a:Int} (h:Clean T i) (ha:a∈(nodeAt T i).args):Clean T a:=fun z hz=>h z (.arg ha hz)
theorem Clean.self {i:Int} (h:Clean T i):nbN (nodeAt T i)=false:=h i (.refl i)
theorem Clean.of {i:Int} (h1:nbN (nodeAt T i)=false) (h2:∀a∈(nodeAt T i).args,Clean T a):Clean T i:=fun z hz=>by
 cases hz with
 | refl=>exact h1
 | arg ha hr=>exact h2 _ ha z hr
theorem nodeAt_of {j:Nat} {x:NodeD} (h:T.nodes[j]? = some x):nodeAt T (j:Int)=x∧hasT T (j:Int)=true:=by
 have hj:=(List.getElem?_eq_some_iff.1 h).1
 have:=nodeAt_nat hj
 rw [h] at this
 exact⟨(Option.some.inj this).symm,hasT_iff.2 ⟨by omega,by omega⟩⟩
structure Val (T0 T:TermD) (i y:Int):Prop where
 has:hasT T y=true
 so:(nodeAt T y).sort=(nodeAt T0 i).sort
 nu:numAt T y=numAt T0 i
 cl:Clean T y
 id:Clean T0 i→y=i
theorem Val.ext {i y:Int} (h:Val T0 T i y) (ho:OrdT T) (he:Ext T T'):Val T0 T' i y:=
 ⟨he.has h.has,by rw [he.node h.has];exact h.so,by rw [he.num h.has];exact h.nu,h.cl.ext he ho h.has,h.id⟩
structure Fact (T:TermD) (x:Int):Prop where
 has:hasT T x=true
 so:(nodeAt T x).sort=0
 cl:Clean T x
theorem Fact.ext {x:Int} (h:Fact T x) (ho:OrdT T) (he:Ext T T'):Fact T' x:=⟨he.has h.has,by rw [he.node h.has];exact h.so,h.cl.ext he ho h.has⟩
theorem badVal_none {op:Int} (h:op≠11):badVal op ⟨#[]⟩ noRat=false:=by
 unfold badVal
 have h11:(op == 11)=false:=by simpa using h
 rw [h11]
 simp [noRat,zeroR,ByteArray.size]
theorem make_fact (ti:TInv T) (hl:T.nodes.length<16384) {op:Int} {args:List Int} (hop:1≤op∧op≤8) (hal:args.length≤64) (ha:∀x∈args,hasT T x=true∧Clean T x) (hs:sortedD T op ⟨#[]⟩ args=(0,true)) :
  ∃(j:Int) (T2:TermD),makeD T op ⟨#[]⟩ noRat args=((j,0),T2)∧Fact T2 j∧Ext T T2∧TInv T2∧T2.nodes.length≤T.nodes.length+1∧T2.fresh=T.fresh:=by
 obtain ⟨j,T2,e1,e2,e3,e4,e5,e6⟩:=make_ok ti (op:=op) (nm:=⟨#[]⟩) (val:=noRat) (args:=args) (s:=0) (Nat.zero_le _) (Nat.zero_le _) (by unfold badHead;simp;omega) (badVal_none (by omega)) (fun x hx=>(ha x hx).1) hs hl
 obtain ⟨n1,n2⟩:=nodeAt_of e2
 refine⟨j,T2,e1,⟨n2,by rw [n1],.of ?_ fun a h=>?_⟩,e3,e4,e5,e6⟩
 ·rw [n1];unfold nbN;simp
 ·rw [n1] at h;exact((ha a h).2).ext e3 ti.ok.ord (ha a h).1
theorem allD_of {l:List Int} {s:Int} (h:∀x∈l,(nodeAt T x).sort=s):allD T l s=true:=by rw [allD_iff];exact decide_eq_true h
theorem half_ok (ti:TInv T) (hl:T.nodes.length+2≤16384) {k b x:Int} (hk:hasT T k=true∧Clean T k) (hb:Fact T b) (hx:hasT T x=true∧Clean T x) (hs:(nodeAt T k).sort=(nodeAt T x).sort) :
  ∃(j:Int) (T2:TermD),halfD T k b x=((j,0),T2)∧Fact T2 j∧Ext T T2∧TInv T2∧T2.nodes.length≤T.nodes.length+2∧T2.fresh=T.fresh:=by
 obtain ⟨j1,T1,e1,f1,x1,t1,l1,r1⟩:=make_fact ti (by omega) (op:=8) (args:=[k,x]) ⟨by decide,by decide⟩ (by simp) (fun y hy=>by
  simp at hy
  rcases hy with rfl | rfl
  ·exact hk
  ·exact hx) (by
  have:sortedD T 8 ⟨#[]⟩ [k,x]=(0,alikeD T [k,x]):=rfl
  rw [this]
  have:alikeD T [k,x]=true:=by
   unfold alikeD
   rw [allD_of fun y hy=>?_]
   ·rfl
   ·simp at hy
    rcases hy with rfl | rfl
    ·rfl
    ·exact hs.symm
  rw [this])
 have hb1:=hb.ext ti.ok.ord x1
 obtain ⟨j2,T2,e2,f2,x2,t2,l2,r2⟩:=make_fact t1 (by omega) (op:=6) (args:=[b,j1]) ⟨by decide,by decide⟩ (by simp) (fun y hy=>by
  simp at hy
  rcases hy with rfl | rfl
  ·exact⟨hb1.has,hb1.cl⟩
  ·exact⟨f1.has,f1.cl⟩) (by
  have:sortedD T1 6 ⟨#[]⟩ [b,j1]=(0,decide (2 ≤ [b,j1].length) && allD T1 [b,j1] 0):=rfl
  rw [this,allD_of fun y hy=>by
   simp at hy
   rcases hy with rfl | rfl
   ·exact hb1.so
   ·exact f1.so]
  rfl)
 refine⟨j2,T2,?_,f2,x1.trans x2,t2,by omega,by rw [r2,r1]⟩
 unfold halfD mk2
 rw [e1]
 simp only [if_true]
 exact e2
theorem choice_ok (ti:TInv T) (hl:T.nodes.length+5≤16384) {k c x y:Int} (hk:hasT T k=true∧Clean T k) (hc:Fact T c) (hx:hasT T x=true∧Clean T x) (hy:hasT T y=true∧Clean T y) (hsx:(nodeAt T k).sort=(nodeAt T x).sort) (hsy:(nodeAt T k).sort=(nodeAt T y).sort) :
  ∃(j1 j2:Int) (T2:TermD),choiceD T k [c,x,y]=(([j1,j2],0),T2)∧Fact T2 j1∧Fact T2 j2∧Ext T T2∧TInv T2∧T2.nodes.length≤T.nodes.length+5∧T2.fresh=T.fresh:=by
 obtain ⟨n,T1,e1,f1,x1,t1,l1,r1⟩:=make_fact ti (by omega) (op:=3) (args:=[c]) ⟨by decide,by decide⟩ (by simp) (fun z hz=>by
  simp at hz;subst hz;exact⟨hc.has,hc.cl⟩) (by
  have:sortedD T 3 ⟨#[]⟩ [c]=(0,decide ([c].length=1) && allD T [c] 0):=rfl
  rw [this,allD_of fun z hz=>by simp at hz;subst hz;exact hc.so]
  rfl)
 have o1:=ti.ok.ord
 have hk1:hasT T1 k=true∧Clean T1 k:=⟨x1.has hk.1,hk.2.ext x1 o1 hk.1⟩
 have hx1:hasT T1 x=true∧Clean T1 x:=⟨x1.has hx.1,hx.2.ext x1 o1 hx.1⟩
 obtain ⟨h1,T2,e2,f2,x2,t2,l2,r2⟩:=half_ok t1 (by omega) hk1 (hc.ext o1 x1) hx1 (by rw [x1.node hk.1,x1.node hx.1];exact hsx)
 have x12:=x1.trans x2
 have hk2:hasT T2 k=true∧Clean T2 k:=⟨x12.has hk.1,hk.2.ext x12 o1 hk.1⟩
 have hy2:hasT T2 y=true∧Clean T2 y:=⟨x12.has hy.1,hy.2.ext x12 o1 hy.1⟩
 obtain ⟨h2,T3,e3,f3,x3,t3,l3,r3⟩:=half_ok t2 (by omega) hk2 (f1.ext t1.ok.ord x2) hy2 (by rw [x12.node hk.1,x12.node hy.1];exact hsy)
 refine⟨h1,h2,T3,?_,f2.ext t2.ok.ord x3,f3,x12.trans x3,t3,by omega,by rw [r3,r2,r1]⟩
 have n0:nth [c,x,y] 0=c:=rfl
 have n1:nth [c,x,y] 1=x:=rfl
 have n2:nth [c,x,y] 2=y:=rfl
 unfold choiceD
 rw [n0,n1,n2]
 unfold mk1
 rw [e1]
 simp only [if_true]
 unfold choiceL
 rw [e2]
 simp only [if_true]
 unfold choiceL
 rw [e3]
 simp only [if_true]
 rfl
end
section
variable {T T0 T' : TermD}
structure LvI (T0:TermD) (done:List Int) (st:TS (List Int)):Prop where
 ext:Ext T0 st.T
 ti:TInv st.T
 ln:st.T.nodes.length≤T0.nodes.length+8 * done.length
 fr:st.T.fresh≤T0.fresh+done.length
 v:∀i∈done,∃y,st.tm i=some y∧Val T0 st.T i y
 s:st.s.length=2 * (done.filter fun i=>nbN (nodeAt T0 i)).length
 sg:∀x∈st.s,Fact st.T x
theorem LvI.val {done:List Int} {st:TS (List Int)} (h:LvI T0 done st) {i:Int} (hi:i∈done):Val T0 st.T i ((st.tm i).getD 0):=by
 obtain ⟨y,h1,h2⟩:=h.v i hi
 rw [h1];exact h2
theorem LvI.next {done:List Int} {st:TS (List Int)} (h:LvI T0 done st) {id y:Int} {T2:TermD} {more:List Int} (hx:Ext st.T T2) (ht:TInv T2) (hl:T2.nodes.length≤st.T.nodes.length+8) (hf:T2.fresh≤st.T.fresh+1) (hv:Val T0 T2 id y)
  (hm:more.length=if nbN (nodeAt T0 id)=true then 2 else 0) (hg:∀x∈more,Fact T2 x):LvI T0 (done ++ [id]) ⟨setTo st.tm id y,T2,st.s++more⟩:=by
 refine⟨h.ext.trans hx,ht,?_,?_,fun i hi=>?_,?_,fun x hx2=>?_⟩
 ·have:=h.ln;rw [List.length_append,List.length_singleton];show T2.nodes.length≤_;omega
 ·have:=h.fr;rw [List.length_append,List.length_singleton];show T2.fresh≤_;omega
 ·show ∃z,setTo st.tm id y i=some z∧_
  unfold setTo
  by_cases e:i=id
  ·rw [if_pos e,e];exact⟨y,rfl,hv⟩
  ·rw [if_neg e]
   rcases List.mem_append.1 hi with hi | hi
   ·obtain ⟨z,h1,h2⟩:=h.v i hi
    exact⟨z,h1,h2.ext h.ti.ok.ord hx⟩
   ·exact absurd (List.mem_singleton.1 hi) e
 ·show(st.s++more).length=_
  have:=h.s
  rw [List.length_append,List.filter_append,List.length_append,this,hm]
  by_cases hb:nbN (nodeAt T0 id)=true
  ·rw [if_pos hb,show [id].filter (fun i=>nbN (nodeAt T0 i)) = [id] from by simp [hb]];simp;omega
  ·rw [if_neg hb,show [id].filter (fun i=>nbN (nodeAt T0 i)) = [] from by simp [hb]];simp
 ·rcases List.mem_append.1 hx2 with hx2 | hx2
  ·exact(h.sg x hx2).ext h.ti.ok.ord hx
  ·exact hg x hx2
theorem badHead_map {op:Int} {l:List Int} (g:Int→Int):badHead op (l.map g)=badHead op l:=by unfold badHead;rw [List.length_map]
theorem lift_step {done:List Int} {st:TS (List Int)} (h0:TInv T0) (hS:SrtI T0) (h:LvI T0 done st) {id:Int} (hid:hasT T0 id=true) (ha:∀a∈(nodeAt T0 id).args,a∈done) (hl:T0.nodes.length+8 * done.length≤16000) (hf:T0.fresh+done.length<200) :
  ∃st',turn1 liftF st id=(0,st')∧LvI T0 (done ++ [id]) st':=by
 have hnd:=h.ext.node hid
 have hln:=h.ln
 have hfr:=h.fr
 have hmem:nodeAt T0 id∈T0.nodes:=by
  obtain ⟨g0,g1⟩:=hasT_iff.1 hid
  obtain ⟨k,rfl⟩:=Int.eq_ofNat_of_zero_le g0
  exact List.mem_of_getElem? (nodeAt_nat (by omega))
 have hnum0:numAt T0 id=numberD T0 (nodeAt T0 id):=by
  obtain ⟨g0,g1⟩:=hasT_iff.1 hid
  obtain ⟨k,rfl⟩:=Int.eq_ofNat_of_zero_le g0
  exact h0.nu.nums k _ (nodeAt_nat (by omega))
 have hd16:=h0.nu.div _ hmem
 have hself:Clean T0 id→∀a∈(nodeAt T0 id).args,Clean T0 a:=fun hc a haa=>hc.arg haa
 have hcself:Clean T0 id→nbN (nodeAt T0 id)=false:=fun hc=>hc.self
 have hso:=fun hne=>hS.so _ hmem hne
 have hsb:=hS.sb _ hmem
 have hvl:=hS.vl _ hmem
 have hvals:∀a∈(nodeAt T0 id).args,Val T0 st.T a ((st.tm a).getD 0):=fun a haa=>h.val (ha a haa)
 unfold turn1
 rw [hnd]
 generalize hx0:nodeAt T0 id=x at *
 obtain ⟨op,nm,val,args,so⟩:=x
 dsimp only at *
 by_cases hnb:op=10∧so≠0
 ·-- a choice to be named
  obtain ⟨rfl,hso0⟩:=hnb
  have hnb:nbN ⟨10,nm,val,args,so⟩=true:=by unfold nbN;simp [hso0]
  obtain ⟨hs1,_,_⟩:=hso (.inr (by decide))
  have hit:iteD T0 args=(so,true):=hs1
  unfold iteD at hit
  split at hit
  ·rename_i hc3
   obtain ⟨h3,hc0,hal⟩:=hc3
   obtain ⟨c,a,b,rfl⟩:∃c a b,args = [c,a,b]:=by
    rcases args with _ | ⟨c,_ | ⟨a,_ | ⟨b,_ | ⟨d,l⟩⟩⟩⟩
    ·simp at h3
    ·simp at h3
    ·simp at h3
    ·exact⟨c,a,b,rfl⟩
    ·simp at h3
   have hva:=hvals a (by simp)
   have hvb:=hvals b (by simp)
   have hvc:=hvals c (by simp)
   have hsa:(nodeAt T0 a).sort=so:=by injection hit
   have hsbb:(nodeAt T0 b).sort=so:=by
    unfold alikeD at hal
    rw [Bool.and_eq_true,allD_iff,decide_eq_true_eq] at hal
    have:=of_decide_eq_true hal.2 b (by simp)
    rw [this];exact hsa
   obtain ⟨k,T1,e1,e2,x1,t1,l1,f1⟩:=fresh_ok h.ti (s:=so) (by rw [h.ext.s];exact hsb) (by omega) (by omega)
   obtain ⟨n1,n2⟩:=nodeAt_of e2
   have o:=h.ti.ok.ord
   have hck:Clean T1 (k:Int):=.of (by rw [n1];rfl) fun a hh=>by rw [n1] at hh;simp [freshNode] at hh
   obtain ⟨j1,j2,T2,c1,c2,c3,x2,t2,l2,f2⟩:=choice_ok t1 (by omega) (k:=k) (c:=(st.tm c).getD 0) (x:=(st.tm a).getD 0) (y:=(st.tm b).getD 0) ⟨n2,hck⟩ ⟨x1.has hvc.has,by rw [x1.node hvc.has,hvc.so];exact hc0,hvc.cl.ext x1 o hvc.has⟩ ⟨x1.has hva.has,hva.cl.ext x1 o hva.has⟩ ⟨x1.has hvb.has,hvb.cl.ext x1 o hvb.has⟩
    (by rw [n1,x1.node hva.has,hva.so,hsa];rfl) (by rw [n1,x1.node hvb.has,hvb.so,hsbb];rfl)
   have hF:liftF st.T st.s id (withArgs ⟨10,nm,val,[c,a,b],so⟩ (toA st.tm [c,a,b]))=(((k:Int),true,0),T2,st.s ++ [j1,j2]):=by
    unfold liftF
    rw [if_pos (show(withArgs ⟨10,nm,val,[c,a,b],so⟩ (toA st.tm [c,a,b])).op=10∧(withArgs ⟨10,nm,val,[c,a,b],so⟩ (toA st.tm [c,a,b])).sort≠0 from⟨rfl,hso0⟩)]
    show(if (freshD st.T so).1.2=0 then _ else _)=_
    rw [show(withArgs (⟨10,nm,val,[c,a,b],so⟩:NodeD) (toA st.tm [c,a,b])).sort=so from rfl,e1]
    rw [if_pos rfl]
    rw [show(withArgs (⟨10,nm,val,[c,a,b],so⟩:NodeD) (toA st.tm [c,a,b])).args = [(st.tm c).getD 0,(st.tm a).getD 0,(st.tm b).getD 0] from rfl,c1]
   rw [hF]
   refine⟨⟨setTo st.tm id (k:Int),T2,st.s ++ [j1,j2]⟩,rfl,h.next (x1.trans x2) t2 (by omega) (by omega) ⟨x2.has n2,by rw [x2.node n2,n1,hx0];rfl,?_,hck.ext x2 t1.ok.ord n2,fun hc=>by have:=hcself hc;rw [hnb] at this;cases this⟩ (by rw [hx0,if_pos hnb];rfl) (fun z hz=>by
    simp at hz
    rcases hz with rfl | rfl
    ·exact c2
    ·exact c3)⟩
   rw [x2.num n2,hnum0]
   have:numAt T1 (k:Int)=numberD T1 (freshNode st.T so):=t1.nu.nums k _ e2
   rw [this]
   rfl
  ·cases hit
 ·-- any other
  have hnb:nbN ⟨op,nm,val,args,so⟩=false:=by
   unfold nbN
   by_cases e:op=10
   ·have:so=0:=Classical.byContradiction fun hh=>hnb ⟨e,hh⟩
    simp [this]
   ·simp [e]
  have hF:liftF st.T st.s id (withArgs ⟨op,nm,val,args,so⟩ (toA st.tm args))=((0,false,0),st.T,st.s):=by
   unfold liftF
   rw [if_neg (show ¬((withArgs (⟨op,nm,val,args,so⟩:NodeD) (toA st.tm args)).op=10∧(withArgs (⟨op,nm,val,args,so⟩:NodeD) (toA st.tm args)).sort≠0) from ‹_›)]
  rw [hF]
  unfold turnR
  rw [if_neg (by simp),if_neg (by simp)]
  have hmz:([]:List Int).length=if nbN (nodeAt T0 id)=true then 2 else 0:=by rw [hx0,hnb];rfl
  by_cases hsame:sameA st.tm args=true
  ·rw [if_pos hsame]
   have hid2:∀a∈args,(st.tm a).getD 0=a:=fun a haa=>by
    have:=List.all_eq_true.1 hsame a haa
    simpa using this
   refine⟨_,rfl,?_⟩
   have:=h.next (id:=id) (y:=id) (more:=[]) (.refl _) h.ti (by omega) (by omega) ⟨h.ext.has hid,by rw [h.ext.node hid],h.ext.num hid,.of (by rw [hnd];exact hnb) (fun a haa=>by rw [hnd] at haa;have:=(hvals a haa).cl;rw [hid2 a haa] at this;exact this),fun _=>rfl⟩ hmz (fun z hz=>by simp at hz)
   rwa [List.append_nil] at this
  ·rw [if_neg hsame]
   have hne:args ≠ []:=fun e=>hsame (by subst e;rfl)
   obtain ⟨hs1,hb1,hv1⟩:=hso (.inl hne)
   have hmap:toA st.tm args=args.map fun a=>(st.tm a).getD 0:=rfl
   obtain ⟨j,T2,e1,e2,x2,t2,l2,f2⟩:=make_ok h.ti (op:=op) (nm:=nm) (val:=val) (args:=toA st.tm args) (s:=so) hvl.1 hvl.2 (by rw [hmap,badHead_map];exact hb1) hv1 (fun y hy=>by
    rw [hmap] at hy
    obtain ⟨a,haa,rfl⟩:=List.mem_map.1 hy
    exact(hvals a haa).has) (by
    rw [hmap,sortedD_map h.ext.s _ op nm fun a haa=>⟨(hvals a haa).so,(hvals a haa).nu⟩];exact hs1) (by omega)
   rw [e1]
   obtain ⟨n1,n2⟩:=nodeAt_of e2
   have o:=h.ti.ok.ord
   have hnu:numAt T2 (j:Int)=numAt T0 id:=by
    rw [hnum0,t2.nu.nums j _ e2]
    exact numberD_map (x:=⟨op,nm,val,args,so⟩) (y:=⟨op,nm,val,toA st.tm args,so⟩) (fun a=>(st.tm a).getD 0) rfl rfl hmap hd16 fun a haa=>by rw [x2.num (hvals a haa).has];exact(hvals a haa).nu
   refine⟨_,rfl,?_⟩
   have:=h.next (id:=id) (y:=(j:Int)) (more:=[]) x2 t2 (by omega) (by omega) ⟨n2,by rw [n1,hx0],hnu,.of (by rw [n1];exact hnb) (fun a haa=>by
    rw [n1] at haa
    change a∈toA st.tm args at haa
    rw [hmap] at haa
    obtain ⟨b,hb,rfl⟩:=List.mem_map.1 haa
    exact(hvals b hb).cl.ext x2 o (hvals b hb).has),fun hc=>absurd (List.all_eq_true.2 fun a haa=>by
     have:=(hvals a haa).id (hself hc a haa)
     simpa using this) hsame⟩ hmz (fun z hz=>by simp at hz)
   rwa [List.append_nil] at this
theorem lift_list (h0 : TInv T0) (hS : SrtI T0) (hf : T0.fresh < 100) (hn : T0.nodes.length ≤ 100) : ∀ (l done : List Int) (st : TS (List Int)), LvI T0 done st → PostO T0 (done ++ l) → (∀ x ∈ done ++ l, hasT T0 x = true) → (done ++ l).length ≤ 100 →
    ∃ st', turnL liftF l st = (0, st') ∧ LvI T0 (done ++ l) st'
  | [], done, st, h, _, _, _ => ⟨st, rfl, by rw [List.append_nil]; exact h⟩
  | id :: l, done, st, h, hp, hh, hl => by
    have hl2 : done.length ≤ 100 := by rw [List.length_append] at hl; omega
    obtain ⟨st1, e1, h1⟩ := lift_step h0 hS h (id := id) (hh id (by simp)) (hp done id l rfl) (by omega) (by omega)
    have e : done ++ id :: l = (done ++ [id]) ++ l := by simp
    rw [e] at hp hh hl ⊢
    obtain ⟨st', e2, h2⟩ := lift_list h0 hS hf hn l (done ++ [id]) st1 h1 hp hh hl
    refine ⟨st', ?_, h2⟩
    show (if _ then _ else _) = _
    rw [if_pos (by rw [e1]), e1]
    exact e2
theorem walk_has (ho:OrdT T0) (ids:List Int):∀x∈(walkT T0 ids).2,hasT T0 x=true:=fun x hx=>by
 obtain ⟨i,_,h2,h3⟩:=(walkT_reach ho ids x).1 hx
 exact reach_has ho h2 h3
theorem boolsT_of {ids:List Int} (hi:∀i∈ids,hasT T i=true∧(nodeAt T i).sort=0):boolsT T ids=true:=by
 unfold boolsT
 rw [Bool.not_eq_true',List.any_eq_false]
 intro x hx
 have:=hi x hx
 unfold boolT sortOf
 rw [this.1,this.2]
 simp
theorem lift_once (h0:TInv T0) (hS:SrtI T0) (hf:T0.fresh<100) (hn:T0.nodes.length≤100) {ids:List Int} (hbt:∀i∈ids,hasT T0 i=true∧(nodeAt T0 i).sort=0) :
  ∃after more T',allLift T0 ids=((after,more,0),T')∧after.length=ids.length∧more.length=2 * ((walkT T0 ids).2.filter fun i=>nbN (nodeAt T0 i)).length∧(∀k,k<ids.length→Clean T0 (nth ids k)→nth after k=nth ids k)∧(∀x∈after++more,Fact T' x)∧TInv T'∧Ext T0 T'∧T'.nodes.length≤9 * T0.nodes.length:=by
 have ho:=h0.ok.ord
 have hb:=boolsT_of hbt
 have hw:(walkT T0 ids).2.length≤T0.nodes.length:=pigeon _ _ (walkT_nodup ho ids) fun x hx=>hasT_iff.1 (walk_has ho ids x hx)
 obtain ⟨st,e1,h1⟩:=lift_list h0 hS hf hn (walkT T0 ids).2 [] ⟨fun _=>none,T0,[]⟩ ⟨.refl _,h0,Nat.le_refl _,by simp,fun i hi=>by simp at hi,rfl,fun x hx=>by simp at hx⟩ (walkT_post ho ids) (walk_has ho ids) (by rw [List.nil_append];omega)
 rw [List.nil_append] at h1
 have hval:∀i∈ids,Val T0 st.T i ((st.tm i).getD 0):=fun i hi=>h1.val ((walkT_reach ho ids i).2 ⟨i,hi,(hbt i hi).1,.refl i⟩)
 refine⟨ids.map fun i=>(st.tm i).getD 0,st.s,st.T,?_,by simp,h1.s,fun k hk hc=>?_,fun x hx=>?_,h1.ti,h1.ext,by have:=h1.ln;omega⟩
 ·unfold allLift turnD outT
  rw [hb,e1]
  rfl
 ·rw [nth_map hk]
  exact(hval _ (nth_mem hk)).id hc
 ·rcases List.mem_append.1 hx with hx | hx
  ·obtain ⟨i,hi,rfl⟩:=List.mem_map.1 hx
   have:=hval i hi
   exact⟨this.has,by rw [this.so];exact(hbt i hi).2,this.cl⟩
  ·exact h1.sg x hx
end
section
variable {T T' : TermD}
theorem reach_X {X:Nat→Prop} {i z:Int} (h:Reach { T with X:=X } i z):Reach T i z:=by
 induction h with
 | refl i=>exact .refl i
 | arg ha _ ih=>exact .arg ha ih
theorem Clean.X {i:Int} (h:Clean T i) (X:Nat→Prop):Clean { T with X:=X } i:=fun z hz=>h z (reach_X hz)
theorem Fact.X {i:Int} (h:Fact T i) (X:Nat→Prop):Fact { T with X:=X } i:=⟨h.has,h.so,h.cl.X X⟩
theorem Ext.X (h:Ext T T') (X:Nat→Prop):Ext T { T' with X:=X }:=⟨h.nodes,h.nums,h.s⟩
theorem SrtI.X (h:SrtI T) (X:Nat→Prop):SrtI { T with X:=X }:=⟨fun x hx hn=>by rw [sortedD_X];exact h.so x hx hn,h.sb,h.fb,h.vl⟩
end
end Go.Proofs.YtgoojkiccdjplaaGreatDoor
