/-
  Parts of this claim's texts, one behind the other: UA UB. No condition.
-/
import Derived.Test.YtgoojkiccdjplaaGreatDoorM27
import Derived.Test.YtgoojkiccdjplaaGreatDoorM17
set_option linter.unusedVariables false
set_option linter.unusedSimpArgs false
set_option maxRecDepth 100000
set_option maxHeartbeats 16000000
namespace Go.Proofs.YtgoojkiccdjplaaGreatDoor
open Go.RowKit Go.Sort Go.Lib
section
variable {τ : Type}
abbrev OtherF (τ:Type):=TermD→τ→Int→NodeD→(Int × Bool × Int) × TermD × τ
def toA (tm:Int→Option Int) (l:List Int):List Int:=l.map fun a=>(tm a).getD 0
def sameA (tm:Int→Option Int) (l:List Int):Bool:=l.all fun a=>(tm a).getD 0 == a
def setTo (tm:Int→Option Int) (i x:Int):Int→Option Int:=fun k=>if k=i then some x else tm k
structure TS (τ:Type) where
 tm:Int→Option Int
 T:TermD
 s:τ
def withArgs (n:NodeD) (l:List Int):NodeD:={ n with args:=l }
def turnR (st:TS τ) (id:Int) (x:NodeD) (r:(Int × Bool × Int) × TermD × τ):Int × TS τ:=
 if r.1.2.2≠0 then(r.1.2.2,⟨st.tm,r.2.1,r.2.2⟩)
 else if r.1.2.1 then(0,⟨setTo st.tm id r.1.1,r.2.1,r.2.2⟩)
 else if sameA st.tm x.args then(0,⟨setTo st.tm id id,r.2.1,r.2.2⟩)
 else((makeD r.2.1 x.op x.name x.val (toA st.tm x.args)).1.2,⟨setTo st.tm id (makeD r.2.1 x.op x.name x.val (toA st.tm x.args)).1.1,(makeD r.2.1 x.op x.name x.val (toA st.tm x.args)).2,r.2.2⟩)
def turn1 (f:OtherF τ) (st:TS τ) (id:Int):Int × TS τ:=turnR st id (nodeAt st.T id) (f st.T st.s id (withArgs (nodeAt st.T id) (toA st.tm (nodeAt st.T id).args)))
def turnL (f:OtherF τ):List Int→TS τ→Int × TS τ
 | [],st=>(0,st)
 | id :: l,st=>if (turn1 f st id).1=0 then turnL f l (turn1 f st id).2 else turn1 f st id
def outT (ids:List Int) (r:Int × TS τ):(List Int × Int) × TermD × τ:=
 ((if r.1=0 then(ids.map fun i=>(r.2.tm i).getD 0,0) else([],r.1)),r.2.T,r.2.s)
def turnD (f:OtherF τ) (T:TermD) (s:τ) (ids:List Int):(List Int × Int) × TermD × τ:=outT ids (turnL f (walkT T ids).2 ⟨fun _=>none,T,s⟩)
theorem turnL_snoc (f : OtherF τ) : ∀ (l : List Int) (x : Int) (st st' : TS τ), turnL f l st = (0, st') → turnL f (l ++ [x]) st = turn1 f st' x
  | [], x, st, st', h => by
    injection h with _ h
    subst h
    show (if _ then _ else _) = _
    split
    · rename_i h0
      show (0, (turn1 f st x).2) = _
      rw [← h0]
    · rfl
  | y :: l, x, st, st', h => by
    show (if _ then _ else _) = _
    change (if _ then _ else _) = _ at h
    by_cases h0 : (turn1 f st y).1 = 0
    · rw [if_pos h0] at h ⊢; exact turnL_snoc f l x _ st' h
    · rw [if_neg h0] at h
      rw [h] at h0
      exact absurd rfl h0
theorem turnL_err (f : OtherF τ) : ∀ (l m : List Int) (st st' : TS τ) (e : Int), e ≠ 0 → turnL f l st = (e, st') → turnL f (l ++ m) st = (e, st')
  | [], m, st, st', e, he, h => by injection h with h _; exact absurd h.symm he
  | y :: l, m, st, st', e, he, h => by
    show (if _ then _ else _) = _
    change (if _ then _ else _) = _ at h
    by_cases h0 : (turn1 f st y).1 = 0
    · rw [if_pos h0] at h ⊢; exact turnL_err f l m _ st' e he h
    · rw [if_neg h0] at h ⊢; exact h
structure NodeG (x:NodeD):Prop where
 num:x.val.num.length≤1000000
 name:x.name.size≤1000000
 args:x.args.length≤64
 lit:x.op=11→x.args = []
 ite:x.op=10→x.args.length=3
 den:x.val.den.length≤1000000
structure TermG (T:TermD):Prop where
 ok:TermOk T
 ng:∀x∈T.nodes,NodeG x
theorem TermG.at {T:TermD} (h:TermG T) {k:Nat} (hk:k<T.nodes.length):NodeG (nodeAt T k):=h.ng _ (List.mem_of_getElem? (nodeAt_nat hk))
theorem NodeG.withArgs {x:NodeD} (h:NodeG x) {l:List Int} (hl:l.length=x.args.length):NodeG (withArgs x l):=
 ⟨h.num,h.name,by show l.length≤64;rw [hl];exact h.args,fun e=>by have:=h.lit e;rw [this] at hl;show l = [];exact List.eq_nil_of_length_eq_zero (by simpa using hl),fun e=>by show l.length=3;rw [hl];exact h.ite e,h.den⟩
theorem nodes_put (T : TermD) (n : NodeD) : (putD T n).2.nodes = T.nodes ∨ (putD T n).2.nodes = T.nodes ++ [n] := by
  cases hk : T.ids (keyB n) with
  | some i => rw [put_some hk]; exact .inl rfl
  | none =>
    by_cases hl : 16384 ≤ T.nodes.length
    · rw [put_full hk hl]; exact .inl rfl
    · rw [put_addN hk (by omega)]; exact .inr rfl
theorem fresh_put (T : TermD) (n : NodeD) : (putD T n).2.fresh = T.fresh := by
  cases hk : T.ids (keyB n) with
  | some i => rw [put_some hk]
  | none =>
    by_cases hl : 16384 ≤ T.nodes.length
    · rw [put_full hk hl]
    · rw [put_addN hk (by omega)]; rfl
structure GrowT (T T':TermD) (c:Nat):Prop where
 g:TermG T'
 len:T.nodes.length≤T'.nodes.length
 fr:T'.fresh≤T.fresh+c
theorem GrowT.refl {T:TermD} (h:TermG T):GrowT T T 0:=⟨h,Nat.le_refl _,by omega⟩
theorem GrowT.trans {T T1 T2:TermD} {c d:Nat} (h:GrowT T T1 c) (k:GrowT T1 T2 d):GrowT T T2 (c+d):=⟨k.g,Nat.le_trans h.len k.len,by have:=h.fr;have:=k.fr;omega⟩
theorem GrowT.mono {T T':TermD} {c d:Nat} (h:GrowT T T' c) (hc:c≤d):GrowT T T' d:=⟨h.g,h.len,by have:=h.fr;omega⟩
theorem TermG.make {T:TermD} (h:TermG T) (op:Int) {nm:ByteArray} {val:RatD} (args:List Int) (h1:val.num.length≤1000000) (h2:val.den.length≤1000000) (h3:nm.size≤1000000):GrowT T (makeD T op nm val args).2 0:=by
 have hok:=h.ok.make (op:=op) (nm:=nm) (args:=args) h1 h2
 unfold makeD at hok ⊢
 split
 ·exact .refl h
 ·rename_i hb
  rw [if_neg hb] at hok
  split
  ·exact .refl h
  ·rename_i hv
   rw [if_neg hv] at hok
   split
   ·exact .refl h
   ·rename_i ha
    rw [if_neg ha] at hok
    split
    ·rename_i hs
     rw [if_pos hs] at hok
     have hl:args.length≤64:=by unfold badHead at hb;simp at hb;omega
     have hg:NodeG ⟨op,nm,val,args,(sortedD T op nm args).1⟩:=by
      refine⟨h1,h3,hl,fun e=>?_,fun e=>?_,h2⟩
      ·change op=11 at e
       subst e
       unfold sortedD at hs
       simp at hs
       exact hs
      ·change op=10 at e
       subst e
       unfold sortedD iteD at hs
       simp at hs
       split at hs
       ·rename_i h4;exact h4.1
       ·cases hs
     rcases nodes_put T ⟨op,nm,val,args,(sortedD T op nm args).1⟩ with e | e
     ·exact⟨⟨hok,fun x hx=>by rw [e] at hx;exact h.ng x hx⟩,by rw [e];exact Nat.le_refl _,by rw [fresh_put];omega⟩
     ·refine⟨⟨hok,fun x hx=>?_⟩,by rw [e,List.length_append];omega,by rw [fresh_put];omega⟩
      rw [e] at hx
      rcases List.mem_append.1 hx with hx | hx
      ·exact h.ng x hx
      ·obtain rfl:=List.mem_singleton.1 hx;exact hg
    ·exact .refl h
theorem TermG.fresh {T:TermD} (h:TermG T) (s:Int) (hf:T.fresh<1099511627776):GrowT T (freshD T s).2 1:=by
 have hok:=h.ok.fresh s hf
 have hn:(freshName T.fresh).size≤1000000:=by
  rw [size_data];unfold freshName;simp only [List.length_cons]
  have:=itoaL_le (n:=T.fresh) (by have:=h.ok.sm.fr;unfold okI;omega)
  omega
 have hg:NodeG (freshNode T s):=⟨Nat.zero_le _,hn,Nat.zero_le _,fun _=>rfl,fun e=>(by cases e),Nat.zero_le _⟩
 unfold freshD at hok ⊢
 split
 ·rename_i hb
  rw [if_pos hb] at hok
  have hnodes:(putD T (freshNode T s)).2.nodes=T.nodes∨(putD T (freshNode T s)).2.nodes=T.nodes ++ [freshNode T s]:=nodes_put _ _
  have hng:∀x∈(putD T (freshNode T s)).2.nodes,NodeG x:=fun x hx=>by
   rcases hnodes with e | e
   ·rw [e] at hx;exact h.ng x hx
   ·rw [e] at hx
    rcases List.mem_append.1 hx with hx | hx
    ·exact h.ng x hx
    ·obtain rfl:=List.mem_singleton.1 hx;exact hg
  have hlen:T.nodes.length≤(putD T (freshNode T s)).2.nodes.length:=by
   rcases hnodes with e | e <;> rw [e] <;> simp
  split
  ·rename_i h0
   rw [if_pos h0] at hok
   exact⟨⟨hok,hng⟩,hlen,by show T.fresh+1≤_;omega⟩
  ·rename_i h0
   rw [if_neg h0] at hok
   exact⟨⟨hok,hng⟩,hlen,by rw [fresh_put];omega⟩
 ·exact(GrowT.refl h).mono (by omega)
end
structure OStep (p:Nat) (D D':Nat→Prop) (w w':World):Prop where
 os:w'.os=w.os
 tape:w'.tape=w.tape
 output:w'.output=w.output
 size:w.heap.size≤w'.heap.size
 block:∀k,k<w.heap.size→¬ownT p w k→¬D k→w'.heap[k]? = w.heap[k]? ∧ ¬ownT p w' k∧¬D' k
section
variable {p B : Nat} {D D' D'' : Nat → Prop} {w w' w'' : World} {T T' : TermD}
theorem OStep.trans (h:OStep p D D' w w') (k:OStep p D' D'' w' w''):OStep p D D'' w w'':=
 ⟨k.os.trans h.os,k.tape.trans h.tape,k.output.trans h.output,Nat.le_trans h.size k.size,fun j hj h1 h2=>by
  obtain ⟨a1,a2,a3⟩:=h.block j hj h1 h2
  obtain ⟨b1,b2,b3⟩:=k.block j (Nat.lt_of_lt_of_le hj h.size) a2 a3
  exact⟨b1.trans a1,b2,b3⟩⟩
theorem OStep.ofT (h:TStep p w w') (hD:∀k,D' k→D k):OStep p D D' w w':=
 ⟨h.os,h.tape,h.output,h.size,fun k hk h1 h2=>⟨(h.block k hk h1).1,(h.block k hk h1).2,fun e=>h2 (hD k e)⟩⟩
theorem OStep.ofBelow (hp:p<w.heap.size) (h:Below w.heap.size w w') (hD:∀k,k<w.heap.size→D' k→D k):OStep p D D' w w':=
 ⟨h.os,h.tape,h.output,h.size,fun k hk h1 h2=>⟨h.block k hk,fun e=>h1 ((ownT.same (h.block p hp)).1 e),fun e=>h2 (hD k hk e)⟩⟩
end
structure Cx (w0:World) (p:Nat) {τ:Type} (J:τ→World→Prop) (D:τ→World→Nat→Prop) (Y:Nat→Prop) (T:TermD) (s:τ) (w:World):Prop where
 t:TermX w0.heap.size p { T with X:=fun k=>D s w k∨Y k } w
 b:Below w0.heap.size w0 w
 j:J s w
structure OtherOk (w0:World) (p fv:Nat) (pre caps:List Value) {τ:Type} (f:OtherF τ) (J:τ→World→Prop) (D:τ→World→Nat→Prop) (sz:τ→Nat):Prop where
 enter:∀args w,(callFunc fv args).run Tryz.prog w = .ok (.enter fv args) w
 lt:∀s w,J s w→∀k,D s w k→w0.heap.size≤k∧k<w.heap.size
 keep:∀s w w',J s w→(∀k,D s w k→w'.heap[k]? = w.heap[k]?)→w.heap.size≤w'.heap.size→J s w'∧∀k,D s w' k↔D s w k
 grow:∀T s w id n,J s w→TermG T→T.fresh≤1000000000000→NodeG n→GrowT T (f T s id n).2.1 100∧okI (f T s id n).1.1∧sz (f T s id n).2.2≤sz s+100
 call:∀Y T s w id n a c b d g e,Cx w0 p J D Y T s w→TermG T→T.fresh≤1000000000000→sz s≤1000000000000→NodeG n→okI id→NodeS (fun k=>DatB w k∧¬D s w k) w n a c b d g e →
  Calls Tryz.prog fv (pre++Value.int .i64 id :: nodeV n a c b d g e :: caps).toArray w fun e w'=>e = .returned (.tuple #[.int .i64 (f T s id n).1.1,.bool (f T s id n).1.2.1,.int .i64 (f T s id n).1.2.2]) ∧
   Cx w0 p J D Y (f T s id n).2.1 (f T s id n).2.2 w'∧OStep p (D s w) (D (f T s id n).2.2 w') w w'
section
variable {w0 w w' : World} {p fv : Nat} {pre caps : List Value} {τ : Type} {f : OtherF τ} {J : τ → World → Prop} {D : τ → World → Nat → Prop} {sz : τ → Nat} {Y Y' : Nat → Prop} {T T' : TermD} {s : τ}
theorem Cx.x (h:Cx w0 p J D Y T s w) {k:Nat} (hk:D s w k∨Y k):k<w.heap.size∧¬ownT p w k:=by
 obtain ⟨q,v1,v2,m,ha⟩:=h.t
 exact⟨(ha.xlt k hk).1,(ha.xlt k hk).2.1⟩
theorem Cx.plt (h:Cx w0 p J D Y T s w):p<w.heap.size:=h.t.plt
theorem Cx.keepD (K:OtherOk w0 p fv pre caps f J D sz) (h:Cx w0 p J D Y T s w) (hk:∀k,D s w k→w'.heap[k]? = w.heap[k]?) (hs:w.heap.size≤w'.heap.size):J s w'∧∀k,D s w' k↔D s w k:=K.keep s w w' h.j hk hs
theorem Cx.all (K:OtherOk w0 p fv pre caps f J D sz) (h:Cx w0 p J D Y T s w) (hb:Below w.heap.size w w'):Cx w0 p J D Y T s w'∧∀k,D s w' k↔D s w k:=by
 obtain ⟨hj,hd⟩:=h.keepD K (fun k hk=>hb.block k (h.x (.inl hk)).1) hb.size
 refine⟨⟨?_,h.b.trans (hb.mono h.b.size),hj⟩,hd⟩
 have e:(fun k=>D s w' k∨Y k)=(fun k=>D s w k∨Y k):=funext fun k=>propext (or_congr (hd k) Iff.rfl)
 rw [e]
 exact h.t.all hb
theorem Cx.tstep (K:OtherOk w0 p fv pre caps f J D sz) (h:Cx w0 p J D Y T s w) (ht:TermX w0.heap.size p { T' with X:=fun k=>D s w k∨Y k } w') (hs:TStep p w w'):Cx w0 p J D Y T' s w'∧∀k,D s w' k↔D s w k:=by
 obtain ⟨hj,hd⟩:=h.keepD K (fun k hk=>(hs.block k (h.x (.inl hk)).1 (h.x (.inl hk)).2).1) hs.size
 refine⟨⟨?_,h.b.trans (h.t.stepBelow hs),hj⟩,hd⟩
 have e:(fun k=>D s w' k∨Y k)=(fun k=>D s w k∨Y k):=funext fun k=>propext (or_congr (hd k) Iff.rfl)
 rw [e]
 exact ht
theorem Cx.excl (K:OtherOk w0 p fv pre caps f J D sz) (h:Cx w0 p J D Y T s w) (hb:Below w0.heap.size w w') (hk:∀k,k<w.heap.size→¬Y k→w'.heap[k]? = w.heap[k]?) (hd':∀k,D s w k→w'.heap[k]? = w.heap[k]?) (hx:∀k,Y' k→(Y k∨w.heap.size≤k)∧k<w'.heap.size):Cx w0 p J D Y' T s w'∧∀k,D s w' k↔D s w k:=by
 obtain ⟨hj,hd⟩:=h.keepD K hd' hb.size
 refine⟨⟨?_,h.b.trans hb,hj⟩,hd⟩
 have e:(fun k=>D s w' k∨Y' k)=(fun k=>D s w k∨Y' k):=funext fun k=>propext (or_congr (hd k) Iff.rfl)
 rw [e]
 exact h.t.excl (T:={ T with X:=fun k=>D s w k∨Y k }) (X':=fun k=>D s w k∨Y' k) (fun k hk' hn=>hk k hk' fun e=>hn (.inr e)) hb.size fun k hk'=>by
  rcases hk' with hk' | hk'
  ·exact⟨.inl (.inl hk'),Nat.lt_of_lt_of_le (h.x (.inl hk')).1 hb.size⟩
  ·exact⟨(hx k hk').1.imp .inr id,(hx k hk').2⟩
end
theorem walkN_X (T : TermD) (X : Nat → Prop) : ∀ (f : Nat) (st : List Int × List Int) (i : Int), walkN { T with X := X } f st i = walkN T f st i
  | 0, _, _ => rfl
  | f + 1, st, i => by
    have e : walkN { T with X := X } f = walkN T f := funext fun st => funext fun i => walkN_X T X f st i
    unfold walkN
    rw [e]
    rfl
theorem walkT_X (T:TermD) (X:Nat→Prop) (ids:List Int):walkT { T with X:=X } ids=walkT T ids:=by
 have e:walkAt { T with X:=X }=walkAt T:=funext fun st=>funext fun i=>by
  unfold walkAt
  rw [walkN_X]
  rfl
 unfold walkT
 rw [e]
theorem walkT_ok {T : TermD} (ho : OrdT T) (ids : List Int) : WkOk T (walkT T ids) ∧ ∀ x ∈ (walkT T ids).2, 0 ≤ x ∧ x < (T.nodes.length : Int) := by
  have : ∀ (l : List Int) (st : List Int × List Int), WkOk T st → (∀ x ∈ st.2, 0 ≤ x ∧ x < (T.nodes.length : Int)) → WkOk T (l.foldl (walkAt T) st) ∧ ∀ x ∈ (l.foldl (walkAt T) st).2, 0 ≤ x ∧ x < (T.nodes.length : Int) := by
    intro l
    induction l with
    | nil => exact fun st h1 h2 => ⟨h1, h2⟩
    | cons i l ih =>
      intro st h1 h2
      refine ih _ (h1.at ho i) ?_
      unfold walkAt
      split
      · rename_i hi
        obtain ⟨g0, g1⟩ := hasT_iff.1 hi
        obtain ⟨k, rfl⟩ := Int.eq_ofNat_of_zero_le g0
        exact walkN_out ho _ k _ (by omega) h2
      · exact h2
  exact this ids _ (WkOk.nil T) (by simp)
def mapI (tm:Int→Option Int):Int→Option Value:=fun k=>(tm k).map (Value.int .i64)
theorem mapI_upd (tm:Int→Option Int) (i x:Int):upd (mapI tm) i (some (.int .i64 x))=mapI (setTo tm i x):=by
 funext k
 unfold upd mapI setTo
 by_cases h:k=i
 ·simp [h]
 ·simp [h]
theorem mapI_get (tm:Int→Option Int) (i:Int):((mapI tm) i).getD (.int .i64 0) = .int .i64 ((tm i).getD 0):=by
 unfold mapI
 cases tm i <;> rfl
theorem RdI.hold {w w':World} {a:Option Addr} {n:Nat} {xs:List Int} (h:RdI w a n xs) (hk:0<n→∀x,a=some x→w'.heap[x.block]? = w.heap[x.block]?) (hs:w.heap.size≤w'.heap.size):RdI w' a n xs:=
 ⟨h.len,h.wf,fun hn=>by
  obtain ⟨b,o,ha,hlt,hc⟩:=h.cells hn
  refine⟨b,o,ha,Nat.lt_of_lt_of_le hlt hs,fun j hj=>?_⟩
  have hq:=hk hn _ ha
  rw [World.cell?_of_block (w:=w) (a:=⟨b,o+j,none⟩) (by exact hq)]
  exact hc j hj⟩
def TurnB (m:Nat) (n1:Nat) (a1:Option Addr) (n2:Nat) (a2:Option Addr) (k:Nat):Prop:=k=m∨(0<n1∧∃x,a1=some x∧x.block=k)∨(0<n2∧∃x,a2=some x∧x.block=k)
structure LoopT (w0 w:World) (p:Nat) {τ:Type} (J:τ→World→Prop) (D:τ→World→Nat→Prop) (sz:τ→Nat) (S0:Nat) (Y:Nat→Prop) (T:TermD) (D0:Nat→Prop) (m:Nat) (n1:Nat) (a1:Option Addr) (xs1:List Int) (n2:Nat) (a2:Option Addr) (xs2:List Int) (k z:Nat) (st:TS τ) (wr:World):Prop where
 cx:Cx w0 p J D (fun k=>Y k∨k=m) st.T st.s wr
 g:GrowT T st.T z
 mp:∃c,c≤k∧MapV Tryz.prog 3 m c (mapI st.tm) wr
 ok:∀i x,st.tm i=some x→okI x
 os:OStep p D0 (D st.s wr) w wr
 fr:∀k,TurnB m n1 a1 n2 a2 k→k<wr.heap.size∧¬ownT p wr k∧¬D st.s wr k
 r1:RdI wr a1 n1 xs1
 r2:RdI wr a2 n2 xs2
 lo:w0.heap.size≤w.heap.size∧w.heap.size≤m
 ss:sz st.s≤S0+z
section
variable {w0 w wr w' : World} {p fv : Nat} {pre caps : List Value} {τ : Type} {f : OtherF τ} {J : τ → World → Prop} {D : τ → World → Nat → Prop} {sz : τ → Nat} {S0 : Nat} {Y : Nat → Prop} {T T' : TermD} {s s' : τ} {D0 : Nat → Prop} {m n1 n2 k z : Nat} {a1 a2 : Option Addr} {xs1 xs2 : List Int} {st : TS τ}
theorem LoopT.all (K:OtherOk w0 p fv pre caps f J D sz) (h:LoopT w0 w p J D sz S0 Y T D0 m n1 a1 xs1 n2 a2 xs2 k z st wr) (hb:Below wr.heap.size wr w'):LoopT w0 w p J D sz S0 Y T D0 m n1 a1 xs1 n2 a2 xs2 k z st w':=by
 obtain ⟨hc,hd⟩:=h.cx.all K hb
 have hs:OStep p (D st.s wr) (D st.s w') wr w':=OStep.ofBelow h.cx.plt hb fun k _ e=>(hd k).1 e
 refine⟨hc,h.g,?_,h.ok,h.os.trans hs,fun j hj=>?_,h.r1.below hb (Nat.le_refl _),h.r2.below hb (Nat.le_refl _),h.lo,h.ss⟩
 ·obtain ⟨c,h1,h2⟩:=h.mp
  exact⟨c,h1,h2.same (hb.block m (h.fr m (.inl rfl)).1)⟩
 ·obtain ⟨q1,q2,q3⟩:=h.fr j hj
  exact⟨Nat.lt_of_lt_of_le q1 hb.size,(hs.block j q1 q2 q3).2⟩
theorem LoopT.ostep (h:LoopT w0 w p J D sz S0 Y T D0 m n1 a1 xs1 n2 a2 xs2 k z st wr) (hc:Cx w0 p J D (fun k=>Y k∨k=m) T' s' w') (hs:OStep p (D st.s wr) (D s' w') wr w') {c:Nat} (hg:GrowT st.T T' c) (hz:sz s'≤sz st.s+c) :
  LoopT w0 w p J D sz S0 Y T D0 m n1 a1 xs1 n2 a2 xs2 k (z+c) ⟨st.tm,T',s'⟩ w':=by
 have hk:=fun j hj=>hs.block j (h.fr j hj).1 (h.fr j hj).2.1 (h.fr j hj).2.2
 refine⟨hc,h.g.trans hg,?_,h.ok,h.os.trans hs,fun j hj=>⟨Nat.lt_of_lt_of_le (h.fr j hj).1 hs.size,(hk j hj).2⟩,h.r1.hold (fun hn x e=>(hk _ (.inr (.inl ⟨hn,x,e,rfl⟩))).1) hs.size,h.r2.hold (fun hn x e=>(hk _ (.inr (.inr ⟨hn,x,e,rfl⟩))).1) hs.size,h.lo,by have:=h.ss;show sz s'≤_;omega⟩
 obtain ⟨c,h1,h2⟩:=h.mp
 exact⟨c,h1,h2.same (hk m (.inl rfl)).1⟩
theorem LoopT.done (K:OtherOk w0 p fv pre caps f J D sz) (h:LoopT w0 w p J D sz S0 Y T D0 m n1 a1 xs1 n2 a2 xs2 k z st wr) (hz:z≤1638400):Cx w0 p J D Y st.T st.s wr∧OStep p D0 (D st.s wr) w wr∧GrowT T st.T 1638400∧sz st.s≤S0+1638400:=by
 obtain ⟨hc,_⟩:=h.cx.excl K (w':=wr) (Y':=Y) (Below.refl _ _) (fun _ _ _=>rfl) (fun _ _=>rfl) (fun k hk=>⟨.inl (.inl hk),(h.cx.x (.inr (.inl hk))).1⟩)
 exact⟨hc,h.os,h.g.mono hz,by have:=h.ss;omega⟩
theorem LoopT.more (h:LoopT w0 w p J D sz S0 Y T D0 m n1 a1 xs1 n2 a2 xs2 k z st wr) {z':Nat} (hz:z≤z'):LoopT w0 w p J D sz S0 Y T D0 m n1 a1 xs1 n2 a2 xs2 k z' st wr:=
 ⟨h.cx,h.g.mono hz,h.mp,h.ok,h.os,h.fr,h.r1,h.r2,h.lo,by have:=h.ss;omega⟩
theorem LoopT.stored (K:OtherOk w0 p fv pre caps f J D sz) (h:LoopT w0 w p J D sz S0 Y T D0 m n1 a1 xs1 n2 a2 xs2 k z st wr) {i x:Int} (hx:okI x) (hm1:n1=0∨∀y,a1=some y→y.block≠m) (hm2:n2=0∨∀y,a2=some y→y.block≠m) (ht:wr.mapTurned w' m) (hm:∃c,c≤k+1∧MapV Tryz.prog 3 m c (mapI (setTo st.tm i x)) w') :
  LoopT w0 w p J D sz S0 Y T D0 m n1 a1 xs1 n2 a2 xs2 (k+1) z ⟨setTo st.tm i x,st.T,st.s⟩ w':=by
 have hg:=ht.grown
 have hfm:=h.fr m (.inl rfl)
 have hne:∀j,j<wr.heap.size→j≠m→w'.heap[j]? = wr.heap[j]?:=fun j hj e=>hg.block j hj fun q=>e (by injection q)
 have hD:∀j,D st.s wr j→w'.heap[j]? = wr.heap[j]?:=fun j hj=>hne j (h.cx.x (.inl hj)).1 fun e=>hfm.2.2 (e ▸ hj)
 have hb:Below w0.heap.size wr w':=⟨hg.os,hg.tape,hg.output,hg.size,fun j hj=>hne j (Nat.lt_of_lt_of_le hj h.cx.b.size) fun e=>by have:=h.lo;omega⟩
 obtain ⟨hc,hd⟩:=h.cx.excl K (Y':=fun k=>Y k∨k=m) hb (fun j hj hn=>hne j hj fun e=>hn (.inr e)) hD (fun j hj=>⟨.inl hj,Nat.lt_of_lt_of_le (h.cx.x (.inr hj)).1 hg.size⟩)
 have hp:w'.heap[p]? = wr.heap[p]?:=hne p h.cx.plt fun e=>hfm.2.1 (by rw [←e];exact .inl (.inl rfl))
 have hfr:∀j,TurnB m n1 a1 n2 a2 j→j<w'.heap.size∧¬ownT p w' j∧¬D st.s w' j:=fun j hj=>
  ⟨Nat.lt_of_lt_of_le (h.fr j hj).1 hg.size,fun e=>(h.fr j hj).2.1 ((ownT.same hp).1 e),fun e=>(h.fr j hj).2.2 ((hd j).1 e)⟩
 refine⟨hc,h.g,hm,fun y z hz=>?_,⟨hb.os.trans h.os.os,hb.tape.trans h.os.tape,hb.output.trans h.os.output,Nat.le_trans h.os.size hb.size,fun j hj q1 q2=>?_⟩,hfr,
  h.r1.hold (fun hn y e=>hne _ (h.fr _ (.inr (.inl ⟨hn,y,e,rfl⟩))).1 (hm1.elim (fun z=>by omega) fun z=>z y e)) hg.size,h.r2.hold (fun hn y e=>hne _ (h.fr _ (.inr (.inr ⟨hn,y,e,rfl⟩))).1 (hm2.elim (fun z=>by omega) fun z=>z y e)) hg.size,h.lo,h.ss⟩
 ·change (if y=i then some x else st.tm y)=some z at hz
  split at hz
  ·injection hz with hz;exact hz ▸ hx
  ·exact h.ok y z hz
 ·obtain ⟨b1,b2,b3⟩:=h.os.block j hj q1 q2
  have hjm:j≠m:=by have:=h.lo.2;omega
  exact⟨(hne j (Nat.lt_of_lt_of_le hj h.os.size) hjm).trans b1,fun e=>b2 ((ownT.same hp).1 e),fun e=>b3 ((hd j).1 e)⟩
end
end Go.Proofs.YtgoojkiccdjplaaGreatDoor
