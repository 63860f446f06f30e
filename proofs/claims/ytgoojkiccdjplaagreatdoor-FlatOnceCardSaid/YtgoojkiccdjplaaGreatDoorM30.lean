/-
  Parts of this claim's texts, one behind the other: DA DB DH CP. No condition.
-/
import Derived.Test.YtgoojkiccdjplaaGreatDoorM25
import Derived.Test.YtgoojkiccdjplaaGreatDoorM28
import Derived.Test.YtgoojkiccdjplaaGreatDoorM27
import Derived.Test.YtgoojkiccdjplaaGreatDoorM29
set_option linter.unusedVariables false
set_option linter.unusedSimpArgs false
set_option maxRecDepth 100000
set_option maxHeartbeats 16000000
namespace Go.Proofs.YtgoojkiccdjplaaGreatDoor
open Go.RowKit Go.Sort Go.Lib
structure Ext (T T':TermD):Prop where
 nodes:∃l,T'.nodes=T.nodes++l
 nums:∀k:Nat,k<T.nodes.length→numAt T' k=numAt T k
 s:T'.S=T.S
section
variable {T T' T'' : TermD}
theorem Ext.refl (T:TermD):Ext T T:=⟨⟨[],by simp⟩,fun _ _=>rfl,rfl⟩
theorem Ext.len (h:Ext T T'):T.nodes.length≤T'.nodes.length:=by obtain ⟨l,e⟩:=h.nodes;rw [e,List.length_append];omega
theorem Ext.trans (h:Ext T T') (k:Ext T' T''):Ext T T'':=by
 obtain ⟨l,e⟩:=h.nodes
 obtain ⟨m,f⟩:=k.nodes
 exact⟨⟨l++m,by rw [f,e,List.append_assoc]⟩,fun j hj=>(k.nums j (Nat.lt_of_lt_of_le hj h.len)).trans (h.nums j hj),k.s.trans h.s⟩
theorem Ext.has (h:Ext T T') {i:Int} (hi:hasT T i=true):hasT T' i=true:=by
 have:=hasT_iff.1 hi
 have:=h.len
 exact hasT_iff.2 ⟨by omega,by omega⟩
theorem Ext.node (h:Ext T T') {i:Int} (hi:hasT T i=true):nodeAt T' i=nodeAt T i:=by
 have h1:=hasT_iff.1 hi
 obtain ⟨l,e⟩:=h.nodes
 unfold nodeAt
 rw [e,List.getD_eq_getElem?_getD,List.getD_eq_getElem?_getD,List.getElem?_append_left (by omega)]
theorem Ext.num (h:Ext T T') {i:Int} (hi:hasT T i=true):numAt T' i=numAt T i:=by
 have h1:=hasT_iff.1 hi
 obtain ⟨k,rfl⟩:=Int.eq_ofNat_of_zero_le h1.1
 exact h.nums k (by omega)
theorem nth_map {g:Int→Int} {l:List Int} {j:Nat} (h:j<l.length):nth (l.map g) j=g (nth l j):=by
 rw [nth_eq (by simpa using h),nth_eq h,List.getElem_map]
theorem allD_map (g:Int→Int) {l:List Int} (s:Int) (h:∀x∈l,(nodeAt T' (g x)).sort=(nodeAt T x).sort):allD T' (l.map g) s=allD T l s:=by
 unfold allD
 rw [List.any_map]
 congr 1
 rw [Bool.eq_iff_iff,List.any_eq_true,List.any_eq_true]
 constructor
 ·rintro ⟨x,hx,h2⟩;exact⟨x,hx,by rw [←h x hx];exact h2⟩
 ·rintro ⟨x,hx,h2⟩;exact⟨x,hx,by show(!((nodeAt T' (g x)).sort == s))=true;rw [h x hx];exact h2⟩
theorem alikeD_map (g:Int→Int) {l:List Int} (h:∀x∈l,(nodeAt T' (g x)).sort=(nodeAt T x).sort):alikeD T' (l.map g)=alikeD T l:=by
 unfold alikeD
 rw [List.length_map]
 by_cases h2:2≤l.length
 ·rw [nth_map (by omega),h _ (nth_mem (by omega)),allD_map g _ h]
 ·rw [decide_eq_false h2];rfl
theorem others_map (g:Int→Int) {l:List Int} (h:∀x∈l,numAt T' (g x)=numAt T x):others T' (l.map g)=others T l:=by
 unfold others
 rw [List.filter_map,List.length_map]
 congr 1
 exact List.filter_congr fun x hx=>by show(!(numAt T' (g x)).1)=_;rw [h x hx]
theorem numAll_map (g:Int→Int) {l:List Int} (h:∀x∈l,numAt T' (g x)=numAt T x):numAll T' (l.map g)=numAll T l:=by
 unfold numAll
 rw [List.all_map,Bool.eq_iff_iff,List.all_eq_true,List.all_eq_true]
 constructor
 ·intro h1 x hx;rw [←h x hx];exact h1 x hx
 ·intro h1 x hx;show(numAt T' (g x)).1=true;rw [h x hx];exact h1 x hx
theorem quotientD_map (g:Int→Int) {l:List Int} (h:∀x∈l,numAt T' (g x)=numAt T x):quotientD T' (l.map g)=quotientD T l:=by
 unfold quotientD
 rw [←List.map_drop,List.any_map]
 congr 1
 rw [Bool.eq_iff_iff,List.any_eq_true,List.any_eq_true]
 constructor
 ·rintro ⟨x,hx,h2⟩;exact⟨x,hx,by change badQuot T' (g x)=true at h2;unfold badQuot at h2 ⊢;rw [h x (List.mem_of_mem_drop hx)] at h2;exact h2⟩
 ·rintro ⟨x,hx,h2⟩;exact⟨x,hx,by show badQuot T' (g x)=true;unfold badQuot at h2 ⊢;rw [h x (List.mem_of_mem_drop hx)];exact h2⟩
theorem sameSorts_map (g : Int → Int) : ∀ {l : List Int} (ss : List Int), (∀ x ∈ l, (nodeAt T' (g x)).sort = (nodeAt T x).sort) → sameSorts T' (l.map g) ss = sameSorts T l ss
  | [], ss, _ => by simp [sameSorts]
  | a :: l, [], _ => by simp [sameSorts]
  | a :: l, s :: ss, h => by
    show ((nodeAt T' (g a)).sort == s && sameSorts T' (l.map g) ss) = ((nodeAt T a).sort == s && sameSorts T l ss)
    rw [h a (by simp), sameSorts_map g ss fun x hx => h x (by simp [hx])]
theorem numericD_map (g:Int→Int) (op:Int) {l:List Int} (h:∀x∈l,(nodeAt T' (g x)).sort=(nodeAt T x).sort∧numAt T' (g x)=numAt T x):numericD T' op (l.map g)=numericD T op l:=by
 unfold numericD productD
 rw [List.length_map,allD_map g _ fun x hx=>(h x hx).1,others_map g fun x hx=>(h x hx).2,quotientD_map g fun x hx=>(h x hx).2]
theorem sortedD_map (hS:T'.S=T.S) (g:Int→Int) (op:Int) (nm:ByteArray) {l:List Int} (h:∀x∈l,(nodeAt T' (g x)).sort=(nodeAt T x).sort∧numAt T' (g x)=numAt T x):sortedD T' op nm (l.map g)=sortedD T op nm l:=by
 have h1:∀x∈l,(nodeAt T' (g x)).sort=(nodeAt T x).sort:=fun x hx=>(h x hx).1
 have hi:iteD T' (l.map g)=iteD T l:=by
  unfold iteD
  rw [List.length_map]
  by_cases h3:l.length=3
  ·rw [nth_map (by omega),nth_map (by omega),h1 _ (nth_mem (by omega)),h1 _ (nth_mem (by omega)),←List.map_drop,alikeD_map g fun x hx=>h1 x (List.mem_of_mem_drop hx)]
  ·rw [if_neg fun e=>h3 e.1,if_neg fun e=>h3 e.1]
 have hc:callD T' nm (l.map g)=callD T nm l:=by
  unfold callD
  rw [hS,List.length_map,sameSorts_map g _ h1]
 unfold sortedD
 rw [hi,hc,numericD_map g op h,alikeD_map g h1,allD_map g _ h1,List.length_map]
theorem sortedD_ext (h:Ext T T') (op:Int) (nm:ByteArray) {l:List Int} (hl:∀x∈l,hasT T x=true):sortedD T' op nm l=sortedD T op nm l:=by
 have:=sortedD_map h.s id op nm (l:=l) fun x hx=>⟨by rw [id,h.node (hl x hx)],h.num (hl x hx)⟩
 rwa [List.map_id] at this
theorem numberD_map (g:Int→Int) {x y:NodeD} (ho:y.op=x.op) (hv:y.val=x.val) (ha:y.args=x.args.map g) (hd:x.op=16→1≤x.args.length) (h:∀a∈x.args,numAt T' (g a)=numAt T a):numberD T' y=numberD T x:=by
 unfold numberD
 rw [ho,hv,ha,numAll_map g h,List.length_map]
 by_cases hc:x.op=16∨x.args.length=1
 ·simp only [if_pos hc]
  have h0:0<x.args.length:=by
   rcases hc with hc | hc
   ·exact hd hc
   ·omega
  rw [nth_map h0,h _ (nth_mem h0)]
 ·simp only [if_neg hc]
theorem Ext.add (hn:T.nums.length=T.nodes.length) (n:NodeD):Ext T (addN T n):=
 ⟨⟨[n],rfl⟩,fun k hk=>numAt_add hn n (by omega) (by omega),rfl⟩
theorem put_ok (h : TInv T) {x : NodeD} (h1 : x.val.num.length ≤ 1000000) (h2 : x.val.den.length ≤ 1000000) (h3 : x.args.length ≤ 1000000) (hi : InT T x.args) (hq : NodeQ x) (hd : x.op = 16 → 1 ≤ x.args.length) (hl : T.nodes.length < 16384) :
    ∃ (j : Nat) (T2 : TermD), putD T x = (((j : Int), 0), T2) ∧ T2.nodes[j]? = some x ∧ Ext T T2 ∧ TInv T2 ∧ T2.nodes.length ≤ T.nodes.length + 1 ∧ T2.fresh = T.fresh ∧ (T2 = T ∨ T2 = addN T x) := by
  have hp := h.put h1 h2 h3 hi hq hd
  cases hk : T.ids (keyB x) with
  | some i =>
    rw [put_some hk] at hp ⊢
    obtain ⟨j, n, rfl, hj, he⟩ := h.ids.back _ _ hk
    have : n = x := key_inj (h.ids.q n (List.mem_of_getElem? hj)) hq he
    subst this
    exact ⟨j, T, rfl, hj, .refl T, h, by omega, rfl, .inl rfl⟩
  | none =>
    rw [put_addN hk hl] at hp ⊢
    exact ⟨T.nodes.length, addN T x, rfl, by show (T.nodes ++ [x])[_]? = _; rw [List.getElem?_append_right (Nat.le_refl _), Nat.sub_self]; rfl, .add h.ok.sm.nn x, hp, by show (T.nodes ++ [x]).length ≤ _; simp, rfl, .inr rfl⟩
theorem make_ok (h:TInv T) {op:Int} {nm:ByteArray} {val:RatD} {args:List Int} {s:Int} (h1:val.num.length≤1000000) (h2:val.den.length≤1000000) (hb:badHead op args=false) (hv:badVal op nm val=false) (hi:∀x∈args,hasT T x=true) (hs:sortedD T op nm args=(s,true)) (hl:T.nodes.length<16384) :
  ∃(j:Nat) (T2:TermD),makeD T op nm val args=(((j:Int),0),T2)∧T2.nodes[j]? = some ⟨op,nm,val,args,s⟩∧Ext T T2∧TInv T2∧T2.nodes.length≤T.nodes.length+1∧T2.fresh=T.fresh:=by
 have hs2:(sortedD T op nm args).2=true:=by rw [hs]
 have hq:=make_q h.fq hv hs2
 have hd:=fun e:op=16=>sorted_div2 hs2 e
 have hal:args.length≤1000000:=by unfold badHead at hb;simp at hb;omega
 have ha:args.any (fun i=>!hasT T i)=false:=by rw [List.any_eq_false];intro x hx;rw [hi x hx];simp
 rw [hs] at hq
 unfold makeD
 rw [hb,hv,ha,hs]
 simp only [Bool.false_eq_true,if_false,if_true]
 obtain ⟨j,T2,e1,e2,e3,e4,e5,e6,_⟩:=put_ok (x:=⟨op,nm,val,args,s⟩) h h1 h2 hal (inT_of ha) hq hd hl
 exact⟨j,T2,e1,e2,e3,e4,e5,e6⟩
end
instance (nm:ByteArray):Decidable (NameQ nm):=by unfold NameQ;exact inferInstance
theorem nameQ_fresh1:∀k:Fin 200,(decide (NameQ (freshName ((k.val:Nat):Int))))=true:=by decide +kernel
theorem nameQ_fresh {f:Int} (h0:0≤f) (h:f<200):NameQ (freshName f):=by
 obtain ⟨k,rfl⟩:=Int.eq_ofNat_of_zero_le h0
 exact of_decide_eq_true (nameQ_fresh1 ⟨k,by omega⟩)
section
variable {T T' : TermD}
theorem fresh_ok (h:TInv T) {s:Int} (hs:isB T.S.sorts.length s=true) (hf:T.fresh<200) (hl:T.nodes.length<16384) :
  ∃(j:Nat) (T2:TermD),freshD T s=(((j:Int),0),T2)∧T2.nodes[j]? = some (freshNode T s)∧Ext T T2∧TInv T2∧T2.nodes.length≤T.nodes.length+1∧T2.fresh=T.fresh+1:=by
 have hok:=h.ok.fresh s (by omega)
 have hq:NodeQ (freshNode T s):=⟨nameQ_fresh h.ok.sm.fr.1 hf,fun e=>(by cases e),fun _=>rfl⟩
 obtain ⟨j,T2,e1,e2,e3,e4,e5,e6,_⟩:=put_ok (x:=freshNode T s) h (Nat.zero_le _) (Nat.zero_le _) (Nat.zero_le _) (fun i hi=>by simp [freshNode] at hi) hq (fun e=>by cases e) hl
 unfold freshD at hok ⊢
 rw [hs] at hok ⊢
 simp only [if_true] at hok ⊢
 rw [e1] at hok ⊢
 simp only [if_true] at hok ⊢
 exact⟨j,_,rfl,e2,⟨e3.nodes,e3.nums,e3.s⟩,⟨hok,⟨e4.ids.back,e4.ids.fwd,e4.ids.q⟩,⟨e4.nu.nums,e4.nu.div,e4.nu.num⟩,e4.fq⟩,e5,rfl⟩
structure SrtI (T:TermD):Prop where
 so:∀x∈T.nodes,x.args ≠ []∨x.op≠12→sortedD T x.op x.name x.args=(x.sort,true)∧badHead x.op x.args=false∧badVal x.op x.name x.val=false
 sb:∀x∈T.nodes,isB T.S.sorts.length x.sort=true
 fb:∀f∈T.S.funs,isB T.S.sorts.length f.res=true
 vl:∀x∈T.nodes,x.val.num.length≤1000000∧x.val.den.length≤1000000
theorem isB_0 (n:Nat):isB n 0=true:=by unfold isB;simp;omega
theorem isB_1 (n:Nat):isB n 1=true:=by unfold isB;simp;omega
theorem SrtI.node (h:SrtI T) (i:Int):isB T.S.sorts.length (nodeAt T i).sort=true:=by
 unfold nodeAt
 rw [List.getD_eq_getElem?_getD]
 cases hh:T.nodes[i.toNat]? with
 | none=>exact isB_0 _
 | some x=>exact h.sb x (List.mem_of_getElem? hh)
theorem SrtI.sorted (h:SrtI T) (op:Int) (nm:ByteArray) (args:List Int):isB T.S.sorts.length (sortedD T op nm args).1=true:=by
 unfold sortedD iteD callD
 repeat' split
 all_goals first | exact isB_0 _ | exact isB_1 _ | exact h.node _ | skip
 all_goals
  unfold lookF
  cases hh:findF T.S nm with
  | none=>exact isB_0 _
  | some f=>exact h.fb f (List.mem_of_find?_eq_some hh)
theorem hasT_of_inT {l:List Int} (h:InT T l) {x:Int} (hx:x∈l):hasT T x=true:=hasT_iff.2 (h x hx)
theorem SrtI.make (h : SrtI T) (ti : TInv T) {op : Int} {nm : ByteArray} {val : RatD} {args : List Int} (h1 : val.num.length ≤ 1000000) (h2 : val.den.length ≤ 1000000) : SrtI (makeD T op nm val args).2 := by
  unfold makeD
  split
  · exact h
  · rename_i hb
    split
    · exact h
    · rename_i hv
      split
      · exact h
      · rename_i ha
        split
        · rename_i hs
          have hin := inT_of (by simpa using ha)
          generalize hx : (⟨op, nm, val, args, (sortedD T op nm args).1⟩ : NodeD) = x
          cases hk : T.ids (keyB x) with
          | some i => rw [put_some hk]; exact h
          | none =>
            by_cases hl : 16384 ≤ T.nodes.length
            · rw [put_full hk hl]; exact h
            · rw [put_addN hk (by omega)]
              have hE := Ext.add ti.ok.sm.nn x
              have hN : (addN T x).nodes = T.nodes ++ [x] := rfl
              refine ⟨fun y hy hne => ?_, fun y hy => ?_, h.fb, fun y hy => ?_⟩
              · rw [hN] at hy
                rcases List.mem_append.1 hy with hy | hy
                · obtain ⟨k, hk2, rfl⟩ := List.getElem_of_mem hy
                  rw [sortedD_ext hE _ _ fun a ha2 => hasT_of_inT (ti.ok.ord.inT (List.getElem?_eq_getElem hk2)) ha2]
                  exact h.so _ hy hne
                · obtain rfl := List.mem_singleton.1 hy
                  subst hx
                  rw [sortedD_ext hE _ _ fun a ha2 => hasT_of_inT hin ha2]
                  exact ⟨Prod.ext rfl hs, by simpa using hb, by simpa using hv⟩
              · rw [hN] at hy
                rcases List.mem_append.1 hy with hy | hy
                · exact h.sb y hy
                · obtain rfl := List.mem_singleton.1 hy
                  subst hx
                  exact h.sorted op nm args
              · rw [hN] at hy
                rcases List.mem_append.1 hy with hy | hy
                · exact h.vl y hy
                · obtain rfl := List.mem_singleton.1 hy
                  subst hx
                  exact ⟨h1, h2⟩
        · exact h
theorem make_has (ti : TInv T) {op : Int} {nm : ByteArray} {val : RatD} {args : List Int} (he : (makeD T op nm val args).1.2 = 0) : hasT (makeD T op nm val args).2 (makeD T op nm val args).1.1 = true := by
  unfold makeD at he ⊢
  split at he
  · cases he
  · rename_i hb
    rw [if_neg hb]
    split at he
    · cases he
    · rename_i hv
      rw [if_neg hv]
      split at he
      · cases he
      · rename_i ha
        rw [if_neg ha]
        split at he
        · rename_i hs
          rw [if_pos hs]
          generalize (⟨op, nm, val, args, (sortedD T op nm args).1⟩ : NodeD) = x at he ⊢
          cases hk : T.ids (keyB x) with
          | some i => rw [put_some hk]; exact hasT_iff.2 (ti.ok.sm.ids _ _ hk)
          | none =>
            by_cases hl : 16384 ≤ T.nodes.length
            · rw [put_full hk hl] at he; cases he
            · rw [put_addN hk (by omega)]
              exact hasT_iff.2 ⟨by show (0 : Int) ≤ (T.nodes.length : Int); omega, by show (T.nodes.length : Int) < ((T.nodes ++ [x]).length : Int); rw [List.length_append, List.length_singleton]; omega⟩
        · cases he
end
theorem fresh_inj {j k:Int} (h:freshName j=freshName k):j=k:=by
 unfold freshName at h
 injection h with h
 have h2:=congrArg Array.toList h
 simp only [List.cons.injEq,true_and] at h2
 exact itoa_inj h2
theorem freshName_ne (k:Int):freshName k≠⟨#[]⟩:=by
 intro h
 unfold freshName at h
 injection h with h
 have h2:=congrArg Array.toList h
 simp at h2
theorem nameQ_fresh2:∀k:Fin 2000,(decide (NameQ (freshName ((k.val:Nat):Int))))=true:=by decide +kernel
structure FrI (T:TermD):Prop where
 nm:∀x∈T.nodes,∀k:Int,T.fresh≤k→x.name≠freshName k
 fn:∀f∈T.S.funs,∀k:Int,f.name≠freshName k
section
variable {T : TermD}
theorem made_name {op : Int} {nm : ByteArray} {val : RatD} {args : List Int} (hb : badVal op nm val = false) (hs : (sortedD T op nm args).2 = true) : nm = ⟨#[]⟩ ∨ ∃ f ∈ T.S.funs, f.name = nm := by
  unfold badVal at hb
  simp only [Bool.or_eq_false_iff, Bool.and_eq_false_iff, Bool.not_eq_false', beq_iff_eq, beq_eq_false_iff_ne] at hb
  obtain ⟨⟨b1, _⟩, _⟩ := hb
  by_cases h12 : op = 12
  · subst h12
    have e : sortedD T 12 nm args = callD T nm args := rfl
    rw [e] at hs
    unfold callD at hs
    split at hs
    · rename_i hh
      cases hfo : findF T.S nm with
      | none => rw [hfo] at hh; exact absurd hh.1 (by decide)
      | some f =>
        have h1 := List.find?_some hfo
        have h3 : f.name = nm := by
          unfold eqS at h1
          first | exact eqb_iff.1 h1 | simpa using h1
        exact .inr ⟨f, List.mem_of_find?_eq_some hfo, h3⟩
    · cases hs
  · rcases b1 with b1 | b1
    · exact absurd b1 h12
    · obtain ⟨l⟩ := nm
      have : l = #[] := Array.eq_empty_of_size_eq_zero b1
      rw [this]; exact .inl rfl
theorem make_cases (T : TermD) (op : Int) (nm : ByteArray) (val : RatD) (args : List Int) : (makeD T op nm val args).2 = T ∨
    (makeD T op nm val args).2 = addN T ⟨op, nm, val, args, (sortedD T op nm args).1⟩ ∧ badVal op nm val = false ∧ (sortedD T op nm args).2 = true := by
  unfold makeD
  split
  · exact .inl rfl
  · split
    · exact .inl rfl
    · rename_i hb
      split
      · exact .inl rfl
      · split
        · rename_i hs
          generalize hx : (⟨op, nm, val, args, (sortedD T op nm args).1⟩ : NodeD) = x
          cases hk : T.ids (keyB x) with
          | some i => rw [put_some hk]; exact .inl rfl
          | none =>
            by_cases hl : 16384 ≤ T.nodes.length
            · rw [put_full hk hl]; exact .inl rfl
            · rw [put_addN hk (by omega)]; exact .inr ⟨rfl, by simpa using hb, hs⟩
        · exact .inl rfl
theorem make_fresh (T:TermD) (op:Int) (nm:ByteArray) (val:RatD) (args:List Int):(makeD T op nm val args).2.fresh=T.fresh:=by
 rcases make_cases T op nm val args with e | ⟨e,_⟩ <;> rw [e] <;> rfl
theorem FrI.make (h:FrI T) (op:Int) (nm:ByteArray) (val:RatD) (args:List Int):FrI (makeD T op nm val args).2:=by
 rcases make_cases T op nm val args with e | ⟨e,hb,hs⟩
 ·rw [e];exact h
 ·rw [e]
  refine⟨fun x hx k hk=>?_,h.fn⟩
  rcases List.mem_append.1 hx with hx | hx
  ·exact h.nm x hx k hk
  ·obtain rfl:=List.mem_singleton.1 hx
   rcases made_name hb hs with e2 | ⟨f,hf,e2⟩
   ·show nm≠_
    rw [e2];exact fun e3=>freshName_ne k e3.symm
   ·show nm≠_
    rw [←e2];exact h.fn f hf k
theorem FrI.new (h:FrI T) (s:Int):freshNode T s∉T.nodes:=fun hm=>h.nm _ hm T.fresh (Int.le_refl _) rfl
theorem fresh_new (h:TInv T) (hi:FrI T) {s:Int} (hs:isB T.S.sorts.length s=true) (hf:T.fresh<2000) (hl:T.nodes.length<16384) :
  freshD T s=(((T.nodes.length:Int),0),{ addN T (freshNode T s) with fresh:=T.fresh+1 }):=by
 have hf0:=h.ok.sm.fr.1
 have hq:NameQ (freshName T.fresh):=by
  obtain ⟨k,hk⟩:=Int.eq_ofNat_of_zero_le hf0
  rw [hk]
  exact of_decide_eq_true (nameQ_fresh2 ⟨k,by omega⟩)
 have hm:=h.ids.miss (x:=freshNode T s) ⟨hq,fun e=>(by cases e),fun _=>rfl⟩ (hi.new s)
 unfold freshD
 rw [hs,put_addN hm hl]
 rfl
theorem fresh_ok2 (h:TInv T) (hi:FrI T) {s:Int} (hs:isB T.S.sorts.length s=true) (hf:T.fresh<2000) (hl:T.nodes.length<16384) :
  ∃T2:TermD,freshD T s=(((T.nodes.length:Int),0),T2)∧T2.nodes=T.nodes ++ [freshNode T s]∧Ext T T2∧TInv T2∧FrI T2∧T2.fresh=T.fresh+1:=by
 have hf0:=h.ok.sm.fr.1
 have hok:=h.ok.fresh s (by omega)
 have hq:NodeQ (freshNode T s):=by
  obtain ⟨k,hk⟩:=Int.eq_ofNat_of_zero_le hf0
  refine⟨?_,fun e=>(by cases e),fun _=>rfl⟩
  show NameQ (freshName T.fresh)
  rw [hk]
  exact of_decide_eq_true (nameQ_fresh2 ⟨k,by omega⟩)
 have hm:=h.ids.miss hq (hi.new s)
 obtain ⟨j,T2,e1,e2,e3,e4,e5,e6,e7⟩:=put_ok (x:=freshNode T s) h (Nat.zero_le _) (Nat.zero_le _) (Nat.zero_le _) (fun i hi=>by simp [freshNode] at hi) hq (fun e=>by cases e) hl
 rw [put_addN hm hl] at e1
 obtain ⟨ej,e1⟩:=Prod.ext_iff.1 e1
 dsimp only at ej e1
 subst e1
 have e:=fresh_new h hi hs hf hl
 rw [e] at hok
 refine⟨_,e,rfl,⟨e3.nodes,e3.nums,e3.s⟩,⟨hok,⟨e4.ids.back,e4.ids.fwd,e4.ids.q⟩,⟨e4.nu.nums,e4.nu.div,e4.nu.num⟩,e4.fq⟩,⟨fun x hx k hk=>?_,hi.fn⟩,rfl⟩
 change T.fresh+1≤k at hk
 rcases List.mem_append.1 hx with hx | hx
 ·exact hi.nm x hx k (by omega)
 ·obtain rfl:=List.mem_singleton.1 hx
  intro e9
  have:=fresh_inj e9
  omega
structure InvT (T:TermD):Prop where
 ti:TInv T
 si:SrtI T
 fi:FrI T
theorem InvT.make (h:InvT T) (op:Int) (nm:ByteArray) (val:RatD) (args:List Int) (h1:val.num.length≤1000000) (h2:val.den.length≤1000000):InvT (makeD T op nm val args).2:=⟨h.ti.make h1 h2,h.si.make h.ti h1 h2,h.fi.make op nm val args⟩
theorem InvT.fresh (h : InvT T) (s : Int) (hf : T.fresh < 2000) : InvT (freshD T s).2 ∧ T.fresh ≤ (freshD T s).2.fresh ∧ (freshD T s).2.fresh ≤ T.fresh + 1 := by
  cases hs : isB T.S.sorts.length s with
  | false =>
    unfold freshD
    rw [hs]
    exact ⟨h, Int.le_refl _, by show T.fresh ≤ _; omega⟩
  | true =>
    by_cases hl : T.nodes.length < 16384
    · obtain ⟨T2, e1, e2, e3, e4, e5, e6⟩ := fresh_ok2 h.ti h.fi hs hf hl
      rw [e1]
      refine ⟨⟨e4, ⟨fun x hx hne => ?_, fun x hx => ?_, ?_, fun x hx => ?_⟩, e5⟩, by show _ ≤ T2.fresh; omega, by show T2.fresh ≤ _; omega⟩
      · rw [e2] at hx
        rcases List.mem_append.1 hx with hx | hx
        · obtain ⟨k, hk2, rfl⟩ := List.getElem_of_mem hx
          rw [sortedD_ext e3 _ _ fun a ha2 => hasT_of_inT (h.ti.ok.ord.inT (List.getElem?_eq_getElem hk2)) ha2]
          exact h.si.so _ hx hne
        · obtain rfl := List.mem_singleton.1 hx
          rcases hne with hne | hne <;> exact absurd rfl hne
      · rw [e3.s]
        rw [e2] at hx
        rcases List.mem_append.1 hx with hx | hx
        · exact h.si.sb x hx
        · obtain rfl := List.mem_singleton.1 hx; exact hs
      · rw [e3.s]; exact h.si.fb
      · rw [e2] at hx
        rcases List.mem_append.1 hx with hx | hx
        · exact h.si.vl x hx
        · obtain rfl := List.mem_singleton.1 hx; exact ⟨Nat.zero_le _, Nat.zero_le _⟩
    · have hf0 := h.ti.ok.sm.fr.1
      have hq : NodeQ (freshNode T s) := by
        obtain ⟨k, hk⟩ := Int.eq_ofNat_of_zero_le hf0
        refine ⟨?_, fun e => (by cases e), fun _ => rfl⟩
        show NameQ (freshName T.fresh)
        rw [hk]
        exact of_decide_eq_true (nameQ_fresh2 ⟨k, by omega⟩)
      have hm := h.ti.ids.miss hq (h.fi.new s)
      unfold freshD
      rw [hs, put_full hm (by omega)]
      exact ⟨h, Int.le_refl _, by show T.fresh ≤ _; omega⟩
theorem InvT.val (h:InvT T) (i:Int):(nodeAt T i).val.num.length≤1000000∧(nodeAt T i).val.den.length≤1000000:=by
 unfold nodeAt
 rw [List.getD_eq_getElem?_getD]
 cases hh:T.nodes[i.toNat]? with
 | none=>exact⟨Nat.zero_le _,Nat.zero_le _⟩
 | some x=>exact h.si.vl x (List.mem_of_getElem? hh)
theorem InvT.X (h:InvT T) (X:Nat→Prop):InvT { T with X:=X }:=
 ⟨⟨h.ti.ok.X X,⟨h.ti.ids.back,h.ti.ids.fwd,h.ti.ids.q⟩,⟨h.ti.nu.nums,h.ti.nu.div,h.ti.nu.num⟩,h.ti.fq⟩,⟨fun x hx hn=>by rw [sortedD_X];exact h.si.so x hx hn,h.si.sb,h.si.fb,h.si.vl⟩,⟨h.fi.nm,h.fi.fn⟩⟩
end
structure MdI (S:TabD) (T:TermD) (k:Nat):Prop where
 ti:TInv T
 g:TermG T
 len:T.nodes.length≤k
 fr:T.fresh=0
 s:T.S=S
 si:SrtI T
 fi:FrI T
theorem MdI.make {S : TabD} {T : TermD} {k : Nat} (h : MdI S T k) (op : Int) (nm : ByteArray) (val : RatD) (args : List Int) (h1 : val.num.length ≤ 8) (h2 : val.den.length ≤ 8) (h3 : nm.size ≤ 100) : MdI S (makeD T op nm val args).2 (k + 1) := by
  have g := h.g.make op (nm := nm) (val := val) args (by omega) (by omega) (by omega)
  have e : (makeD T op nm val args).2 = T ∨ ∃ n, (makeD T op nm val args).2 = (putD T n).2 := by
    unfold makeD
    split
    · exact .inl rfl
    · split
      · exact .inl rfl
      · split
        · exact .inl rfl
        · split
          · exact .inr ⟨_, rfl⟩
          · exact .inl rfl
  refine ⟨h.ti.make (by omega) (by omega), g.g, ?_, ?_, ?_, h.si.make h.ti (by omega) (by omega), h.fi.make op nm val args⟩
  · rcases e with e | ⟨n, e⟩
    · rw [e]; have := h.len; omega
    · rw [e]
      rcases nodes_put T n with e2 | e2
      · rw [e2]; have := h.len; omega
      · rw [e2, List.length_append, List.length_singleton]; have := h.len; omega
  · rcases e with e | ⟨n, e⟩
    · rw [e]; exact h.fr
    · rw [e, fresh_put]; exact h.fr
  · rcases e with e | ⟨n, e⟩
    · rw [e]; exact h.s
    · rw [e]
      cases hk : T.ids (keyB n) with
      | some i => rw [put_some hk]; exact h.s
      | none =>
        by_cases hl : 16384 ≤ T.nodes.length
        · rw [put_full hk hl]; exact h.s
        · rw [put_addN hk (by omega)]; exact h.s
theorem TInv.X {T:TermD} (h:TInv T) (X:Nat→Prop):TInv { T with X:=X }:=⟨h.ok.X X,⟨h.ids.back,h.ids.fwd,h.ids.q⟩,⟨h.nu.nums,h.nu.div,h.nu.num⟩,h.fq⟩
def MadeP (w0:World) (p r q:Nat) (S:TabD) (n:Nat) (e:Ending) (w':World):Prop:=
 ∃(T:TermD) (ids:List Int) (v:Value),e = .returned (.tuple #[v,.bool true])∧Two w0 p r q { T with X:=rowB v } w'∧MdI S T n∧ids.length=n∧(∀i∈ids,-1≤i∧i<(T.nodes.length:Int))∧OwnC w' w0.heap.size 3 1 v ids.length (ids.map (Value.int .i64))
theorem Two.sameX {w0 w:World} {p r q:Nat} {T:TermD} {X Y:Nat→Prop} (h:Two w0 p r q { T with X:=X } w) (hY:∀k,Y k→X k):Two w0 p r q { T with X:=Y } w:=
 h.excl (X':=Y) (Below.refl _ _) (fun _ _ _=>rfl) fun k hk=>⟨.inl (hY k hk),(h.xd k (hY k hk)).2⟩
theorem Two.more {w0 w w':World} {p r q:Nat} {T:TermD} {X Y:Nat→Prop} (h:Two w0 p r q { T with X:=X } w) (hb:Below w.heap.size w w') (hY:∀k,Y k→X k∨(w.heap.size≤k∧∃cs f,w'.heap[k]? = some (.cells cs 3 f))):Two w0 p r q { T with X:=Y } w':=
 h.excl (X':=Y) (hb.mono h.st.b.size) (fun k hk _=>hb.block k hk) fun k hk=>by
  rcases hY k hk with e | e
  ·obtain ⟨_,cs,f,hc⟩:=h.xd k e
   exact⟨.inl e,cs,f,(hb.block k (Array.getElem?_eq_some_iff.1 hc).1).trans hc⟩
  ·exact⟨.inr e.1,e.2⟩
theorem Two.push {w0 w w':World} {p r q:Nat} {T:TermD} {v v':Value} {n m:Nat} {xs ys:List Value} (h:Two w0 p r q { T with X:=rowB v } w) (ho:OwnC w w0.heap.size 3 1 v n xs) (hg:w.grownBy w' v.ownBlock) (ho':OwnC w' w0.heap.size 3 1 v' m ys) (hl:v'.ownBlock=v.ownBlock∨∀k,v'.ownBlock=some k→w.heap.size≤k):Two w0 p r q { T with X:=rowB v' } w':=by
 have hb:Below w0.heap.size w w':=(Below.refl _ _).grown hg h.st.b.size fun k hk=>(ho.lt k hk).1
 refine h.excl (X':=rowB v') hb (fun k _ hn=>hg.block k ‹_› (fun e=>hn e.symm)) (fun k e=>⟨?_,ho'.ty k e⟩)
 rcases hl with hl | hl
 ·exact .inl (by show v.ownBlock=some k;rw [←hl];exact e)
 ·exact .inr (hl k e)
theorem OwnC.datX {w:World} {base n c:Nat} {a:Option Addr} {xs:List Int} (h:OwnC w base 3 1 (.slice a n c) n (xs.map (Value.int .i64))) (hx:∀x∈xs,okI x):SlR Rep.int (DatB w) w a n xs:=
 SlR.ofI (OwnC.rdX h hx) fun y hn e=>by
  obtain ⟨gb,cap,hv,_,_⟩:=h.form hn
  injection hv with h1 h2 h3
  rw [h1] at e
  injection e with e
  subst e
  exact h.dat gb (by rw [h1];rfl)
theorem OwnC.rstep {w w':World} {base s n r:Nat} {v:Value} {xs:List Value} (h:OwnC w base 3 s v n xs) (hd:∃cs f,w.heap[r]? = some (.cells cs 51 f)) (hs:RStep r w w'):OwnC w' base 3 s v n xs:=
 h.same fun k hk=>hs.block k (h.lt k hk).2 fun e=>by subst e;exact ty_ne (by decide) (h.ty k hk) hd
theorem SlR.lowB {α:Type} {R:Rep α} {w w':World} {a:Option Addr} {n B:Nat} {xs:List α} (h:SlR R (fun k=>k<B) w a n xs) (hb:Below B w w'):SlR R (fun k=>k<B) w' a n xs:=h.keep (fun b _ hk=>hb.block b hk) hb.size
end Go.Proofs.YtgoojkiccdjplaaGreatDoor
