/-
  Parts of this claim's texts, one behind the other: CI CK CL CJ. No condition.
-/
import Derived.Test.YtgoojkiccdjplaaGreatDoorM19
import Derived.Test.YtgoojkiccdjplaaGreatDoorM4
import Derived.Lib.ItoaMem
import Derived.Test.YtgoojkiccdjplaaGreatDoorM23
import Derived.Test.YtgoojkiccdjplaaGreatDoorM24
set_option linter.unusedVariables false
set_option linter.unusedSimpArgs false
set_option maxRecDepth 100000
set_option maxHeartbeats 16000000
namespace Go.Proofs.YtgoojkiccdjplaaGreatDoor
open Go.RowKit Go.Sort Go.Lib
theorem rvalidCo_any (ng:Bool) (nu de:List Int) (x y:Nat) (a b:Option Addr) (c d:Nat) (w:World) (hnu:nu=limbs x) (hde:de=limbs y) (h1:SlR Rep.u64 (fun _=>True) w a nu.length nu) (h2:SlR Rep.u64 (fun _=>True) w b de.length de) (k1:okNat nu=true) (k2:okNat de=true) (hn:nu.length≤64) (hm:de.length≤64)
  (hc:nu.length≤c∧c≤maxLen) (hd:de.length≤d∧d≤maxLen) (hd0:0<de.length) (hng:ng=true→0<nu.length) :
  Calls Tryz.prog 116 #[ratV ⟨ng,nu,de⟩ a c b d] w fun e w'=>e = .returned (.bool (Nat.gcd x y == 1))∧Below w.heap.size w w':=by
 have hB0:Below w.heap.size w (w.alloc (.cells #[.bool ng,.slice a nu.length c,.slice b de.length d] 36)):=(Below.refl _ _).alloc (Nat.le_refl _) _
 have hb0:=heap_alloc_new w (.cells #[.bool ng,.slice a nu.length c,.slice b de.length d] 36)
 have hB0':=hid hB0
 have hv1:=hid (rvalidNat_any a nu.length c nu _ (h1.below hB0 (Nat.le_refl _)) (by omega))
 have hv2:=hid (rvalidNat_any b de.length d de _ (h2.below hB0 (Nat.le_refl _)) (by omega))
 rw [k1] at hv1
 rw [k2] at hv2
 have hNX:NatT x w (.slice a nu.length c):=⟨a,c,by rw [←hnu],by rw [←hnu];exact h1,by rw [←hnu];exact hc.1,hc.2,by rw [←hnu];omega⟩
 have hNY:NatT y w (.slice b de.length d):=⟨b,d,by rw [←hde],by rw [←hde];exact h2,by rw [←hde];exact hd.1,hd.2,by rw [←hde];omega⟩
 have hgc:=hid (rgcd_any (.slice a nu.length c) (.slice b de.length d) x y _ (hNX.all hB0) (hNY.all hB0))
 have hco:=hid (cmpN_one (g:=Nat.gcd x y))
 have hdi:(0:Int)<de.length:=by omega
 have q0:=cell_p hb0 0
 have q1:=cell_p hb0 1
 have q2:=cell_p hb0 2
 simp only [List.getElem?_toArray,List.getElem?_cons_succ,List.getElem?_cons_zero] at q0 q1 q2
 clear hB0 hb0 h1 h2 k1 k2 hnu hde hNX hNY hc hd
 cases ng
 case false=>
  clear hng
  go_enter Tryz.func116,Tryz.ntmps116
  go_wp2_with fail
  generalize w.alloc (.cells #[.bool false,.slice a nu.length c,.slice b de.length d] 36)=w0 at *
  refine hv1.out.mono ?_;rintro e w' ⟨rfl,rfl⟩
  go_wp2_with fail
  refine hv2.out.mono ?_;rintro e w' ⟨rfl,rfl⟩
  go_wp2_with fail
  refine hgc.out.mono ?_;rintro e w2 ⟨v2,rfl,hT2,hb2⟩
  have T2:=hid hT2
  have B2:=hid (hB0'.out.trans (hb2.mono hB0'.out.size))
  clear hT2 hb2 hgc
  go_wp2_with fail
  refine(rone_any w2).mono ?_;rintro e w3 ⟨rfl,hw3⟩
  have b3:Below w2.heap.size w2 w3:=by rw [hw3];exact(Below.refl _ _).alloc (Nat.le_refl _) _
  have hN1:NatT 1 w3 (.slice (some ⟨w2.heap.size,0,none⟩) 1 1):=⟨some ⟨w2.heap.size,0,none⟩,1,by rw [limbs_one];rfl,by rw [limbs_one,hw3];exact one64 w2,by rw [limbs_one];exact Nat.le_refl _,by unfold maxLen;omega,by rw [limbs_one];decide⟩
  have hcm:=hid (rcmp_T (T2.out.all b3) hN1)
  have B3:=hid (B2.out.trans (b3.mono B2.out.size))
  clear hw3 b3 hN1
  go_wp2_with fail
  refine hcm.out.mono ?_;rintro e w4 ⟨rfl,qn,hw4⟩
  have B4:=hid (show Below w.heap.size w w4 from by rw [hw4];exact B3.out.drewN qn)
  clear hw4
  go_wp2
  go_ret
  exact⟨ret_bool hco.out,B4.out⟩
 case true=>
  have hn0:=hng rfl
  have hni:(0:Int)<nu.length:=by omega
  clear hng
  go_enter Tryz.func116,Tryz.ntmps116
  go_wp2_with fail
  generalize w.alloc (.cells #[.bool true,.slice a nu.length c,.slice b de.length d] 36)=w0 at *
  refine hv1.out.mono ?_;rintro e w' ⟨rfl,rfl⟩
  go_wp2_with fail
  refine hv2.out.mono ?_;rintro e w' ⟨rfl,rfl⟩
  go_wp2_with fail
  refine hgc.out.mono ?_;rintro e w2 ⟨v2,rfl,hT2,hb2⟩
  have T2:=hid hT2
  have B2:=hid (hB0'.out.trans (hb2.mono hB0'.out.size))
  clear hT2 hb2 hgc
  go_wp2_with fail
  refine(rone_any w2).mono ?_;rintro e w3 ⟨rfl,hw3⟩
  have b3:Below w2.heap.size w2 w3:=by rw [hw3];exact(Below.refl _ _).alloc (Nat.le_refl _) _
  have hN1:NatT 1 w3 (.slice (some ⟨w2.heap.size,0,none⟩) 1 1):=⟨some ⟨w2.heap.size,0,none⟩,1,by rw [limbs_one];rfl,by rw [limbs_one,hw3];exact one64 w2,by rw [limbs_one];exact Nat.le_refl _,by unfold maxLen;omega,by rw [limbs_one];decide⟩
  have hcm:=hid (rcmp_T (T2.out.all b3) hN1)
  have B3:=hid (B2.out.trans (b3.mono B2.out.size))
  clear hw3 b3 hN1
  go_wp2_with fail
  refine hcm.out.mono ?_;rintro e w4 ⟨rfl,qn,hw4⟩
  have B4:=hid (show Below w.heap.size w w4 from by rw [hw4];exact B3.out.drewN qn)
  clear hw4
  go_wp2
  go_ret
  exact⟨ret_bool hco.out,B4.out⟩
theorem rvalid_any {S:Nat→Prop} (r:RatD) (a b:Option Addr) (c d:Nat) (w:World) (h1:SlR Rep.u64 S w a r.num.length r.num) (h2:SlR Rep.u64 S w b r.den.length r.den) (hn:r.num.length≤1000000) (hm:r.den.length≤1000000) (hc:r.num.length≤c∧c≤maxLen) (hd:r.den.length≤d∧d≤maxLen) :
  Calls Tryz.prog 116 #[ratV r a c b d] w fun e w'=>e = .returned (.bool (okRat r))∧Below w.heap.size w w':=by
 have hdf:=@hid (okRat r=(okNat r.num && (okNat r.den && (!decide (r.den.length=0) && (!(r.neg && decide (r.num.length=0)) && (Nat.gcd (valL r.num) (valL r.den) == 1)))))) rfl
 obtain ⟨ng,nu,de⟩:=r
 dsimp only at *
 have hB0:Below w.heap.size w (w.alloc (.cells #[.bool ng,.slice a nu.length c,.slice b de.length d] 36)):=(Below.refl _ _).alloc (Nat.le_refl _) _
 have hB0':=hid hB0
 have hv1:=hid (rvalidNat_any a nu.length c nu _ (h1.below hB0 (Nat.le_refl _)) (by omega))
 have hv2:=hid (rvalidNat_any b de.length d de _ (h2.below hB0 (Nat.le_refl _)) (by omega))
 cases hnu:okNat nu
 case false=>
  have hv:=@hid (false=okRat ⟨ng,nu,de⟩) (by rw [hdf.out,hnu];rfl)
  rw [hnu] at hv1
  clear hnu hdf hv2 h1 h2 hn hm hc hd hB0
  go_enter Tryz.func116,Tryz.ntmps116
  go_wp2_with fail
  refine hv1.out.mono ?_;rintro e w' ⟨rfl,rfl⟩
  go_wp2
  go_ret
  exact⟨ret_bool hv.out,hB0'.out⟩
 cases hde:okNat de
 case false=>
  have hv:=@hid (false=okRat ⟨ng,nu,de⟩) (by rw [hdf.out,hnu,hde];rfl)
  rw [hnu] at hv1
  rw [hde] at hv2
  clear hnu hde hdf h1 h2 hn hm hc hd hB0
  go_enter Tryz.func116,Tryz.ntmps116
  go_wp2_with fail
  refine hv1.out.mono ?_;rintro e w' ⟨rfl,rfl⟩
  go_wp2_with fail
  refine hv2.out.mono ?_;rintro e w' ⟨rfl,rfl⟩
  go_wp2
  go_ret
  exact⟨ret_bool hv.out,hB0'.out⟩
 by_cases hd0:de.length=0
 ·obtain rfl:de = []:=List.eq_nil_of_length_eq_zero hd0
  have hv:=@hid (false=okRat ⟨ng,nu,[]⟩) (by rw [hdf.out,hnu,hde];rfl)
  rw [hnu] at hv1
  rw [hde] at hv2
  clear hnu hde hdf h1 h2 hn hm hc hd hB0 hd0
  go_enter Tryz.func116,Tryz.ntmps116
  go_wp2_with fail
  refine hv1.out.mono ?_;rintro e w' ⟨rfl,rfl⟩
  go_wp2_with fail
  refine hv2.out.mono ?_;rintro e w' ⟨rfl,rfl⟩
  go_wp2
  go_ret
  exact⟨ret_bool hv.out,hB0'.out⟩
 by_cases hbad:ng=true∧nu.length=0
 ·obtain ⟨rfl,hz⟩:=hbad
  obtain rfl:nu = []:=List.eq_nil_of_length_eq_zero hz
  have hv:=@hid (false=okRat ⟨true,[],de⟩) (by rw [hdf.out,hnu,hde];simp)
  rw [hnu] at hv1
  rw [hde] at hv2
  have hdi:(0:Int)<de.length:=by omega
  have hdn:0<de.length:=by omega
  clear hnu hde hdf h1 h2 hn hm hc hd hB0 hd0 hz
  go_enter Tryz.func116,Tryz.ntmps116
  go_wp2_with fail
  refine hv1.out.mono ?_;rintro e w' ⟨rfl,rfl⟩
  go_wp2_with fail
  refine hv2.out.mono ?_;rintro e w' ⟨rfl,rfl⟩
  go_wp2
  go_ret
  exact⟨ret_bool hv.out,hB0'.out⟩
 obtain ⟨e1,l1⟩:=okNat_limbs h1.us hnu
 obtain ⟨e2,l2⟩:=okNat_limbs h2.us hde
 have hng:ng=true→0<nu.length:=fun h=>Nat.pos_of_ne_zero fun e=>hbad ⟨h,e⟩
 have hsg:(ng && decide (nu.length=0))=false:=by
  cases ng with
  | false=>rfl
  | true=>have:=hng rfl;rw [decide_eq_false (by omega)];rfl
 have hv:okRat ⟨ng,nu,de⟩=(Nat.gcd (valL nu) (valL de) == 1):=by rw [hdf.out,hnu,hde,hsg,decide_eq_false hd0];rfl
 rw [hv]
 exact rvalidCo_any ng nu de (valL nu) (valL de) a b c d w e1 e2 (h1.mono fun _ _ _=>trivial) (h2.mono fun _ _ _=>trivial) hnu hde l1 l2 hc hd (by omega) hng
theorem dec_digit (u : Nat) : ∀ c ∈ Lib.decDigits u, 48 ≤ c.toNat ∧ c.toNat < 58 := by
  induction u using Nat.strongRecOn with
  | _ u ih =>
    rw [Lib.decDigits]
    by_cases h : u < 10
    · rw [dif_pos h]
      intro c hc
      rw [List.mem_singleton.1 hc, UInt8.toNat_ofNat']
      omega
    · rw [dif_neg h]
      intro c hc
      rcases List.mem_append.1 hc with hc | hc
      · exact ih _ (by omega) c hc
      · rw [List.mem_singleton.1 hc, UInt8.toNat_ofNat']
        omega
def decV (l:List UInt8):Nat:=l.foldl (fun a c=>10 * a+(c.toNat - 48)) 0
theorem decV_digits (u : Nat) : decV (Lib.decDigits u) = u := by
  induction u using Nat.strongRecOn with
  | _ u ih =>
    rw [Lib.decDigits]
    by_cases h : u < 10
    · rw [dif_pos h]
      unfold decV
      rw [List.foldl_cons, List.foldl_nil, UInt8.toNat_ofNat']
      omega
    · rw [dif_neg h]
      have := ih (u / 10) (by omega)
      unfold decV at this ⊢
      rw [List.foldl_append, this, List.foldl_cons, List.foldl_nil, UInt8.toNat_ofNat']
      omega
theorem dec_inj {u v:Nat} (h:Lib.decDigits u=Lib.decDigits v):u=v:=by rw [←decV_digits u,←decV_digits v,h]
theorem itoa_ch (n:Int):∀c∈Lib.itoa n,c.toNat=45∨(48≤c.toNat∧c.toNat<58):=by
 unfold Lib.itoa
 split
 ·intro c hc
  rcases List.mem_cons.1 hc with rfl | hc
  ·exact .inl rfl
  ·exact .inr (dec_digit _ c hc)
 ·intro c hc;exact .inr (dec_digit _ c hc)
theorem dec_no45 (u:Nat) (l:List UInt8):Lib.decDigits u≠45 :: l:=fun e=>by
 have:=dec_digit u 45 (by rw [e];exact List.mem_cons_self)
 have h:(45:UInt8).toNat=45:=rfl
 omega
theorem itoa_inj {n m:Int} (h:Lib.itoa n=Lib.itoa m):n=m:=by
 unfold Lib.itoa at h
 by_cases h1:n<0 <;> by_cases h2:m<0
 ·rw [if_pos h1,if_pos h2] at h
  injection h with _ h
  have:=dec_inj h
  omega
 ·rw [if_pos h1,if_neg h2] at h
  exact absurd h.symm (dec_no45 _ _)
 ·rw [if_neg h1,if_pos h2] at h
  exact absurd h (dec_no45 _ _)
 ·rw [if_neg h1,if_neg h2] at h
  have:=dec_inj h
  omega
theorem part_inj {a b r s : List UInt8} {c : UInt8} (ha : c ∉ a) (hb : c ∉ b) (h : a ++ c :: r = b ++ c :: s) : a = b ∧ r = s := by
  induction a generalizing b with
  | nil =>
    cases b with
    | nil => exact ⟨rfl, by injection h⟩
    | cons y b => exact absurd (by injection h with h _; rw [h]; exact List.mem_cons_self) hb
  | cons x a ih =>
    cases b with
    | nil => exact absurd (by injection h with h _; rw [← h]; exact List.mem_cons_self) ha
    | cons y b =>
      injection h with h1 h2
      obtain ⟨h3, h4⟩ := ih (fun e => ha (List.mem_cons_of_mem _ e)) (fun e => hb (List.mem_cons_of_mem _ e)) h2
      exact ⟨by rw [h1, h3], h4⟩
theorem itoa_no {n:Int} {c:UInt8} (h:c.toNat=32∨c.toNat=44∨c.toNat=47):c∉Lib.itoa n:=fun e=>by have:=itoa_ch n c e;omega
theorem limbs_text {r s : List UInt8} {xs ys : List Int} (h : limbsL xs ++ 47 :: r = limbsL ys ++ 47 :: s) : xs = ys ∧ r = s := by
  induction xs generalizing ys with
  | nil =>
    cases ys with
    | nil => exact ⟨rfl, by injection h⟩
    | cons y ys =>
      exfalso
      unfold limbsL at h
      rw [List.flatMap_cons, List.flatMap_nil, List.nil_append, List.append_assoc, List.append_assoc] at h
      cases hi : Lib.itoa y with
      | nil => rw [hi] at h; injection h with h _; revert h; decide
      | cons c l =>
        rw [hi] at h
        injection h with h _
        have := itoa_ch y c (by rw [hi]; exact List.mem_cons_self)
        rw [← h] at this
        revert this; decide
  | cons x xs ih =>
    cases ys with
    | nil =>
      exfalso
      unfold limbsL at h
      rw [List.flatMap_cons, List.flatMap_nil, List.nil_append, List.append_assoc, List.append_assoc] at h
      cases hi : Lib.itoa x with
      | nil => rw [hi] at h; injection h with h _; revert h; decide
      | cons c l =>
        rw [hi] at h
        injection h with h _
        have := itoa_ch x c (by rw [hi]; exact List.mem_cons_self)
        rw [h] at this
        revert this; decide
    | cons y ys =>
      unfold limbsL at h
      rw [List.flatMap_cons, List.flatMap_cons, List.append_assoc, List.append_assoc, List.append_assoc, List.append_assoc] at h
      obtain ⟨h1, h2⟩ := part_inj (c := 44) (itoa_no (by decide)) (itoa_no (by decide)) h
      obtain ⟨h3, h4⟩ := ih h2
      exact ⟨by rw [itoa_inj h1, h3], h4⟩
theorem limbs_text2 {xs ys:List Int} (h:limbsL xs=limbsL ys):xs=ys:=(limbs_text (r:=[]) (s:=[]) (by rw [h])).1
theorem args_text {xs ys : List Int} (h : argsL xs = argsL ys) : xs = ys := by
  have key : ∀ (xs ys : List Int), argsL xs ++ [32] = argsL ys ++ [32] → xs = ys := by
    intro xs
    induction xs with
    | nil =>
      intro ys h
      cases ys with
      | nil => rfl
      | cons y ys =>
        exfalso
        unfold argsL at h
        have := congrArg List.length h
        rw [List.flatMap_cons, List.flatMap_nil] at this
        simp at this
    | cons x xs ih =>
      intro ys h
      cases ys with
      | nil =>
        exfalso
        unfold argsL at h
        have := congrArg List.length h
        rw [List.flatMap_cons, List.flatMap_nil] at this
        simp at this
      | cons y ys =>
        unfold argsL at h
        rw [List.flatMap_cons, List.flatMap_cons, List.append_assoc, List.append_assoc, List.cons_append, List.cons_append] at h
        injection h with _ h
        have hz : ∀ zs : List Int, ∃ r, zs.flatMap (fun a => 32 :: Lib.itoa a) ++ [32] = 32 :: r := by
          intro zs
          cases zs with
          | nil => exact ⟨[], rfl⟩
          | cons z zs => exact ⟨_, by rw [List.flatMap_cons, List.append_assoc, List.cons_append]⟩
        obtain ⟨r, hr⟩ := hz xs
        obtain ⟨s, hs⟩ := hz ys
        have h' := h
        rw [hr, hs] at h'
        obtain ⟨h1, h2⟩ := part_inj (itoa_no (by decide)) (itoa_no (by decide)) h'
        rw [itoa_inj h1, ih ys (by unfold argsL; rw [hr, hs, h2])]
  exact key xs ys (by rw [h])
def NameQ (nm:ByteArray):Prop:=quoteL nm=34 :: (nm.data.toList ++ [34])∧(34:UInt8)∉nm.data.toList
structure NodeQ (x:NodeD):Prop where
 name:NameQ x.name
 num:x.op=11→x.args = []
 rat:x.op≠11→x.val=noRat
theorem bool_inj {a b:Bool} {r s:List UInt8} (h:Lib.formatBool a++47 :: r=Lib.formatBool b++47 :: s):a=b∧r=s:=by
 have hn:∀a,(47:UInt8)∉Lib.formatBool a:=by intro a;cases a <;> decide
 obtain ⟨h1,h2⟩:=part_inj (hn a) (hn b) h
 exact⟨by revert h1;cases a <;> cases b <;> decide,h2⟩
theorem key_inj {x y:NodeD} (hx:NodeQ x) (hy:NodeQ y) (h:keyB x=keyB y):x=y:=by
 have h1:keyL x=keyL y:=by
  unfold keyB at h
  injection h with h
  have:=congrArg Array.toList h
  simpa using this
 unfold keyL headL at h1
 rw [hx.name.1,hy.name.1] at h1
 simp only [List.append_assoc,List.cons_append,List.nil_append] at h1
 obtain ⟨e1,h2⟩:=part_inj (itoa_no (by decide)) (itoa_no (by decide)) h1
 obtain ⟨e2,h3⟩:=part_inj (itoa_no (by decide)) (itoa_no (by decide)) h2
 injection h3 with _ h3
 obtain ⟨e3,h4⟩:=part_inj hx.name.2 hy.name.2 h3
 have e1:=itoa_inj e1
 have e2:=itoa_inj e2
 obtain ⟨op,⟨nm⟩,⟨ng,nu,de⟩,args,so⟩:=x
 obtain ⟨op',⟨nm'⟩,⟨ng',nu',de'⟩,args',so'⟩:=y
 dsimp only at *
 subst e1 e2
 have e3:nm=nm':=Array.toList_inj.1 e3
 subst e3
 unfold numL at h4
 by_cases h11:op=11
 ·have a1:=hx.num h11
  have a2:=hy.num h11
  dsimp only at a1 a2
  subst a1 a2
  simp only [if_pos h11] at h4
  unfold argsL at h4
  simp only [List.flatMap_nil,List.nil_append] at h4
  injection h4 with _ h4
  obtain ⟨b1,h5⟩:=bool_inj h4
  obtain ⟨b2,h6⟩:=limbs_text h5
  have b3:=limbs_text2 h6
  rw [b1,b2,b3]
 ·have r1:=hx.rat h11
  have r2:=hy.rat h11
  dsimp only at r1 r2
  simp only [if_neg h11,List.append_nil] at h4
  rw [r1,r2,args_text h4]
structure IdsInv (T:TermD):Prop where
 back:∀k i,T.ids k=some i→∃(j:Nat) (n:NodeD),i=(j:Int)∧T.nodes[j]? = some n∧keyB n=k
 fwd:∀(j:Nat) (n:NodeD),T.nodes[j]? = some n→T.ids (keyB n)=some (j:Int)
 q:∀n∈T.nodes,NodeQ n
theorem IdsInv.hit {T:TermD} (h:IdsInv T) {x:NodeD} {k:Nat} (hk:T.nodes[k]? = some x):putD T x=(((k:Int),0),T):=put_some (h.fwd k x hk)
theorem IdsInv.miss {T : TermD} (h : IdsInv T) {x : NodeD} (hx : NodeQ x) (hn : x ∉ T.nodes) : T.ids (keyB x) = none := by
  cases hc : T.ids (keyB x) with
  | none => rfl
  | some i =>
    obtain ⟨j, n, _, hj, hk⟩ := h.back _ _ hc
    have hm := List.mem_of_getElem? hj
    have := key_inj (h.q n hm) hx hk
    rw [this] at hm
    exact absurd hm hn
theorem numAt_add {T:TermD} (hl:T.nums.length=T.nodes.length) (n:NodeD) {i:Int} (h0:0≤i) (h:i<(T.nodes.length:Int)):numAt (addN T n) i=numAt T i:=by
 unfold numAt addN
 rw [List.getD_eq_getElem?_getD,List.getD_eq_getElem?_getD,List.getElem?_append_left (by omega)]
theorem numberD_add {T:TermD} (hl:T.nums.length=T.nodes.length) (n:NodeD) {x:NodeD} (hx:InT T x.args) (hd:x.op=16→1≤x.args.length):numberD (addN T n) x=numberD T x:=by
 have hall:numAll (addN T n) x.args=numAll T x.args:=by
  unfold numAll
  rw [Bool.eq_iff_iff,List.all_eq_true,List.all_eq_true]
  constructor
  ·intro h y hy;have:=h y hy;rwa [numAt_add hl n (hx y hy).1 (hx y hy).2] at this
  ·intro h y hy;rw [numAt_add hl n (hx y hy).1 (hx y hy).2];exact h y hy
 unfold numberD
 rw [hall]
 by_cases h1:x.op=11
 ·rw [if_pos h1,if_pos h1]
 ·rw [if_neg h1,if_neg h1]
  by_cases h2:x.op=14∨x.op=16
  ·rw [if_pos h2,if_pos h2]
   by_cases h3:numAll T x.args=true
   ·rw [if_pos h3,if_pos h3]
    by_cases h4:x.op=16∨x.args.length=1
    ·rw [if_pos h4,if_pos h4]
     have hl0:0<x.args.length:=by
      rcases h4 with h4 | h4
      ·exact hd h4
      ·omega
     have:=hx (nth x.args 0) (nth_mem hl0)
     exact numAt_add hl n this.1 this.2
    ·rw [if_neg h4,if_neg h4]
   ·rw [if_neg h3,if_neg h3]
  ·rw [if_neg h2,if_neg h2]
structure TInv (T:TermD):Prop where
 ok:TermOk T
 ids:IdsInv T
 nu:NumInv T
 fq:∀f∈T.S.funs,NameQ f.name
theorem OrdT.inT {T:TermD} (h:OrdT T) {k:Nat} {x:NodeD} (hx:T.nodes[k]? = some x):InT T x.args:=fun i hi=>by
 have h1:=h k x hx i hi
 have h2:=(List.getElem?_eq_some_iff.1 hx).1
 exact⟨h1.1,by omega⟩
theorem TInv.add {T:TermD} (h:TInv T) {n:NodeD} (hl:T.nodes.length<16384) (h1:n.val.num.length≤1000000) (h2:n.val.den.length≤1000000) (h3:n.args.length≤1000000) (hi:InT T n.args) (hq:NodeQ n) (hd:n.op=16→1≤n.args.length) (hn:n∉T.nodes):TInv (addN T n):=by
 have hN:(addN T n).nodes=T.nodes ++ [n]:=rfl
 refine⟨h.ok.add hl h1 h2 h3 hi,⟨fun k i hk=>?_,fun j m hj=>?_,fun m hm=>?_⟩,⟨fun k x hx=>?_,fun x hx=>?_,fun x hx=>?_⟩,h.fq⟩
 ·change (if k=keyB n then some (T.nodes.length:Int) else T.ids k)=some i at hk
  split at hk
  ·rename_i e
   injection hk with hk
   exact⟨T.nodes.length,n,hk.symm,by rw [hN,List.getElem?_append_right (Nat.le_refl _),Nat.sub_self];rfl,e.symm⟩
  ·obtain ⟨j,m,e1,e2,e3⟩:=h.ids.back k i hk
   exact⟨j,m,e1,by rw [hN,List.getElem?_append_left (List.getElem?_eq_some_iff.1 e2).1];exact e2,e3⟩
 ·show(if keyB m=keyB n then some (T.nodes.length:Int) else T.ids (keyB m))=some (j:Int)
  rw [hN] at hj
  by_cases hlt:j<T.nodes.length
  ·rw [List.getElem?_append_left hlt] at hj
   have hm:=List.mem_of_getElem? hj
   rw [if_neg fun e=>hn (by rw [←key_inj (h.ids.q m hm) hq e];exact hm)]
   exact h.ids.fwd j m hj
  ·have hl2:=(List.getElem?_eq_some_iff.1 hj).1
   rw [List.length_append,List.length_singleton] at hl2
   obtain rfl:j=T.nodes.length:=by omega
   rw [List.getElem?_append_right (Nat.le_refl _),Nat.sub_self] at hj
   cases hj
   rw [if_pos rfl]
 ·rw [hN] at hm
  rcases List.mem_append.1 hm with hm | hm
  ·exact h.ids.q m hm
  ·obtain rfl:=List.mem_singleton.1 hm;exact hq
 ·rw [hN] at hx
  by_cases hlt:k<T.nodes.length
  ·rw [List.getElem?_append_left hlt] at hx
   rw [numAt_add h.ok.sm.nn n (by omega) (by omega),numberD_add h.ok.sm.nn n (h.ok.ord.inT hx) (h.nu.div x (List.mem_of_getElem? hx))]
   exact h.nu.nums k x hx
  ·have hl2:=(List.getElem?_eq_some_iff.1 hx).1
   rw [List.length_append,List.length_singleton] at hl2
   obtain rfl:k=T.nodes.length:=by omega
   rw [List.getElem?_append_right (Nat.le_refl _),Nat.sub_self] at hx
   cases hx
   rw [numberD_add h.ok.sm.nn n hi hd]
   unfold numAt addN
   rw [Int.toNat_natCast,List.getD_eq_getElem?_getD,List.getElem?_append_right (by rw [h.ok.sm.nn];exact Nat.le_refl _),h.ok.sm.nn,Nat.sub_self]
   rfl
 ·rw [hN] at hx
  rcases List.mem_append.1 hx with hx | hx
  ·exact h.nu.div x hx
  ·obtain rfl:=List.mem_singleton.1 hx;exact hd
 ·rw [hN] at hx
  rcases List.mem_append.1 hx with hx | hx
  ·exact h.nu.num x hx
  ·obtain rfl:=List.mem_singleton.1 hx;exact hq.num
theorem nameQ_empty:NameQ ⟨#[]⟩:=⟨by decide +kernel,by decide⟩
theorem zeroR_is {r:RatD} (h:zeroR r=true):r=noRat:=by
 obtain ⟨ng,nu,de⟩:=r
 unfold zeroR at h
 simp only [Bool.and_eq_true,Bool.not_eq_true',decide_eq_true_eq] at h
 obtain ⟨h1,h2,h3⟩:=h
 rw [h1,List.eq_nil_of_length_eq_zero h2,List.eq_nil_of_length_eq_zero h3]
 rfl
theorem make_q {T : TermD} (hf : ∀ f ∈ T.S.funs, NameQ f.name) {op : Int} {nm : ByteArray} {val : RatD} {args : List Int} (hb : badVal op nm val = false) (hs : (sortedD T op nm args).2 = true) : NodeQ ⟨op, nm, val, args, (sortedD T op nm args).1⟩ := by
  unfold badVal at hb
  simp only [Bool.or_eq_false_iff, Bool.and_eq_false_iff, Bool.not_eq_false', beq_iff_eq, beq_eq_false_iff_ne] at hb
  obtain ⟨⟨b1, b2⟩, _⟩ := hb
  refine ⟨?_, fun e => ?_, fun e => ?_⟩
  · show NameQ nm
    by_cases h12 : op = 12
    · subst h12
      have e : sortedD T 12 nm args = callD T nm args := rfl
      rw [e] at hs
      unfold callD at hs
      split at hs
      · rename_i hh
        cases hfo : findF T.S nm with
        | none => rw [hfo] at hh; exact absurd hh.1 (by decide)
        | some f =>
          have h1 := List.find?_some hfo
          have h2 := hf f (List.mem_of_find?_eq_some hfo)
          have h3 : f.name = nm := by
            unfold eqS at h1
            first | exact eqb_iff.1 h1 | simpa using h1
          rw [← h3]; exact h2
      · cases hs
    · rcases b1 with b1 | b1
      · exact absurd b1 h12
      · obtain ⟨l⟩ := nm
        have : l = #[] := Array.eq_empty_of_size_eq_zero b1
        rw [this]; exact nameQ_empty
  · show args = []
    have e : op = 11 := e
    subst e
    have : sortedD T 11 nm args = (1, decide (args.length = 0)) := rfl
    rw [this] at hs
    exact List.eq_nil_of_length_eq_zero (of_decide_eq_true hs)
  · rcases b2 with b2 | b2
    · exact absurd b2 e
    · exact zeroR_is b2
theorem TInv.put {T : TermD} (h : TInv T) {n : NodeD} (h1 : n.val.num.length ≤ 1000000) (h2 : n.val.den.length ≤ 1000000) (h3 : n.args.length ≤ 1000000) (hi : InT T n.args) (hq : NodeQ n) (hd : n.op = 16 → 1 ≤ n.args.length) : TInv (putD T n).2 := by
  cases hk : T.ids (keyB n) with
  | some i => rw [put_some hk]; exact h
  | none =>
    by_cases hl : 16384 ≤ T.nodes.length
    · rw [put_full hk hl]; exact h
    · rw [put_addN hk (by omega)]
      refine h.add (by omega) h1 h2 h3 hi hq hd fun hm => ?_
      obtain ⟨j, hj, e⟩ := List.getElem_of_mem hm
      have := h.ids.fwd j n (by rw [List.getElem?_eq_getElem hj, e])
      rw [hk] at this
      cases this
theorem TInv.make {T:TermD} (h:TInv T) {op:Int} {nm:ByteArray} {val:RatD} {args:List Int} (h1:val.num.length≤1000000) (h2:val.den.length≤1000000):TInv (makeD T op nm val args).2:=by
 unfold makeD
 split
 ·exact h
 ·rename_i hh
  split
  ·exact h
  ·rename_i hb
   split
   ·exact h
   ·rename_i ha
    split
    ·rename_i hs
     refine h.put h1 h2 ?_ (inT_of (by simpa using ha)) (make_q h.fq (by simpa using hb) hs) (fun e=>sorted_div2 hs e)
     unfold badHead at hh
     simp at hh
     show args.length≤_
     omega
    ·exact h
def DatY (B:Nat) (X:Nat→Prop) (w:World) (k:Nat):Prop:=k<B∨DatX X w k
theorem DatY.same {B:Nat} {X:Nat→Prop} {w w':World} {k:Nat} (h:DatY B X w k) (hb:w'.heap[k]? = w.heap[k]?):DatY B X w' k:=h.imp id fun h=>h.same hb
structure RTm (X:Nat→Prop) (B r q:Nat) (S:TabD) (M:List NodeD) (w:World):Prop where
 bp:B≤r
 row:∃v,w.heap[r]? = some (.cells #[.pointer (some ⟨q,0,none⟩),v,.int .i64 0] 51 (0,0))∧OwnR repN (DatY B X w) w B 38 v M
 sq:RefX X B q S w
def rowOf (r:Nat) (w:World) (k:Nat):Prop:=∃u v x t f,w.heap[r]? = some (.cells #[u,v,x] t f)∧v.ownBlock=some k
theorem rowOf.same {r k:Nat} {w w':World} (h:w'.heap[r]? = w.heap[r]?):rowOf r w' k↔rowOf r w k:=by unfold rowOf;rw [h]
structure RStep (r:Nat) (w w':World):Prop where
 os:w'.os=w.os
 tape:w'.tape=w.tape
 output:w'.output=w.output
 size:w.heap.size≤w'.heap.size
 block:∀k,k<w.heap.size→k≠r→w'.heap[k]? = w.heap[k]?
 row:∀k,rowOf r w' k→rowOf r w k∨w.heap.size≤k
section
variable {X : Nat → Prop} {B r q : Nat} {S : TabD} {M : List NodeD} {w w' W : World}
theorem RStep.of_below (hr:r<w.heap.size) (h:Below w.heap.size w w'):RStep r w w':=⟨h.os,h.tape,h.output,h.size,fun k hk _=>h.block k hk,fun _ hk=>.inl ((rowOf.same (h.block r hr)).1 hk)⟩
theorem RStep.trans {w'':World} (h:RStep r w w') (k:RStep r w' w''):RStep r w w'':=
 ⟨k.os.trans h.os,k.tape.trans h.tape,k.output.trans h.output,Nat.le_trans h.size k.size,fun i hi hn=>(k.block i (Nat.lt_of_lt_of_le hi h.size) hn).trans (h.block i hi hn),fun i hi=>(k.row i hi).elim (h.row i) fun e=>.inr (Nat.le_trans h.size e)⟩
theorem RTm.plt (h:RTm X B r q S M w):r<w.heap.size:=by obtain ⟨v,hb,_⟩:=h.row;exact(Array.getElem?_eq_some_iff.1 hb).1
theorem RTm.all (h:RTm X B r q S M w) (hb:Below w.heap.size w w'):RTm X B r q S M w':=by
 obtain ⟨v,h1,h2⟩:=h.row
 refine⟨h.bp,⟨v,(hb.block r h.plt).trans h1,?_⟩,h.sq.all hb⟩
 exact(h2.keep (fun k hl _=>hb.block k hl) (fun k hk=>hb.block k (h2.lt k hk).2) hb.size).mono fun k hl hk=>by
  by_cases hlt:k<w.heap.size
  ·exact hk.same (hb.block k hlt)
  ·rcases hk with hk | hk
   ·exact .inl hk
   ·exact absurd hk.2.lt hlt
theorem RTm.rd (h:RTm X B r q S M w):RRd r M w:=by
 obtain ⟨v,h1,h2⟩:=h.row
 obtain ⟨aL,cL,rfl,_⟩:=h2.slice
 exact⟨_,aL,cL,_,h1,h2.read (fun _ _ _=>trivial) (fun _ _=>trivial)⟩
theorem RTm.cq (h:RTm X B r q S M w):w.cell? ⟨r,0,none⟩=some (.pointer (some ⟨q,0,none⟩)):=by
 obtain ⟨v,h1,h2⟩:=h.row
 exact cell_p h1 0
theorem RTm.push (h:RTm X B r q S M w) {aL a8:Option Addr} {cL c8 n8:Nat} {xs8:List Value} {css:List (List Value)} {x:NodeD} {a b g:Option Addr} {c d e:Nat}
  (hb:w.heap[r]? = some (.cells #[.pointer (some ⟨q,0,none⟩),.slice aL M.length cL,.int .i64 0] 51 (0,0)))
  (hB:Below w.heap.size w W) (hp:Pairs repN (DatY B X w) w M css) (hx8:xs8=css.flatten++nodeC x a c b d g e∧n8=M.length+1)
  (ho:OwnC W w.heap.size 38 7 (.slice a8 n8 c8) n8 xs8) (hn:NodeS (DatY B X W) W x a c b d g e) :
  RTm X B r q S (M ++ [x]) (W.setCell ⟨r,1,none⟩ (.slice a8 n8 c8))∧RStep r w (W.setCell ⟨r,1,none⟩ (.slice a8 n8 c8)):=by
 obtain ⟨rfl,rfl⟩:=hx8
 have hrw:r<w.heap.size:=h.plt
 have hbW:=(hB.block r hrw).trans hb
 generalize hV:W.setCell ⟨r,1,none⟩ (.slice a8 (M.length+1) c8)=V
 have s2:∀k,k≠r→V.heap[k]? = W.heap[k]?:=fun k hk=>by
  subst hV;exact Below.heap_setCell _ _ _ _ (fun e=>hk e)
 have s1:V.heap[r]? = some (.cells #[.pointer (some ⟨q,0,none⟩),.slice a8 (M.length+1) c8,.int .i64 0] 51 (0,0)):=by
  subst hV
  unfold World.setCell
  rw [Array.getElem?_modify,if_pos rfl,hbW]
  rfl
 have sz:V.heap.size=W.heap.size:=by subst hV;exact size_set
 have hdr:∀k,DatB W k→k≠r:=fun k hk e=>by subst e;exact DatB.ne hk (by decide) (by decide) ⟨_,_,hbW⟩
 have hrd:repN.rd (DatY B X W) W x (nodeC x a c b d g e):=repN_rd.2 ⟨a,c,b,d,g,e,rfl,hn⟩
 have hpp:Pairs repN (DatY B X W) W (M ++ [x]) (css ++ [nodeC x a c b d g e]):=by
  refine Pairs.append ⟨hp.1,fun j y hy=>?_⟩ (Pairs.one hrd)
  obtain ⟨cs,e1,e2⟩:=(hp.below hB).2 j y hy
  exact⟨cs,e1,repN.mono e2 fun k _ hk=>(by
   rcases hk with hk | hk
   ·exact .inl hk
   ·exact .inr (hk.same (hB.block k hk.2.lt)))⟩
 have hO:=hpp.own (base:=B) (by rw [List.flatten_append,List.flatten_singleton];exact ho.lower (Nat.le_trans h.bp (Nat.le_of_lt hrw))) (by simp)
 have hge:∀k,Value.ownBlock (.slice a8 (M.length+1) c8)=some k→w.heap.size≤k:=fun k hk=>(ho.lt k hk).1
 have hsq:=h.sq
 obtain ⟨u1,u2,u3,hqb,g1,g2,g3⟩:=hsq.blk
 refine⟨⟨h.bp,⟨_,s1,?_⟩,?_⟩,?_⟩
 ·have hyr:∀k,DatY B X W k→k≠r:=fun k hk=>hk.elim (fun h1 e=>by have:=h.bp;omega) fun h2=>hdr k h2.2
  exact(hO.keep (fun k _ hk=>s2 k (hyr k hk)) (fun k hk=>s2 k fun e=>by have:=hge k hk;omega) (Nat.le_of_eq sz.symm)).mono fun k _ hk=>hk.same (s2 k (hyr k hk))
 ·refine(hsq.all hB).keep (fun k hk=>s2 k fun e=>?_) (fun k hk=>s2 k (hdr k hk.dat.2)) (Nat.le_of_eq sz.symm)
  have hk':=(ownOf.same (hB.block q hsq.plt)).1 hk
  subst e
  rcases (own3 hqb).1 hk' with h0 | h0 | h0 | h0
  ·subst h0;exact ty_ne (by decide) ⟨_,_,hqb⟩ ⟨_,_,hb⟩
  ·exact ty_ne (by decide) (g1.ty _ h0) ⟨_,_,hb⟩
  ·exact ty_ne (by decide) (g2.ty _ h0) ⟨_,_,hb⟩
  ·exact ty_ne (by decide) (g3.ty _ h0) ⟨_,_,hb⟩
 ·refine⟨by subst hV;exact hB.os,by subst hV;exact hB.tape,by subst hV;exact hB.output,by rw [sz];exact hB.size,fun k hk hn=>(s2 k hn).trans (hB.block k hk),fun k hk=>?_⟩
  obtain ⟨u,v,x',t,f,e,hv⟩:=hk
  rw [s1] at e
  cases e
  exact .inr (hge k hv)
end
def RMakePost (X:Nat→Prop) (B r q:Nat) (T:TermD) (op:Int) (nm:ByteArray) (val:RatD) (args:List Int) (w:World) (e:Ending) (w':World):Prop:=
 e = .returned (.tuple #[.int .i64 (makeD T op nm val args).1.1,.int .i64 (makeD T op nm val args).1.2])∧RTm X B r q T.S (makeD T op nm val args).2.nodes w'∧RStep r w w'
structure RArgs (B:Nat) (X:Nat→Prop) (w:World) (val:RatD) (args:List Int) (op:Int) (a b g:Option Addr) (c d e:Nat):Prop where
 rnum:SlR Rep.u64 (DatY B X w) w a val.num.length val.num
 rden:SlR Rep.u64 (DatY B X w) w b val.den.length val.den
 rargs:RdI w g args.length args
 nc:val.num.length≤c∧c≤maxLen
 dc:val.den.length≤d∧d≤maxLen
 ac:args.length≤e∧e≤maxLen
 nl:val.num.length≤1000000
 dl:val.den.length≤1000000
 al:args.length≤1000000
 opk:okI op
section
variable {X : Nat → Prop} {B r q : Nat} {T : TermD} {op : Int} {nm : ByteArray} {val : RatD} {args : List Int} {w w' W : World} {a b g : Option Addr} {c d e : Nat}
theorem RMakePost.err {z:Int} (h:RTm X B r q T.S T.nodes w) (hb:Below w.heap.size w w') (hv:makeD T op nm val args=((0,z),T)):RMakePost X B r q T op nm val args w (.returned (.tuple #[.int .i64 0,.int .i64 z])) w':=
 ⟨by rw [hv],by rw [hv];exact h.all hb,.of_below h.plt hb⟩
theorem RMakePost.hit {k:Nat} (h:RTm X B r q T.S T.nodes w) (hb:Below w.heap.size w w') (hv:makeD T op nm val args=(((k:Int),0),T)):RMakePost X B r q T op nm val args w (.returned (.tuple #[.int .i64 k,.int .i64 0])) w':=
 ⟨by rw [hv],by rw [hv];exact h.all hb,.of_below h.plt hb⟩
end
end Go.Proofs.YtgoojkiccdjplaaGreatDoor
