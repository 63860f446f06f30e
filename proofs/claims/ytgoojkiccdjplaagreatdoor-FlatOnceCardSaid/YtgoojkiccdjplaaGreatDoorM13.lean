/-
  Parts of this claim's texts, one behind the other: BK BL BM. No condition.
-/
import Derived.Test.YtgoojkiccdjplaaGreatDoorM12
set_option linter.unusedVariables false
set_option linter.unusedSimpArgs false
set_option maxRecDepth 100000
set_option maxHeartbeats 16000000
namespace Go.Proofs.YtgoojkiccdjplaaGreatDoor
open Go.RowKit Go.Sort Go.Lib
theorem OwnU.copyAt {base g N : Nat} : ∀ (zs : List Int) {w : World} {xs : List Int} (o : Nat), OwnU w base g N xs → okUs64 zs → o + zs.length ≤ N → OwnU (w.setCells g o (zs.map (Value.int .u64))) base g N (xs.take o ++ (zs ++ xs.drop (o + zs.length))) := by
  intro zs
  induction zs with
  | nil => intro w xs o h _ _; simpa [World.setCells] using h
  | cons z zs ih =>
    intro w xs o h hz hl
    have hl' : o < N := by simp at hl; omega
    have h1 := h.set (j := o) (x := z) (hz z (by simp))
    have h2 := ih (o + 1) h1 (fun y hy => hz y (by simp [hy])) (by simp at hl; omega)
    have e : (xs.set o z).take (o + 1) ++ (zs ++ (xs.set o z).drop (o + 1 + zs.length)) = xs.take o ++ ((z :: zs) ++ xs.drop (o + (z :: zs).length)) := by
      have ho : o < xs.length := by rw [h.1]; exact hl'
      rw [List.take_add_one, List.take_set_of_le (Nat.le_refl _), List.getElem?_set_self ho, List.drop_set_of_lt (by omega)]
      simp [Nat.add_assoc, Nat.add_comm 1]
    rw [e] at h2
    exact h2
theorem OwnU.copy {w:World} {base g N:Nat} {xs zs:List Int} (h:OwnU w base g N xs) (hz:okUs64 zs) (hl:zs.length≤N):OwnU (w.setCells g 0 (zs.map (Value.int .u64))) base g N (zs++xs.drop zs.length):=by
 have:=h.copyAt zs 0 hz (by omega)
 simpa using this
theorem Chg.copyAt {g:Nat} {a:World}:∀(vs:List Value) (o:Nat) (w:World),Chg g a w→Chg g a (w.setCells g o vs)
 | [],_,_,h=>h
 | v :: vs,o,_,h=>Chg.copyAt vs (o+1) _ (h.setCell o v)
theorem run_copyU {S:Nat→Prop} {w:World} {base g N n c m:Nat} {xs zs:List Int} {a:Option Addr} (ty:TypeId) (h:OwnU w base g N xs) (hs:SlR Rep.u64 S w a n zs) (hn:n≤N) (h0:0<n) :
  (Builtin.copy_ #[34,34] ty #[.slice (some ⟨g,0,none⟩) N c,.slice a n m]).run Tryz.prog w = .ok (goInt n) (w.setCells g 0 (zs.map (Value.int .u64))):=by
 have hl:=hs.1
 obtain ⟨b,o,rfl,_,_⟩:=hs.at64 (k:=0) (by omega)
 have hm:(zs.map (Value.int .u64)).length=n:=by rw [List.length_map];exact hl
 have:=run_copy_cells (P:=Tryz.prog) w 34 34 ty 177 g 0 N c ⟨b,o,none⟩ n m (zs.map (Value.int .u64)) Tryz.underlying34 (by kernel_rfl) (by rw [hm];exact(Nat.min_eq_left hn).symm)
  (fun j v hv=>by
   rw [List.getElem?_map] at hv
   obtain ⟨x,hx,rfl⟩:=Option.map_eq_some_iff.1 hv
   have hj:=(List.getElem?_eq_some_iff.1 hx).1
   obtain ⟨b',o',he,k1,_⟩:=hs.at64 hj
   injection he with he
   injection he with h1 h2 _
   subst h1 h2
   rw [nth_eq hj] at k1
   rw [List.getElem?_eq_getElem hj] at hx
   injection hx with hx
   rw [hx] at k1
   simp only [Addr.add]
   by_cases h0:j=0
   ·subst h0;simpa using k1
   ·rw [if_neg h0];exact k1)
  (fun j hj=>by rw [Nat.zero_add,h.cell (j:=j) (by omega)];rfl) (fun j _=>by rw [Nat.zero_add];exact h.frz j)
  (fun v hv=>by
   obtain ⟨x,_,rfl⟩:=List.mem_map.1 hv
   rfl)
 rw [hm] at this
 exact this
theorem top_digit {ds:List Int} {n:Nat} (hl:ds.length=n+1) (ho:okUs64 ds):(nth ds n).toNat=valL ds / W64 ^ n:=by
 have h1:=valL_take_succ (l:=ds) (i:=n) (by omega)
 rw [List.take_of_length_le (by omega)] at h1
 have h2:=valL_lt (ho.take n)
 rw [List.length_take,Nat.min_eq_left (by omega)] at h2
 rw [h1,Nat.add_mul_div_left _ _ (Nat.pow_pos W64_pos),Nat.div_eq_of_lt h2,Nat.zero_add]
theorem inner_done {ds:List Int} {Xw B k qt:Nat} (hB:0<B) (h:valL ds+B * k=Xw) (hq:qt=Xw / B) (hk:qt≤k):k=qt∧valL ds=Xw % B:=by
 have h1:k≤Xw / B:=by rw [Nat.le_div_iff_mul_le hB,Nat.mul_comm];omega
 have hkq:k=qt:=by omega
 refine⟨hkq,?_⟩
 have:=Nat.div_add_mod Xw B
 rw [←hq,←hkq] at this
 omega
theorem inner_more {ds ds':List Int} {Xw B k qt n:Nat} (hBn:B<W64 ^ n) (hl:ds.length=n+1) (ho:okUs64 ds) (hl':ds'.length=n+1) (ho':okUs64 ds') (h:valL ds+B * k=Xw+W64 ^ (n+1)) (hq:qt=Xw / B) (hk:qt≤k)
  (hd:valL ds'=(valL ds+B) % W64 ^ (n+1)):∃p,k=p+1∧qt≤p∧valL ds'+B * p=Xw+W64 ^ (n+1) * (if (nth ds n).toNat≤(nth ds' n).toNat then 1 else 0):=by
 have hlt:=valL_lt ho
 rw [hl] at hlt
 have hkq:qt<k:=by
  rcases Nat.lt_or_ge qt k with hh | hh
  ·exact hh
  ·exfalso
   have:k=qt:=by omega
   subst this
   have h2:=Nat.div_mul_le_self Xw B
   rw [←hq,Nat.mul_comm] at h2
   omega
 obtain ⟨p,rfl⟩:∃p,k=p+1:=⟨k - 1,by omega⟩
 refine⟨p,rfl,by omega,?_⟩
 rw [Nat.mul_add,Nat.mul_one] at h
 rw [top_digit hl ho,top_digit hl' ho',hd]
 have ht:=top_over hlt hBn
 rcases Nat.lt_or_ge (valL ds+B) (W64 ^ (n+1)) with hh | hh
 ·obtain ⟨h1,h2⟩:=ht.1 hh
  rw [if_pos h1,h2]
  omega
 ·obtain ⟨h1,h2⟩:=ht.2 hh
  rw [if_neg (by omega)]
  omega
theorem win_parts {pre win post:List Int} {i n B:Nat} (hp:pre.length=i) (hw:win.length=n+1) (ho:okUs64 (pre++(win++post))) (hB:B<W64 ^ n) (hR:valL (pre++(win++post))<B * W64 ^ (i+1)) :
  valL post=0∧valL (pre++(win++post)) / W64 ^ i=valL win∧valL (pre++(win++post)) % W64 ^ i=valL pre:=by
 have hp0:0<W64 ^ i:=Nat.pow_pos W64_pos
 have e:valL (pre++(win++post))=valL pre+W64 ^ i * (valL win+W64 ^ (n+1) * valL post):=by rw [valL_append,valL_append,hp,hw]
 have hpl:valL pre<W64 ^ i:=by have:=valL_lt (l:=pre) (fun x hx=>ho x (by simp [hx]));rwa [hp] at this
 have hz:valL post=0:=by
  rcases Nat.eq_zero_or_pos (valL post) with h | h
  ·exact h
  ·exfalso
   have h1:W64 ^ i * (W64 ^ (n+1) * 1)≤W64 ^ i * (W64 ^ (n+1) * valL post):=Nat.mul_le_mul_left _ (Nat.mul_le_mul_left _ h)
   have h2:B * W64 ^ (i+1)≤W64 ^ n * W64 ^ (i+1):=Nat.mul_le_mul_right _ (Nat.le_of_lt hB)
   have h3:W64 ^ n * W64 ^ (i+1)=W64 ^ i * (W64 ^ (n+1) * 1):=by rw [Nat.mul_one,←Nat.pow_add,←Nat.pow_add];congr 1;omega
   rw [Nat.mul_add] at e
   omega
 rw [hz,Nat.mul_zero,Nat.add_zero] at e
 refine⟨hz,?_,?_⟩
 ·rw [e,Nat.add_mul_div_left _ _ hp0,Nat.div_eq_of_lt hpl,Nat.zero_add]
 ·rw [e,Nat.add_mul_mod_self_left,Nat.mod_eq_of_lt hpl]
theorem two_top {l:List Int} {n:Nat} (hl:l.length=n+2):valL l=valL (l.take n)+W64 ^ n * ((nth l (n+1)).toNat * W64+(nth l n).toNat):=by
 have h1:=valL_take_succ (l:=l) (i:=n+1) (by omega)
 have h2:=valL_take_succ (l:=l) (i:=n) (by omega)
 rw [List.take_of_length_le (by omega)] at h1
 rw [h1,h2,Nat.pow_succ,Nat.mul_add,Nat.mul_assoc (W64 ^ n),Nat.mul_comm W64 (nth l (n+1)).toNat]
 omega
theorem mix_lt (W D x p T:Nat) (h:T<p):T+p * x+p * (W * D)<(D * W+x+1) * p:=by
 rw [Nat.mul_comm W D,Nat.mul_comm _ p,Nat.mul_add,Nat.mul_add,Nat.mul_one]
 omega
theorem guess_ok {win bs:List Int} {n:Nat} (hw:win.length=n+3) (hb:bs.length=n+2) (hwo:okUs64 win) :
  valL win / valL bs * ((nth bs (n+1)).toNat * W64+(nth bs n).toNat)≤((nth win (n+2)).toNat * W64+(nth win (n+1)).toNat) * W64+(nth win n).toNat:=by
 refine digit_le (m:=n) ?_ ?_
 ·have h1:=two_top (l:=win) (n:=n+1) (by omega)
  have h2:=valL_take_succ (l:=win) (i:=n) (by omega)
  have h3:=valL_lt (hwo.take n)
  rw [List.length_take,Nat.min_eq_left (by omega)] at h3
  rw [h1,h2,Nat.pow_succ,Nat.mul_assoc]
  exact mix_lt _ _ _ _ _ h3
 ·rw [two_top hb,Nat.mul_comm]
  omega
def NatS (B:Nat) (y:Nat) (w':World) (v:Value):Prop:=∃a c,v = .slice a (limbs y).length c∧SlR Rep.u64 (DatF B w') w' a (limbs y).length (limbs y)∧(limbs y).length≤c∧c≤maxLen
theorem NatS.all {B y:Nat} {w w':World} {v:Value} (h:NatS B y w v) (hb:Below w.heap.size w w'):NatS B y w' v:=by
 obtain ⟨a,c,h1,h2,h3,h4⟩:=h
 exact⟨a,c,h1,h2.move (Below.dat hb) hb.size,h3,h4⟩
theorem NatS.mono {B B' y:Nat} {w:World} {v:Value} (h:NatS B y w v) (hB:B'≤B):NatS B' y w v:=by
 obtain ⟨a,c,h1,h2,h3,h4⟩:=h
 exact⟨a,c,h1,h2.mono fun _ _ hk=>⟨hk.1,Nat.le_trans hB hk.2⟩,h3,h4⟩
theorem NatS.zero {B:Nat} {w:World}:NatS B 0 w (.slice none 0 0):=by
 refine⟨none,0,?_,?_,?_,Nat.zero_le _⟩ <;> rw [limbs_zero]
 ·rfl
 ·exact SlR.nil _ _ _ _
 ·exact Nat.le_refl _
theorem NatS.own {B base y:Nat} {w:World} {v:Value} (h:OwnR Rep.u64 (fun _=>False) w base 177 v (limbs y)) (hB:B≤base):NatS B y w v:=by
 obtain ⟨a,c,rfl,h1,h2⟩:=h.slice
 exact⟨a,c,rfl,h.datF hB,h1,h2⟩
def QuotP (x y:Nat) (w:World) (e:Ending) (w':World):Prop:=∃v1 v2,e = .returned (.tuple #[v1,v2])∧NatS w.heap.size (x / y) w' v1∧NatS w.heap.size (x % y) w' v2∧Below w.heap.size w w'
theorem Below.ofDrew {B q:Nat} {w w':World} (h:Below B (w.drewN q) w'):Below B w w':=⟨h.os,h.tape,h.output,h.size,h.block⟩
theorem lit_u64 (w:World) (r:Int) (hr:okU r) (base:Nat) (hb:base≤w.heap.size):OwnU (w.alloc (.cells #[.int .u64 r] 177)) base w.heap.size 1 [r]:=
 ⟨rfl,hb,fun x hx=>by rw [List.mem_singleton.1 hx];exact hr,#[.int .u64 r],heap_alloc_new w _,rfl⟩
section
variable {S S' : Nat → Prop} (a b : Option Addr) (n m c d x y : Nat) (w : World) (hx : SlR Rep.u64 S w a n (limbs x)) (hy : SlR Rep.u64 S' w b m (limbs y)) (hn : n ≤ 549755813888) (hm : m ≤ 549755813888) (hnc : n ≤ c) (hcm : c ≤ maxLen)
include hx hy hn hm hnc hcm
theorem quot_less (hlt:x<y):Calls Tryz.prog 171 #[.slice a n c,.slice b m d] w fun e w'=>QuotP x y w e w':=by
 have hor:=hid (natOrder_any a b n m c d x y w hx hy (by omega) (by omega))
 rw [cmpN_lt hlt] at hor
 have htr:=natTrim_any a n c (limbs x) (w) hx (by omega) hnc hcm
 have hx':=hid hx
 have hlt':=hid hlt
 have hnm:=hid (show n<17592186044416∧n≤c∧c≤maxLen from⟨by omega,hnc,hcm⟩)
 clear hx hy hn hm hnc hcm htr hlt
 go_enter Tryz.func171,Tryz.ntmps171
 go_wp2_with fail
 refine hor.out.mono ?_;rintro e w2 ⟨rfl,q,rfl⟩
 have htr:=natTrim_any (S:=S) a n c (limbs x) (w.drewN q) (hx'.out.keep (fun _ _ _=>rfl) (Nat.le_refl _)) hnm.out.1 hnm.out.2.1 hnm.out.2.2
 rw [valL_limbs] at htr
 have htr':=hid htr
 clear htr
 go_wp2_with fail
 refine htr'.out.mono ?_;rintro e w3 ⟨a',c',rfl,hs,hc1,hc2,_,rfl⟩
 have hcl:=hid (clone64_any a' (limbs x).length c' (limbs x) (w.drewN q) hs (by rw [←hx'.out.1] at *;exact Nat.lt_of_le_of_lt (Nat.le_of_eq hx'.out.1) hnm.out.1))
 clear hs hc1 hc2
 generalize hlx:(limbs x).length=lx at *
 clear hlx
 go_wp2_with fail
 refine hcl.out.mono ?_;rintro e w4 ⟨a2,c2,rfl,ho,hb⟩
 have HO:=hid ho
 have HB:=hid hb
 clear ho hb hcl
 go_wp2
 go_ret2
 refine⟨_,_,rfl,?_,?_,Below.ofDrew HB.out⟩
 ·rw [Nat.div_eq_of_lt hlt'.out];exact NatS.zero
 ·rw [Nat.mod_eq_of_lt hlt'.out];exact NatS.own HO.out (Nat.le_refl _)
omit hnc hcm in
theorem quot_one (hle:y≤x) (hy0:0<y) (hm1:m=1):Calls Tryz.prog 171 #[.slice a n c,.slice b m d] w fun e w'=>QuotP x y w e w':=by
 have hor:=hid (natOrder_any a b n m c d x y w hx hy (by omega) (by omega))
 subst hm1
 have hcmp:¬(cmpN x y<0):=by unfold cmpN;split <;> (try split) <;> omega
 have hyl:(limbs y).length=1:=hy.1
 have hyW:y<W64:=by have:=lt_limbs y;rwa [hyl,Nat.pow_one] at this
 have hly:limbs y = [(y:Int)]:=by
  rw [limbs_pos hy0,Nat.mod_eq_of_lt hyW,Nat.div_eq_of_lt hyW,limbs_zero]
 obtain ⟨b0,o0,rfl,k0,_⟩:=hy.at64 (k:=0) (by omega)
 rw [hly,Nat.add_zero] at k0
 have k0':w.cell? ⟨b0,o0,none⟩=some (.int .u64 (y:Int)):=k0
 have hx':=hid hx
 have hnn:=hid (show n≤1099511627776 by omega)
 have hyW':=hid hyW
 have hy0':=hid hy0
 generalize cmpN x y=cv at *
 clear hx hy hn hm hyl hyW hly hle hy0 k0
 go_enter Tryz.func171,Tryz.ntmps171
 go_wp2_with fail
 refine hor.out.mono ?_;rintro e w2 ⟨rfl,q,rfl⟩
 have hbl:=hid (byLimb_any (S:=S) a n c x y (w.drewN q) (hx'.out.keep (fun _ _ _=>rfl) (Nat.le_refl _)) hnn.out hy0'.out hyW'.out)
 go_wp2_with fail
 refine hbl.out.mono ?_;rintro e w3 ⟨a1,c1,rfl,hs,hc1,hc2,hb⟩
 have hr:x % y<W64:=Nat.lt_of_lt_of_le (Nat.mod_lt _ hy0'.out) (Nat.le_of_lt hyW'.out)
 have O:=lit_u64 w3 (x % y:Nat) (okU_nat hr) w.heap.size hb.size
 have HQ:=hid (NatS.all (B:=w.heap.size) (w':=w3.alloc (.cells #[.int .u64 (x % y:Nat)] 177)) ⟨a1,c1,rfl,hs,hc1,hc2⟩ ((Below.refl _ _).alloc (Nat.le_refl _) _))
 have HB:=hid (show Below w.heap.size w (w3.alloc (.cells #[.int .u64 (x % y:Nat)] 177)) from(Below.ofDrew hb).alloc hb.size _)
 have htr:=natTrim_any _ 1 1 _ _ (O.datF) (by omega) (Nat.le_refl _) (by unfold maxLen;omega)
 have hv1:valL [((x % y:Nat):Int)]=x % y:=by rw [valL_cons,valL_nil,Int.toNat_natCast];rfl
 rw [hv1] at htr
 have htr':=hid htr
 clear hs hc1 hc2 hb hbl O htr hv1 hr
 generalize hrr:x % y=r at *
 generalize hqq:x / y=qq at *
 have hrr':=hid hrr
 have hqq':=hid hqq
 clear hrr hqq
 generalize (limbs qq).length=ql at *
 go_wp2_with fail
 refine htr'.out.mono ?_;rintro e w4 ⟨a2,c2,rfl,h1,h2,h3,_,rfl⟩
 have HR:=hid (show NatS w.heap.size r _ _ from⟨a2,c2,rfl,h1,h2,h3⟩)
 clear h1 h2 h3 htr'
 go_wp2
 go_ret2
 exact⟨_,_,rfl,by rw [hqq'.out];exact HQ.out,by rw [hrr'.out];exact HR.out,HB.out⟩
end
theorem big_shift {x y n m:Nat} (hn:(limbs x).length=n) (hm:(limbs y).length=m) (hle:y≤x) (hy:0<y) :
  ∃s,s<64∧Go.Lib.bitLen (nth (limbs y) (m - 1)).toNat=64 - s∧(limbs (y * 2 ^ s)).length=m∧(limbs (x * 2 ^ s)).length≤n+1∧0<(limbs (x * 2 ^ s)).length∧m≤n∧x * 2 ^ s<y * 2 ^ s * W64 ^ (n - m+1):=by
 have hm0:0<m:=by rw [←hm];exact limbs_length_pos.2 hy
 have hmn:m≤n:=by rw [←hn,←hm];exact limbs_mono hle
 have h1:=valL_take_succ (l:=limbs y) (i:=m - 1) (by omega)
 rw [show m - 1+1=m by omega,List.take_of_length_le (by omega),valL_limbs] at h1
 have h2:=valL_lt ((limbs_ok y).take (m - 1))
 rw [List.length_take,Nat.min_eq_left (by omega)] at h2
 have h3:=limbs_pow_le hy
 rw [hm] at h3
 have hTW:(nth (limbs y) (m - 1)).toNat<W64:=((limbs_ok y).nth (by omega)).lt
 generalize (nth (limbs y) (m - 1)).toNat=T at *
 generalize valL ((limbs y).take (m - 1))=A at *
 have hT:0<T:=by
  rcases Nat.eq_zero_or_pos T with rfl | h
  ·rw [Nat.mul_zero] at h1;omega
  ·exact h
 obtain ⟨s,hs,hb,_,hs2⟩:=norm_s hT hTW
 have hp:=Nat.two_pow_pos s
 have hB:y * 2 ^ s<W64 ^ m:=by
  have e:W64=2 ^ (64 - s) * 2 ^ s:=by rw [←Nat.pow_add,show 64 - s+s=64 by omega,two_64]
  have h4:T<2 ^ (64 - s):=by
   have h5:T * 2 ^ s<2 ^ (64 - s) * 2 ^ s:=by rw [←e];exact hs2
   exact Nat.lt_of_mul_lt_mul_right h5
  have h5:(T+1) * 2 ^ s≤2 ^ (64 - s) * 2 ^ s:=Nat.mul_le_mul_right _ h4
  have h6:y<W64 ^ (m - 1) * (T+1):=by rw [Nat.mul_add,Nat.mul_one];omega
  have h7:y * 2 ^ s<W64 ^ (m - 1) * (T+1) * 2 ^ s:=Nat.mul_lt_mul_of_pos_right h6 hp
  have h8:W64 ^ (m - 1) * (T+1) * 2 ^ s≤W64 ^ (m - 1) * W64:=by rw [Nat.mul_assoc];exact Nat.mul_le_mul_left _ (by rw [←e] at h5;exact h5)
  rw [←Nat.pow_succ,show(m - 1).succ=m by omega] at h8
  omega
 have hxW:x<W64 ^ n:=by rw [←hn];exact lt_limbs x
 have hX:x * 2 ^ s<W64 ^ n * 2 ^ s:=Nat.mul_lt_mul_of_pos_right hxW hp
 have h2s:2 ^ s≤W64:=by rw [←two_64];exact Nat.pow_le_pow_right (by decide) (by omega)
 refine⟨s,hs,hb,?_,limbs_length_le ?_,limbs_length_pos.2 (Nat.mul_pos (by omega) hp),hmn,?_⟩
 ·have h9:=limbs_length_le hB
  have h10:=limbs_mono (a:=y) (b:=y * 2 ^ s) (Nat.le_mul_of_pos_right _ hp)
  omega
 ·rw [Nat.pow_succ];exact Nat.lt_of_lt_of_le hX (Nat.mul_le_mul_left _ h2s)
 ·refine Nat.lt_of_lt_of_le hX ?_
  have h11:W64 ^ (m - 1) * 2 ^ s * W64 ^ (n - m+1)≤y * 2 ^ s * W64 ^ (n - m+1):=Nat.mul_le_mul_right _ (Nat.mul_le_mul_right _ h3)
  have h12:W64 ^ (m - 1) * 2 ^ s * W64 ^ (n - m+1)=W64 ^ n * 2 ^ s:=by rw [Nat.mul_right_comm,←Nat.pow_add,show m - 1+(n - m+1)=n by omega]
  omega
structure QJ (X B N j:Nat) (xs qs:List Int):Prop where
 eq:X=valL qs * W64 ^ j * B+valL xs
 lt:valL xs<B * W64 ^ j
 len:qs.length+j=N
 ok:okUs64 qs
theorem QJ.step {X B N i n:Nat} {pre win post ds qs:List Int} (h:QJ X B N (i+1) (pre++(win++post)) qs) (hp:pre.length=i) (hw:win.length=n+1) (ho:okUs64 (pre++(win++post))) (hB:B<W64 ^ n) (hB0:0<B) (hd:valL ds=valL win % B) :
  QJ X B N i (pre++(ds++post)) (((valL win / B:Nat):Int) :: qs)∧valL win / B<W64:=by
 obtain ⟨h1,h2,h3⟩:=win_parts hp hw ho hB h.lt
 obtain ⟨q1,q2,q3⟩:=quot_step h.eq hB0 h.lt
 rw [h2,h3] at q1
 rw [h2,h3] at q2
 rw [h2] at q3
 have hv:valL (pre++(ds++post))=valL win % B * W64 ^ i+valL pre:=by
  rw [valL_append,valL_append,h1,Nat.mul_zero,Nat.add_zero,hp,hd,Nat.mul_comm]
  omega
 refine⟨⟨?_,?_,by have:=h.len;simp only [List.length_cons];omega,fun z hz=>?_⟩,q3⟩
 ·rw [hv,valL_cons,Int.toNat_natCast,Nat.mul_comm W64,Nat.add_comm (valL win / B)]
  exact q1
 ·rw [hv];exact q2
 ·rcases List.mem_cons.1 hz with rfl | hz
  ·exact okU_nat q3
  ·exact h.ok z hz
theorem QJ.digit {X B N i n:Nat} {pre win post qs:List Int} (h:QJ X B N (i+1) (pre++(win++post)) qs) (hp:pre.length=i) (hw:win.length=n+1) (ho:okUs64 (pre++(win++post))) (hB:B<W64 ^ n) (hB0:0<B):valL win / B<W64:=by
 have q3:=(quot_step h.eq hB0 h.lt).2.2
 rwa [(win_parts hp hw ho hB h.lt).2.1] at q3
theorem QJ.done {x y s N:Nat} {xs qs:List Int} (h:QJ (x * 2 ^ s) (y * 2 ^ s) N 0 xs qs):valL qs=x / y∧valL xs / 2 ^ s=x % y:=by
 have hp:=Nat.two_pow_pos s
 have h1:=h.eq
 have h2:=h.lt
 rw [Nat.pow_zero,Nat.mul_one] at h1 h2
 have hB:0<y * 2 ^ s:=by omega
 have e1:x * 2 ^ s / (y * 2 ^ s)=valL qs:=by rw [h1,Nat.mul_comm (valL qs),Nat.mul_add_div hB,Nat.div_eq_of_lt h2,Nat.add_zero]
 have e2:x * 2 ^ s % (y * 2 ^ s)=valL xs:=by rw [h1,Nat.mul_comm (valL qs),Nat.mul_add_mod,Nat.mod_eq_of_lt h2]
 rw [Nat.mul_div_mul_right _ _ hp] at e1
 rw [Nat.mul_mod_mul_right] at e2
 exact⟨e1.symm,by rw [←e2,Nat.mul_div_cancel _ hp]⟩
end Go.Proofs.YtgoojkiccdjplaaGreatDoor
