/-
  Parts of this claim's texts, one behind the other: YQ AA AB AC AD BA BB BC. No condition.
-/
import Derived.Test.YtgoojkiccdjplaaGreatDoorN6
import Derived.Test.YtgoojkiccdjplaaGreatDoorN3
import Derived.Lib.BitFns
import Derived.Lib.ItoaNum
import Derived.Lib.EndianBits
set_option linter.unusedVariables false
set_option linter.unusedSimpArgs false
set_option maxRecDepth 100000
set_option maxHeartbeats 16000000
namespace Go.Proofs.YtgoojkiccdjplaaGreatDoor
open Go.RowKit Go.Sort Go.Lib
abbrev ratV (r:RatD) (a:Option Addr) (c:Nat) (b:Option Addr) (d:Nat):Value:=.agg #[.bool r.neg,.slice a r.num.length c,.slice b r.den.length d]
theorem zero_any (r:RatD) (a b:Option Addr) (c d:Nat) (w:World):Calls Tryz.prog 84 #[ratV r a c b d] w fun e w'=>e = .returned (.bool (zeroR r))∧Below w.heap.size w w':=by
 have hd:=@hid (zeroR r=(!r.neg && (decide (r.num.length=0) && decide (r.den.length=0)))) rfl
 obtain ⟨ng,nu,de⟩:=r
 dsimp only at *
 cases ng
 case true=>
  have hv:=@hid (false=zeroR ⟨true,nu,de⟩) (by rw [hd.out];rfl)
  go_enter Tryz.func84,Tryz.ntmps84
  go_wp2
  go_ret
  exact⟨ret_bool hv.out,(Below.refl _ _).alloc (Nat.le_refl _) _⟩
 case false=>
  by_cases h1:nu.length=0
  ·have hv:=@hid (zeroR ⟨false,nu,de⟩=decide (de.length=0)) (by rw [hd.out];simp [h1])
   clear hd
   obtain rfl:nu = []:=List.eq_nil_of_length_eq_zero h1
   clear h1
   go_enter Tryz.func84,Tryz.ntmps84
   go_wp2
   go_ret
   exact⟨ret_bool (by rw [hv.out,←len0]),(Below.refl _ _).alloc (Nat.le_refl _) _⟩
  ·have hv:=@hid (false=zeroR ⟨false,nu,de⟩) (by rw [hd.out];simp [h1])
   have h1i:¬(nu.length:Int)=0:=by omega
   have h1d:decide ((nu.length:Int)=0)=false:=by simpa using h1i
   go_enter Tryz.func84,Tryz.ntmps84
   go_wp2
   go_ret
   exact⟨ret_bool hv.out,(Below.refl _ _).alloc (Nat.le_refl _) _⟩
theorem SlR.at64 {S:Nat→Prop} {w:World} {a:Option Addr} {n:Nat} {xs:List Int} (h:SlR Rep.u64 S w a n xs) {k:Nat} (hk:k<xs.length):∃b o,a=some ⟨b,o,none⟩∧w.cell? ⟨b,o+k,none⟩=some (.int .u64 (nth xs k))∧okU (nth xs k):=by
 obtain ⟨b,o,cs,ha,_,hr,hc⟩:=h.at (List.getElem?_eq_getElem hk)
 have:=hc 0 (.int .u64 xs[k]) (by rw [hr.1];rfl)
 rw [nth_eq hk]
 exact⟨b,o,ha,by simpa [Rep.u64] using this,hr.2⟩
theorem natValid_any {S:Nat→Prop} (a:Option Addr) (n c:Nat) (xs:List Int) (w:World) (hx:SlR Rep.u64 S w a n xs) (hn:n<1099511627776):Calls Tryz.prog 128 #[.slice a n c] w fun e w'=>e = .returned (.bool (okNat xs))∧w=w':=by
 have hd:=@Lib.hid (okNat xs=(decide (xs.length≤64) && (decide (xs.length=0) || !(nth xs (xs.length - 1) == 0)))) rfl
 have lx:=hx.1
 by_cases h64:n≤64
 case neg=>
  have hv:=@Lib.hid (false=okNat xs) (by rw [hd.out];simp [show ¬xs.length≤64 by omega])
  have hi:¬(n:Int)≤64:=by omega
  have hid:decide ((n:Int)≤64)=false:=by simpa using hi
  clear hx lx hd
  go_enter Tryz.func128,Tryz.ntmps128
  go_wp2
  go_ret
  exact⟨ret_bool hv.out,rfl⟩
 have hi:(n:Int)≤64:=by omega
 by_cases h0:n=0
 ·have hv:=@Lib.hid (true=okNat xs) (by rw [hd.out];simp [show xs.length=0 by omega])
  subst h0
  clear hx lx hd hi
  go_enter Tryz.func128,Tryz.ntmps128
  go_wp2
  go_ret
  exact⟨ret_bool hv.out,rfl⟩
 ·obtain ⟨k,rfl⟩:∃k,n=k+1:=⟨n - 1,by omega⟩
  obtain ⟨b,o,rfl,k0,_⟩:=hx.at64 (k:=k) (by omega)
  have hv:=@Lib.hid (okNat xs = !(nth xs k == 0)) (by rw [hd.out,lx,decide_eq_true (show k+1≤64 by omega),decide_eq_false (show ¬k+1=0 by omega)];rfl)
  have h0i:¬((k+1:Nat):Int)=0:=by omega
  have h0d:decide (((k+1:Nat):Int)=0)=false:=by simpa using h0i
  clear hx lx hd
  generalize nth xs k=y at *
  go_enter Tryz.func128,Tryz.ntmps128
  go_wp2
  go_ret
  exact⟨ret_bool hv.out.symm,rfl⟩
theorem one64 (w : World) : SlR Rep.u64 (fun _ => True) (w.alloc (.cells #[.int .u64 1] 177)) (some ⟨w.heap.size, 0, none⟩) 1 [1] := by
  refine ⟨rfl, fun _ => ⟨w.heap.size, 0, rfl, by simp, trivial, fun j x hx => ?_⟩⟩
  match j, hx with
  | 0, hx =>
    simp at hx
    subst hx
    refine ⟨[.int .u64 1], ⟨rfl, by unfold okU; omega⟩, fun i u hu => ?_⟩
    rw [World.cell?_alloc_new]
    simpa [Rep.u64] using hu
theorem of1_any (w:World):Calls Tryz.prog 170 #[.int .i64 1] w fun e w'=>e = .returned (.slice (some ⟨w.heap.size,0,none⟩) 1 1)∧w'=w.alloc (.cells #[.int .u64 1] 177):=by
 go_enter Tryz.func170,Tryz.ntmps170
 go_wp2
 go_ret
 exact⟨rfl,rfl⟩
theorem one_any (w:World):Calls Tryz.prog 130 #[] w fun e w'=>e = .returned (.slice (some ⟨w.heap.size,0,none⟩) 1 1)∧w'=w.alloc (.cells #[.int .u64 1] 177):=by
 have h:=hid (of1_any w)
 go_enter Tryz.func130,Tryz.ntmps130
 go_wp2_with fail
 refine h.out.mono ?_;rintro e w' ⟨rfl,rfl⟩
 go_wp2
 go_ret
 exact⟨rfl,rfl⟩
theorem W64_pos:0<W64:=by decide
def okUs64 (l:List Int):Prop:=∀x∈l,okU x
theorem valL_nil:valL []=0:=rfl
theorem valL_cons (x:Int) (l:List Int):valL (x :: l)=x.toNat+W64 * valL l:=rfl
theorem valL_append (a b : List Int) : valL (a ++ b) = valL a + W64 ^ a.length * valL b := by
  induction a with
  | nil => simp [valL]
  | cons x a ih =>
    rw [List.cons_append, valL_cons, valL_cons, ih, List.length_cons, Nat.pow_succ, Nat.mul_add, ← Nat.add_assoc, ← Nat.mul_assoc, Nat.mul_comm W64 (W64 ^ a.length)]
theorem valL_lt {l : List Int} (h : okUs64 l) : valL l < W64 ^ l.length := by
  induction l with
  | nil => simp [valL]
  | cons x l ih =>
    have hx : okU x := h x (by simp)
    have hl := ih fun y hy => h y (by simp [hy])
    rw [valL_cons, List.length_cons, Nat.pow_succ]
    have h1 : x.toNat < W64 := by have := hx.1; have := hx.2; unfold W64; omega
    have h2 : W64 * (valL l + 1) ≤ W64 * W64 ^ l.length := Nat.mul_le_mul_left _ hl
    rw [Nat.mul_add, Nat.mul_one] at h2
    rw [Nat.mul_comm (W64 ^ l.length)]
    omega
def limbs (n:Nat):List Int:=if _h:n=0 then [] else((n % W64:Nat):Int) :: limbs (n / W64)
termination_by n
decreasing_by exact Nat.div_lt_self (by omega) (by decide)
theorem limbs_zero:limbs 0 = []:=by unfold limbs;rfl
theorem limbs_pos {n:Nat} (h:0<n):limbs n=((n % W64:Nat):Int) :: limbs (n / W64):=by rw [limbs,dif_neg (by omega)]
theorem limbs_ok (n : Nat) : okUs64 (limbs n) := by
  induction n using Nat.strongRecOn with
  | _ n ih =>
    rcases Nat.eq_zero_or_pos n with rfl | h
    · rw [limbs_zero]; intro x hx; simp at hx
    · rw [limbs_pos h]
      intro x hx
      rcases List.mem_cons.1 hx with rfl | hx
      · have := Nat.mod_lt n W64_pos
        constructor
        · omega
        · unfold W64 at *; omega
      · exact ih _ (Nat.div_lt_self h (by decide)) x hx
theorem valL_limbs (n : Nat) : valL (limbs n) = n := by
  induction n using Nat.strongRecOn with
  | _ n ih =>
    rcases Nat.eq_zero_or_pos n with rfl | h
    · rw [limbs_zero]; rfl
    · rw [limbs_pos h, valL_cons, ih _ (Nat.div_lt_self h (by decide))]
      have := Nat.mod_add_div n W64
      rw [Int.toNat_natCast]
      exact this
def trimmed (l:List Int):Prop:=∀x,l.getLast? = some x→x≠0
theorem trimmed_limbs (n : Nat) : trimmed (limbs n) := by
  induction n using Nat.strongRecOn with
  | _ n ih =>
    rcases Nat.eq_zero_or_pos n with rfl | h
    · rw [limbs_zero]; intro x hx; cases hx
    · rw [limbs_pos h]
      intro x hx
      rcases Nat.eq_zero_or_pos (n / W64) with h0 | h0
      · rw [h0, limbs_zero] at hx
        simp at hx
        subst hx
        have := Nat.mod_add_div n W64
        rw [h0] at this
        intro e
        have e : n % W64 = 0 := Int.natCast_eq_zero.1 e
        rw [e] at this
        omega
      · rw [limbs_pos h0, List.getLast?_cons_cons, ← limbs_pos h0] at hx
        exact ih _ (Nat.div_lt_self h (by decide)) x hx
theorem valL_zero {l : List Int} (h : okUs64 l) (h0 : valL l = 0) : ∀ x ∈ l, x = 0 := by
  induction l with
  | nil => intro x hx; simp at hx
  | cons y l ih =>
    rw [valL_cons] at h0
    have hy : okU y := h y (by simp)
    have h1 : y.toNat = 0 := by omega
    have h2 : W64 * valL l = 0 := by omega
    have h3 : valL l = 0 := (Nat.mul_eq_zero.1 h2).resolve_left (by decide)
    intro x hx
    rcases List.mem_cons.1 hx with rfl | hx
    · have := hy.1; omega
    · exact ih (fun z hz => h z (by simp [hz])) h3 x hx
theorem limbs_valL {l : List Int} (h : okUs64 l) (ht : trimmed l) : limbs (valL l) = l := by
  induction l with
  | nil => exact limbs_zero
  | cons x l ih =>
    have hx : okU x := h x (by simp)
    have hl : okUs64 l := fun y hy => h y (by simp [hy])
    have htl : trimmed l := by
      intro y hy
      cases l with
      | nil => cases hy
      | cons z l => exact ht y (by rw [List.getLast?_cons_cons]; exact hy)
    have hxl : x.toNat < W64 := by have := hx.1; have := hx.2; unfold W64; omega
    have hpos : 0 < valL (x :: l) := by
      rcases Nat.eq_zero_or_pos (valL (x :: l)) with h0 | h0
      · have hz := valL_zero h h0
        cases hg : (x :: l).getLast? with
        | none => simp at hg
        | some y => exact absurd (hz y (List.mem_of_getLast? hg)) (ht y hg)
      · exact h0
    rw [limbs_pos hpos, valL_cons, Nat.add_mul_mod_self_left, Nat.mod_eq_of_lt hxl, Nat.add_mul_div_left _ _ W64_pos, Nat.div_eq_of_lt hxl, Nat.zero_add, ih hl htl]
    have := hx.1
    congr 1
    omega
theorem limbs_inj {a b:Nat} (h:limbs a=limbs b):a=b:=by rw [←valL_limbs a,←valL_limbs b,h]
theorem limbs_length_le {n k : Nat} (h : n < W64 ^ k) : (limbs n).length ≤ k := by
  induction k generalizing n with
  | zero => rw [Nat.pow_zero] at h; obtain rfl : n = 0 := by omega
            rw [limbs_zero]; exact Nat.le_refl _
  | succ k ih =>
    rcases Nat.eq_zero_or_pos n with rfl | h0
    · rw [limbs_zero]; exact Nat.zero_le _
    · rw [limbs_pos h0, List.length_cons]
      have : n / W64 < W64 ^ k := by rw [Nat.div_lt_iff_lt_mul W64_pos, ← Nat.pow_succ]; exact h
      have := ih this
      omega
theorem lt_limbs (n:Nat):n<W64 ^ (limbs n).length:=by have:=valL_lt (limbs_ok n);rwa [valL_limbs] at this
theorem limbs_pow_le {n : Nat} (h : 0 < n) : W64 ^ ((limbs n).length - 1) ≤ n := by
  induction n using Nat.strongRecOn with
  | _ n ih =>
    rcases Nat.eq_zero_or_pos (n / W64) with h0 | h0
    · rw [limbs_pos h, h0, limbs_zero]
      exact h
    · have := ih _ (Nat.div_lt_self h (by decide)) h0
      rw [limbs_pos h, List.length_cons, Nat.add_sub_cancel]
      have hl : 1 ≤ (limbs (n / W64)).length := by rw [limbs_pos h0]; simp
      have e : (limbs (n / W64)).length = (limbs (n / W64)).length - 1 + 1 := by omega
      rw [e, Nat.pow_succ]
      exact (Nat.le_div_iff_mul_le W64_pos).1 this
theorem limbs_mono {a b:Nat} (h:a≤b):(limbs a).length≤(limbs b).length:=limbs_length_le (Nat.lt_of_le_of_lt h (lt_limbs b))
theorem limbs_length_eq_zero {n:Nat}:(limbs n).length=0↔n=0:=by
 constructor
 ·intro h
  have:=lt_limbs n
  rw [h,Nat.pow_zero] at this
  omega
 ·rintro rfl;rw [limbs_zero];rfl
theorem limbs_length_pos {n:Nat}:0<(limbs n).length↔0<n:=by
 have:=@limbs_length_eq_zero n
 omega
theorem valL_take_succ {l:List Int} {i:Nat} (h:i<l.length):valL (l.take (i+1))=valL (l.take i)+W64 ^ i * (nth l i).toNat:=by
 rw [List.take_succ_eq_append_getElem h,valL_append,List.length_take,Nat.min_eq_left (by omega),nth_eq h,valL_cons,valL_nil,Nat.mul_zero,Nat.add_zero]
theorem valL_drop {l:List Int} {i:Nat} (h:i<l.length):valL (l.drop i)=(nth l i).toNat+W64 * valL (l.drop (i+1)):=by
 rw [List.drop_eq_getElem_cons h,valL_cons,nth_eq h]
theorem valL_split (l:List Int) (i:Nat) (h:i≤l.length):valL l=valL (l.take i)+W64 ^ i * valL (l.drop i):=by
 have:=valL_append (l.take i) (l.drop i)
 rw [List.take_append_drop,List.length_take,Nat.min_eq_left h] at this
 exact this
theorem okUs64.take {l:List Int} (h:okUs64 l) (i:Nat):okUs64 (l.take i):=fun x hx=>h x (List.mem_of_mem_take hx)
theorem okUs64.append {a b:List Int} (h:okUs64 a) (k:okUs64 b):okUs64 (a++b):=fun x hx=>(List.mem_append.1 hx).elim (h x) (k x)
theorem okUs64.nth {l:List Int} (h:okUs64 l) {i:Nat} (hi:i<l.length):okU (nth l i):=h _ (nth_mem hi)
theorem okU.lt {x:Int} (h:okU x):x.toNat<W64:=by have:=h.1;have:=h.2;unfold W64;omega
theorem okU.cast {x:Int} (h:okU x):(x.toNat:Int)=x:=by have:=h.1;omega
theorem okU_nat {n:Nat} (h:n<W64):okU (n:Int):=⟨by omega,by unfold W64 at h;omega⟩
theorem limbs_take {l : List Int} {k : Nat} (h : okUs64 l) (hk : k ≤ l.length) (hz : ∀ j, k ≤ j → j < l.length → nth l j = 0) (h0 : k = 0 ∨ nth l (k - 1) ≠ 0) : l.take k = limbs (valL l) := by
  have hd : valL (l.drop k) = 0 := by
    have : ∀ m, m ≤ l.length - k → valL (l.drop (l.length - m)) = 0 := by
      intro m
      induction m with
      | zero => intro _; rw [Nat.sub_zero, List.drop_length]; rfl
      | succ m ih =>
        intro hm
        rw [valL_drop (by omega), hz _ (by omega) (by omega), show l.length - (m + 1) + 1 = l.length - m by omega, ih (by omega)]
        rfl
    have := this (l.length - k) (Nat.le_refl _)
    rwa [show l.length - (l.length - k) = k by omega] at this
  have hv : valL l = valL (l.take k) := by rw [valL_split l k hk, hd]; omega
  rw [hv, limbs_valL (h.take k)]
  intro x hx
  rcases h0 with rfl | h0
  · simp at hx
  · rcases Nat.eq_zero_or_pos k with rfl | hp
    · simp at hx
    · rw [List.getLast?_eq_getElem?, List.length_take, Nat.min_eq_left hk, List.getElem?_take_of_lt (by omega), List.getElem?_eq_getElem (by omega)] at hx
      injection hx with hx
      rw [← hx, ← nth_eq]
      exact h0
theorem valL_lt_of_length {a b:List Int} (ha:okUs64 a) (hb:okUs64 b) (tb:trimmed b) (h:a.length<b.length):valL a<valL b:=by
 have h1:=valL_lt ha
 have hb':=limbs_valL hb tb
 have hp:0<valL b:=by
  rcases Nat.eq_zero_or_pos (valL b) with h0 | h0
  ·rw [h0,limbs_zero] at hb';rw [←hb'] at h;simp at h
  ·exact h0
 have h2:=limbs_pow_le hp
 rw [hb'] at h2
 have h3:W64 ^ a.length≤W64 ^ (b.length - 1):=Nat.pow_le_pow_right W64_pos (by omega)
 omega
def cmpN (a b:Nat):Int:=if a<b then -1 else if a=b then 0 else 1
theorem valL_snoc {l:List Int} (x:Nat):valL (l ++ [(x:Int)])=valL l+W64 ^ l.length * x:=by
 rw [valL_append,valL_cons,valL_nil,Int.toNat_natCast,Nat.mul_zero,Nat.add_zero]
theorem okUs64.snoc {l:List Int} (h:okUs64 l) {x:Nat} (hx:x<W64):okUs64 (l ++ [(x:Int)]):=
 h.append fun y hy=>by rw [List.mem_singleton.1 hy];exact okU_nat hx
theorem add_step {ds:List Int} {i c x y A B:Nat} (h:valL ds+W64 ^ i * c=A+B) (hl:ds.length=i) :
  valL (ds ++ [(((x+y+c) % W64:Nat):Int)])+W64 ^ (i+1) * ((x+y+c) / W64)=A+W64 ^ i * x+(B+W64 ^ i * y):=by
 have h1:=Nat.mod_add_div (x+y+c) W64
 rw [valL_snoc,hl,Nat.pow_succ,Nat.mul_assoc,Nat.add_assoc,←Nat.mul_add,h1,Nat.mul_add,Nat.mul_add]
 omega
theorem carry_le {x y c:Nat} (hx:x<W64) (hy:y<W64) (hc:c≤1):(x+y+c) / W64≤1:=by
 have:(x+y+c) / W64<2:=by rw [Nat.div_lt_iff_lt_mul W64_pos];omega
 omega
theorem mul_bound {x k c o:Nat} (hx:x<W64) (hk:k<W64) (hc:c<W64) (ho:o<W64):x * k+c+o<W64 * W64:=by
 have h1:x * k≤(W64 - 1) * (W64 - 1):=Nat.mul_le_mul (by omega) (by omega)
 have h2:(W64 - 1) * (W64 - 1)+(W64 - 1)+(W64 - 1)<W64 * W64:=by decide
 omega
theorem row_step {ds:List Int} {i c c' x k o d A O:Nat} (h:valL ds+W64 ^ i * c=O+A * k) (hl:ds.length=i) (hs:d+W64 * c'=x * k+c+o) :
  valL (ds ++ [(d:Int)])+W64 ^ (i+1) * c'=O+W64 ^ i * o+(A+W64 ^ i * x) * k:=by
 rw [valL_snoc,hl,Nat.pow_succ]
 have h2:W64 ^ i * (d+W64 * c')=W64 ^ i * (x * k+c+o):=by rw [hs]
 rw [Nat.mul_add,Nat.mul_add,Nat.mul_add,←Nat.mul_assoc,←Nat.mul_assoc] at h2
 rw [Nat.add_mul]
 omega
theorem mul_lt_pow {a b i k:Nat} (ha:a<W64 ^ i) (hb:b<W64 ^ k):a * b<W64 ^ (i+k):=by
 rw [Nat.pow_add]
 exact Nat.mul_lt_mul'' ha hb
theorem add_lt_pow {a b i k:Nat} (ha:a<W64 ^ i) (hb:b<W64 ^ k) (hk:k≤i):a+b<W64 ^ (i+1):=by
 have h1:W64 ^ k≤W64 ^ i:=Nat.pow_le_pow_right W64_pos hk
 rw [Nat.pow_succ]
 have h2:W64 ^ i * 2≤W64 ^ i * W64:=Nat.mul_le_mul_left _ (by decide)
 omega
theorem guess_first {q h l nx d1 d2:Nat} (hn:nx<W64) (hq:q * (d1 * W64+d2)≤(h * W64+l) * W64+nx) (hd:0<d1):q≤(h * W64+l) / d1:=by
 rw [Nat.le_div_iff_mul_le hd]
 have h1:q * d1 * W64≤(h * W64+l) * W64+nx:=by
  rw [Nat.mul_add,←Nat.mul_assoc q d1 W64] at hq
  exact Nat.le_trans (Nat.le_add_right _ _) hq
 have h2:q * d1 * W64<(h * W64+l+1) * W64:=by rw [Nat.add_mul (h * W64+l) 1 W64,Nat.one_mul];omega
 have h3:=Nat.lt_of_mul_lt_mul_right h2
 omega
theorem guess_next {q qt r h l nx d1 d2:Nat} (hq:qt * (d1 * W64+d2)≤(h * W64+l) * W64+nx) (hi:q * d1+r=h * W64+l) (hle:qt≤q) (ht:r * W64+nx<q * d2):0<q∧qt≤q - 1:=by
 have h0:0<q:=by
  rcases Nat.eq_zero_or_pos q with rfl | h0
  ·rw [Nat.zero_mul] at ht;omega
  ·exact h0
 refine⟨h0,?_⟩
 rcases Nat.lt_or_ge qt q with h1 | h1
 ·omega
 ·obtain rfl:qt=q:=by omega
  rw [Nat.mul_add,←Nat.mul_assoc qt d1 W64,←hi,Nat.add_mul (qt * d1) r W64] at hq
  omega
theorem guess_more {q r d1 N:Nat} (hi:q * d1+r=N) (h0:0<q):(q - 1) * d1+(r+d1)=N:=by
 obtain ⟨k,rfl⟩:∃k,q=k+1:=⟨q - 1,by omega⟩
 rw [Nat.add_mul,Nat.one_mul] at hi
 rw [Nat.add_sub_cancel]
 omega
theorem halves_le {p r nx:Nat} (hn:nx<W64):(p / W64<r∨p / W64=r∧p % W64≤nx)↔p≤r * W64+nx:=by
 have h1:=Nat.mod_add_div p W64
 have h2:=Nat.mod_lt p W64_pos
 generalize p / W64=a at *
 generalize p % W64=c at *
 constructor
 ·rintro (h | ⟨rfl,h⟩)
  ·have:W64 * (a+1)≤W64 * r:=Nat.mul_le_mul_left _ h
   rw [Nat.mul_add,Nat.mul_comm W64 r] at this
   omega
  ·rw [Nat.mul_comm] at h1;omega
 ·intro h
  rcases Nat.lt_trichotomy a r with h3 | h3 | h3
  ·exact .inl h3
  ·subst h3;rw [Nat.mul_comm] at h1;exact .inr ⟨rfl,by omega⟩
  ·have:W64 * (r+1)≤W64 * a:=Nat.mul_le_mul_left _ h3
   rw [Nat.mul_add,Nat.mul_comm W64 r] at this
   omega
theorem digit_le {X b m X3 D:Nat} (hX:X<(X3+1) * W64 ^ m) (hb:D * W64 ^ m≤b):X / b * D≤X3:=by
 have h1:X / b * b≤X:=Nat.div_mul_le_self X b
 have h2:X / b * (D * W64 ^ m)≤X / b * b:=Nat.mul_le_mul_left _ hb
 rw [←Nat.mul_assoc] at h2
 have h3:X / b * D * W64 ^ m<(X3+1) * W64 ^ m:=by omega
 have:=Nat.lt_of_mul_lt_mul_right h3
 omega
theorem digit_lt {X b:Nat} (h:X<b * W64):X / b<W64:=Nat.div_lt_of_lt_mul h
theorem less_step {ds:List Int} {i A P c b y k xx d l c' b':Nat} (h:valL ds+P=A+W64 ^ i * (b+c)) (hl:ds.length=i) (h1:l+W64 * c'=y * k+c) (h2:d+l+b=xx+W64 * b') :
  valL (ds ++ [(d:Int)])+(P+W64 ^ i * (y * k))=A+W64 ^ i * xx+W64 ^ (i+1) * (b'+c'):=by
 rw [valL_snoc,hl,Nat.pow_succ]
 have h0:d+y * k+(b+c)=xx+W64 * (b'+c'):=by rw [Nat.mul_add W64];omega
 generalize W64 ^ i=p at *
 have h3:p * d+p * (y * k)+p * (b+c)=p * xx+p * W64 * (b'+c'):=by rw [Nat.mul_assoc p W64,←Nat.mul_add,←Nat.mul_add,←Nat.mul_add,h0]
 omega
theorem sub_digit {x l b:Nat} (hx:x<W64) (hl:l<W64) (hb:b≤1):(x+W64 - l - b) % W64+l+b=x+W64 * (if x<l+b then 1 else 0):=by
 by_cases hlt:x<l+b
 ·rw [if_pos hlt,Nat.mul_one]
  by_cases hz:x+W64 - l - b<W64
  ·rw [Nat.mod_eq_of_lt hz];omega
  ·omega
 ·rw [if_neg hlt,Nat.mul_zero,show x+W64 - l - b=(x - l - b)+W64 by omega,Nat.add_mod_right,Nat.mod_eq_of_lt (by omega)]
  omega
theorem mul_digit {y k c:Nat} (hy:y<W64) (hk:k<W64) (hc:c<W64) :
  y * k / W64+(y * k % W64+c) / W64<W64∧(y * k % W64+c) % W64+W64 * (y * k / W64+(y * k % W64+c) / W64)=y * k+c:=by
 have hb:=mul_bound hy hk hc (show 0<W64 by decide)
 have h1:=Nat.mod_add_div (y * k) W64
 have h2:=Nat.mod_add_div (y * k % W64+c) W64
 generalize y * k / W64=hi at *
 generalize y * k % W64=lo at *
 generalize (lo+c) / W64=c1 at *
 generalize (lo+c) % W64=l1 at *
 generalize y * k=p at *
 have h4:l1+W64 * (hi+c1)=p+c:=by rw [Nat.mul_add];omega
 exact⟨by apply Nat.lt_of_mul_lt_mul_left (a:=W64);omega,h4⟩
theorem top_over {Y b n:Nat} (hY:Y<W64 ^ (n+1)) (hb:b<W64 ^ n) :
  (Y+b<W64 ^ (n+1)→Y / W64 ^ n≤(Y+b) % W64 ^ (n+1) / W64 ^ n∧(Y+b) % W64 ^ (n+1)=Y+b) ∧
  (W64 ^ (n+1)≤Y+b→(Y+b) % W64 ^ (n+1) / W64 ^ n<Y / W64 ^ n∧(Y+b) % W64 ^ (n+1)+W64 ^ (n+1)=Y+b):=by
 have hp:0<W64 ^ n:=Nat.pow_pos W64_pos
 have e1:W64 ^ (n+1)=W64 ^ n * W64:=Nat.pow_succ _ _
 constructor
 ·intro h
  rw [Nat.mod_eq_of_lt h]
  exact⟨Nat.div_le_div_right (by omega),rfl⟩
 ·intro h
  have e2:(Y+b) % W64 ^ (n+1)=Y+b - W64 ^ (n+1):=by
   have:=Nat.pow_le_pow_right W64_pos (show n≤n+1 by omega)
   rw [Nat.mod_eq_sub_mod h,Nat.mod_eq_of_lt]
   omega
  rw [e2]
  refine⟨?_,by omega⟩
  rw [Nat.div_eq_of_lt (by omega)]
  refine Nat.div_pos ?_ hp
  have:W64 ^ n * 2≤W64 ^ n * W64:=Nat.mul_le_mul_left _ (by decide)
  omega
theorem quot_step {N Q R b i:Nat} (h:N=Q * W64 ^ (i+1) * b+R) (hb:0<b) (hR:R<b * W64 ^ (i+1)) :
  N=(Q * W64+R / W64 ^ i / b) * W64 ^ i * b+(R / W64 ^ i % b * W64 ^ i+R % W64 ^ i)∧R / W64 ^ i % b * W64 ^ i+R % W64 ^ i<b * W64 ^ i∧R / W64 ^ i / b<W64:=by
 have hp:0<W64 ^ i:=Nat.pow_pos W64_pos
 have h1:=Nat.mod_add_div R (W64 ^ i)
 have h2:=Nat.mod_add_div (R / W64 ^ i) b
 have h3:=Nat.mod_lt R hp
 have h4:=Nat.mod_lt (R / W64 ^ i) hb
 have h5:R / W64 ^ i<b * W64:=by
  rw [Nat.div_lt_iff_lt_mul hp,Nat.mul_assoc,Nat.mul_comm W64,←Nat.pow_succ];exact hR
 generalize hX:R / W64 ^ i=X at *
 generalize hr:R % W64 ^ i=r at *
 have h6:X / b<W64:=digit_lt h5
 generalize hd:X / b=d at *
 generalize hm:X % b=m at *
 refine⟨?_,?_,h6⟩
 ·rw [h,←h1,Nat.pow_succ,Nat.add_mul,Nat.add_mul]
  have e1:Q * (W64 ^ i * W64) * b=Q * W64 * W64 ^ i * b:=by rw [Nat.mul_comm (W64 ^ i) W64,Nat.mul_assoc Q W64]
  have e2:W64 ^ i * X=d * W64 ^ i * b+m * W64 ^ i:=by
   rw [←h2,Nat.mul_add,Nat.mul_comm (W64 ^ i) m,Nat.mul_comm d,Nat.mul_assoc (W64 ^ i) d b,Nat.mul_comm d b]
   omega
  omega
 ·have:(m+1) * W64 ^ i≤b * W64 ^ i:=Nat.mul_le_mul_right _ h4
  rw [Nat.add_mul,Nat.one_mul] at this
  omega
theorem byLimb_step {N Q r x k:Nat} (h:N=Q * k+r) (hk:0<k) (hr:r<k) (hx:x<W64) :
  N * W64+x=(Q * W64+(r * W64+x) / k) * k+(r * W64+x) % k∧(r * W64+x) % k<k∧(r * W64+x) / k<W64:=by
 have h1:=Nat.mod_add_div (r * W64+x) k
 refine⟨?_,Nat.mod_lt _ hk,?_⟩
 ·rw [h,Nat.add_mul (Q * k) r W64,Nat.add_mul (Q * W64),Nat.mul_comm ((r * W64+x) / k) k,Nat.mul_right_comm Q k W64]
  omega
 ·apply Nat.div_lt_of_lt_mul
  have:(r+1) * W64≤k * W64:=Nat.mul_le_mul_right _ hr
  rw [Nat.add_mul,Nat.one_mul] at this
  omega
theorem two_64:(2:Nat) ^ 64=W64:=by decide
theorem two_pow_64 (m k:Nat):(2:Nat) ^ (64 * m+k)=W64 ^ m * 2 ^ k:=by rw [Nat.pow_add,Nat.pow_mul,two_64]
theorem up_parts {x k:Nat} (hx:x<W64) (hk:k<64):x * 2 ^ k % W64+W64 * (x / 2 ^ (64 - k))=x * 2 ^ k∧x / 2 ^ (64 - k)<2 ^ k:=by
 have e:W64=2 ^ (64 - k) * 2 ^ k:=by rw [←Nat.pow_add,show 64 - k+k=64 by omega,two_64]
 have h1:x * 2 ^ k / W64=x / 2 ^ (64 - k):=by rw [e,Nat.mul_div_mul_right _ _ (Nat.two_pow_pos k)]
 have h2:=Nat.mod_add_div (x * 2 ^ k) W64
 rw [h1] at h2
 refine⟨h2,?_⟩
 rw [Nat.div_lt_iff_lt_mul (Nat.two_pow_pos _),Nat.mul_comm,←e]
 exact hx
theorem or_low {x k t:Nat} (hk:k≤64) (ht:t<2 ^ k):t ||| (x * 2 ^ k % W64)=t+x * 2 ^ k % W64:=by
 have e:x * 2 ^ k % W64=(x % 2 ^ (64 - k)) * 2 ^ k:=by
  have:W64=2 ^ (64 - k) * 2 ^ k:=by rw [←Nat.pow_add,show 64 - k+k=64 by omega,two_64]
  rw [this,Nat.mul_mod_mul_right]
 rw [e,←Nat.shiftLeft_eq,Nat.or_comm,←Nat.shiftLeft_add_eq_or_of_lt ht,Nat.add_comm]
structure ZD where
 neg:Bool
 n:Nat
def wideZ (neg:Bool) (n:Nat):ZD:=⟨neg && decide (0<n),n⟩
def plusZ (a b:ZD):ZD:=if a.neg=b.neg then wideZ a.neg (a.n+b.n) else if a.n<b.n then wideZ b.neg (b.n - a.n) else wideZ a.neg (a.n - b.n)
def timesZ (a b:ZD):ZD:=wideZ (a.neg != b.neg) (a.n * b.n)
def orderZ (a b:ZD):Int:=if a.neg=b.neg then(if a.neg then cmpN b.n a.n else cmpN a.n b.n) else if a.neg then -1 else 1
def ratN (neg:Bool) (n d:Nat):RatD:=⟨neg && decide (0<n / Nat.gcd n d),limbs (n / Nat.gcd n d),limbs (d / Nat.gcd n d)⟩
def rat0:RatD:=⟨false,[],[]⟩
def bigR (r:RatD):Bool:=decide (64<r.num.length) || decide (64<r.den.length)
def lowestR (neg:Bool) (n d:Nat):RatD × Int:=if bigR (ratN neg n d) then(rat0,4) else(ratN neg n d,0)
abbrev validR (r:RatD):Bool:=okRat r
structure IsR (r:RatD) (n d:Nat):Prop where
 num:r.num=limbs n
 den:r.den=limbs d
 nl:r.num.length≤64
 dl:r.den.length≤64
 pos:0<d
 co:Nat.gcd n d=1
 sg:r.neg=true→0<n
theorem okNat_limbs {xs:List Int} (h:okUs64 xs) (hk:okNat xs=true):xs=limbs (valL xs)∧xs.length≤64:=by
 unfold okNat at hk
 simp only [Bool.and_eq_true,Bool.or_eq_true,decide_eq_true_eq,Bool.not_eq_true',beq_eq_false_iff_ne] at hk
 refine⟨?_,hk.1⟩
 have:=limbs_take (l:=xs) (k:=xs.length) h (Nat.le_refl _) (fun j h1 h2=>by omega) hk.2
 rwa [List.take_length] at this
theorem okNat_of_limbs {n:Nat} (h:(limbs n).length≤64):okNat (limbs n)=true:=by
 unfold okNat
 simp only [Bool.and_eq_true,Bool.or_eq_true,decide_eq_true_eq,Bool.not_eq_true',beq_eq_false_iff_ne]
 refine⟨h,?_⟩
 rcases Nat.eq_zero_or_pos n with rfl | h0
 ·left;rw [limbs_zero];rfl
 ·right
  have hl:=limbs_length_pos.2 h0
  rw [nth_eq (by omega)]
  refine trimmed_limbs n _ ?_
  rw [List.getLast?_eq_getElem?,List.getElem?_eq_getElem (by omega)]
theorem validR_is {r:RatD} (h1:okUs64 r.num) (h2:okUs64 r.den) (h:validR r=true):IsR r (valL r.num) (valL r.den):=by
 unfold validR okRat at h
 simp only [Bool.and_eq_true,Bool.not_eq_true',decide_eq_false_iff_not,Bool.and_eq_false_iff,beq_iff_eq] at h
 obtain ⟨a1,a2,a3,a4,a5⟩:=h
 obtain ⟨e1,l1⟩:=okNat_limbs h1 a1
 obtain ⟨e2,l2⟩:=okNat_limbs h2 a2
 refine⟨e1,e2,l1,l2,?_,a5,fun hn=>?_⟩
 ·rw [←limbs_length_pos,←e2];omega
 ·rw [←limbs_length_pos,←e1]
  rcases a4 with a4 | a4
  ·rw [hn] at a4;cases a4
  ·omega
theorem IsR.valid {r : RatD} {n d : Nat} (h : IsR r n d) : validR r = true := by
  unfold validR okRat
  have h1 := okNat_of_limbs (n := n) (by rw [← h.num]; exact h.nl)
  have h2 := okNat_of_limbs (n := d) (by rw [← h.den]; exact h.dl)
  have h3 := limbs_length_pos.2 h.pos
  rw [h.num, h.den, h1, h2, valL_limbs, valL_limbs, h.co]
  have h4 : (r.neg && decide ((limbs n).length = 0)) = false := by
    cases hn : r.neg with
    | false => rfl
    | true =>
      have := limbs_length_pos.2 (h.sg hn)
      rw [decide_eq_false (by omega)]; rfl
  rw [h4, decide_eq_false (by omega)]
  rfl
theorem IsR.val {r:RatD} {n d:Nat} (h:IsR r n d):valL r.num=n∧valL r.den=d:=by rw [h.num,h.den,valL_limbs,valL_limbs];exact⟨rfl,rfl⟩
def numZ (r:RatD):ZD:=⟨r.neg,valL r.num⟩
def denZ (r:RatD):ZD:=⟨false,valL r.den⟩
def cmpR (a b:RatD):Int:=if validR a && validR b then orderZ (timesZ (numZ a) (denZ b)) (timesZ (numZ b) (denZ a)) else 0
def negR (a:RatD):RatD:=if validR a then⟨!a.neg && decide (0<a.num.length),a.num,a.den⟩ else rat0
def sumZ (a b:RatD):ZD:=plusZ (timesZ (numZ a) (denZ b)) (timesZ (numZ b) (denZ a))
def addR (a b:RatD):RatD × Int:=if validR a && validR b then lowestR (sumZ a b).neg (sumZ a b).n (valL a.den * valL b.den) else(rat0,1)
def subR (a b:RatD):RatD × Int:=if validR b then addR a (negR b) else(rat0,1)
def mulR (a b:RatD):RatD × Int:=if validR a && validR b then lowestR (a.neg != b.neg) (valL a.num * valL b.num) (valL a.den * valL b.den) else(rat0,1)
def quoR (a b:RatD):RatD × Int:=if validR a && (validR b && !decide (b.num.length=0)) then lowestR (a.neg != b.neg) (valL a.num * valL b.den) (valL a.den * valL b.num) else(rat0,1)
theorem trim_k : ∀ xs : List Int, ∃ k, k ≤ xs.length ∧ (∀ j, k ≤ j → j < xs.length → nth xs j = 0) ∧ (k = 0 ∨ nth xs (k - 1) ≠ 0) := fun xs => by
  have key : ∀ m, m ≤ xs.length → (∀ j, m ≤ j → j < xs.length → nth xs j = 0) → ∃ k, k ≤ xs.length ∧ (∀ j, k ≤ j → j < xs.length → nth xs j = 0) ∧ (k = 0 ∨ nth xs (k - 1) ≠ 0) := by
    intro m
    induction m with
    | zero => exact fun h1 h2 => ⟨0, h1, h2, .inl rfl⟩
    | succ m ih =>
      intro h1 h2
      by_cases h0 : nth xs m = 0
      · refine ih (by omega) fun j h3 h4 => ?_
        by_cases hj : j = m
        · rw [hj]; exact h0
        · exact h2 j (by omega) h4
      · exact ⟨m + 1, h1, h2, .inr h0⟩
  exact key xs.length (Nat.le_refl _) fun j h1 h2 => absurd h1 (by omega)
theorem SlR.cut64 {S:Nat→Prop} {w:World} {a:Option Addr} {n:Nat} {xs:List Int} (h:SlR Rep.u64 S w a n xs) {k:Nat} (hk:k≤n):SlR Rep.u64 S w a k (xs.take k):=by
 refine⟨by rw [List.length_take,h.1];omega,fun h0=>?_⟩
 obtain ⟨b,o,ha,hl,hS,hc⟩:=h.2 (by omega)
 refine⟨b,o,ha,hl,hS,fun j x hx=>hc j x ?_⟩
 have hj:=(List.getElem?_eq_some_iff.1 hx).1
 rw [List.length_take] at hj
 rw [List.getElem?_take_of_lt (by omega)] at hx
 exact hx
theorem size_u64n (w:World):(sizeOf 177).run Tryz.prog w = .ok 1 w:=by kernel_rfl
def TrimPost (S:Nat→Prop) (a:Option Addr) (x:Nat) (w:World) (e:Ending) (w':World):Prop:=
 ∃a' c',e = .returned (.slice a' (limbs x).length c')∧SlR Rep.u64 S w a' (limbs x).length (limbs x)∧(limbs x).length≤c'∧c'≤maxLen∧(∀y,a'=some y→a=some y)∧w=w'
def lenV:Value→Nat
 | .slice _ n _=>n
 | _=>0
theorem natTrim_any {S:Nat→Prop} (a:Option Addr) (n c:Nat) (xs:List Int) (w:World) (hx:SlR Rep.u64 S w a n xs) (hn:n<17592186044416) (hnc:n≤c) (hcm:c≤maxLen) :
  Calls Tryz.prog 197 #[.slice a n c] w fun e w'=>TrimPost S a (valL xs) w e w':=by
 have hcm':=hid hcm
 obtain ⟨k,hk0,hz,h0⟩:=trim_k xs
 have lx:=hx.1
 have hkn:k≤n:=by omega
 have hlim:=hid (limbs_take hx.us hk0 hz h0)
 have hlk:=hid (show(xs.take k).length=k by rw [List.length_take];omega)
 have hx':=hid hx
 have lx':=hid lx
 have hz':=hid hz
 have h0':=hid h0
 have hsl:=fun(j:Nat) (hj:j+1≤c) W=>run_take2 (P:=Tryz.prog) (a:=a) (n:=j+1) (c:=c) (k:=j) Tryz.underlying34 size_u64n (Nat.le_succ j) hj W
 have hsl':=hid hsl
 clear hx lx hz h0 hcm hk0 hsl
 go_enter Tryz.func197,Tryz.ntmps197
 go_wp2
 go_loopw [0] (fun v0 wr=>∃j:Nat,k≤j∧j≤n∧v0 = .slice a j c∧wr=w) (fun v0 _=>lenV v0)
 case atStart=>exact⟨n,hkn,Nat.le_refl _,rfl,rfl⟩
 case round=>
  obtain ⟨j,hkj,hjn,rfl,rfl⟩:=hrel
  by_cases hj:j=k
  ·subst hj
   rcases Nat.eq_zero_or_pos j with hj0 | hj0
   ·subst hj0
    go_wp2
    go_ret
    have e:=hlim.out
    rw [List.take_zero] at e
    refine⟨none,0,?_,?_,?_,Nat.zero_le _,fun y h=>(by cases h),rfl⟩
    ·rw [←e];rfl
    ·rw [←e];exact SlR.nil _ _ _ _
    ·rw [←e];exact Nat.le_refl _
   ·obtain ⟨i,rfl⟩:∃i,j=i+1:=⟨j - 1,by omega⟩
    obtain ⟨b,o,rfl,hc,_⟩:=hx'.out.at64 (k:=i) (by rw [lx'.out];omega)
    have hy:nth xs i≠0:=h0'.out.resolve_left (by omega)
    generalize nth xs i=y at *
    have hyd:(y == 0)=false:=by simpa using hy
    have hil:(i:Int)<n:=by omega
    go_wp2
    go_ret
    refine⟨some ⟨b,o,none⟩,c,?_,?_,?_,hcm'.out,fun y h=>h,rfl⟩
    ·rw [←hlim.out,hlk.out];rfl
    ·rw [←hlim.out,hlk.out];exact hx'.out.cut64 hjn
    ·rw [←hlim.out,hlk.out];omega
  ·obtain ⟨i,rfl⟩:∃i,j=i+1:=⟨j - 1,by omega⟩
   obtain ⟨b,o,rfl,hc,_⟩:=hx'.out.at64 (k:=i) (by rw [lx'.out];omega)
   have hyz:=hz'.out i (by omega) (by have:=lx'.out;omega)
   rw [hyz] at hc
   have hil:(i:Int)<n:=by omega
   have hs:=hsl'.out i (by omega) wr
   clear hyz
   go_wp2
   go_roundw
   case rel=>exact⟨i,by omega,by omega,rfl,trivial⟩
   case measure=>simp [lenV]
theorem quiet_add_same {P:Program} {f:FuncId} {args:Array Value} {w:World} {a n:Nat} {v:Value}
  (h:Calls P f args (w.drewN (a+n)) fun e w'=>e = .returned v∧w'=w.drewN (a+n)) :
  Calls P f args (w.drewN (a+n)) fun e w''=>e = .returned v∧∃m,w''=w.drewN (a+m):=
 h.mono fun _ _ ⟨he,hm⟩=>⟨he,n,hm⟩
theorem valL_at {xs:List Int} {i:Nat} (h:i<xs.length):valL xs=valL (xs.take i)+W64 ^ i * ((nth xs i).toNat+W64 * valL (xs.drop (i+1))):=by
 rw [valL_split xs i (by omega),valL_drop h]
theorem lt_at {xs ys:List Int} {i:Nat} (hx:okUs64 xs) (hl:xs.length=ys.length) (hi:i<xs.length) (he:∀j,i<j→j<xs.length→nth xs j=nth ys j) (hlt:nth xs i<nth ys i):valL xs<valL ys:=by
 have hd:xs.drop (i+1)=ys.drop (i+1):=by
  refine ext_nth (by rw [List.length_drop,List.length_drop,hl]) fun j hj=>?_
  rw [List.length_drop] at hj
  have:=he (i+1+j) (by omega) (by omega)
  rw [nth_eq (xs:=xs) (j:=i+1+j) (by omega),nth_eq (xs:=ys) (j:=i+1+j) (by omega)] at this
  rw [nth_eq (by rw [List.length_drop];omega),nth_eq (by rw [List.length_drop];omega),List.getElem_drop,List.getElem_drop]
  exact this
 rw [valL_at hi,valL_at (xs:=ys) (i:=i) (by omega),hd]
 have h1:=valL_lt (hx.take i)
 rw [List.length_take,Nat.min_eq_left (by omega)] at h1
 have h2:(nth xs i).toNat<(nth ys i).toNat:=by
  have:=(hx.nth hi).1
  omega
 generalize W64 * valL (ys.drop (i+1))=D at *
 have h3:W64 ^ i * ((nth xs i).toNat+D+1)≤W64 ^ i * ((nth ys i).toNat+D):=Nat.mul_le_mul_left _ (by omega)
 rw [Nat.mul_add (W64 ^ i) ((nth xs i).toNat+D) 1,Nat.mul_one] at h3
 omega
theorem limbs_lt_len {x y:Nat} (h:(limbs x).length<(limbs y).length):x<y:=by
 have:=valL_lt_of_length (limbs_ok x) (limbs_ok y) (trimmed_limbs y) h
 rwa [valL_limbs,valL_limbs] at this
theorem cmpN_lt {x y:Nat} (h:x<y):cmpN x y = -1:=by unfold cmpN;rw [if_pos h]
theorem cmpN_gt {x y:Nat} (h:y<x):cmpN x y=1:=by unfold cmpN;rw [if_neg (by omega),if_neg (by omega)]
theorem cmpN_self (x:Nat):cmpN x x=0:=by unfold cmpN;rw [if_neg (by omega),if_pos rfl]
theorem isNaN64_any (x:Int) (w:World):Calls Tryz.prog 196 #[.int .u64 x] w fun e w'=>e = .returned (.bool false)∧w'=w:=by
 have h1:(x != x)=false:=by simp
 go_enter Tryz.func196,Tryz.ntmps196
 go_wp2
 go_ret
 exact⟨rfl,rfl⟩
theorem compare64_any (x y:Int) (w:World):Calls Tryz.prog 169 #[.int .u64 x,.int .u64 y] w fun e w'=>e = .returned (.int .i64 (compareInt x y))∧w'=w:=by
 have h1:=hid (isNaN64_any x w)
 have h2:=hid (isNaN64_any y w)
 have hd:=@hid (compareInt x y=if x<y then -1 else if x > y then 1 else 0) rfl
 by_cases ha:x<y
 ·have hv:=hid (show compareInt x y = -1 from by rw [hd.out,if_pos ha])
  clear hd
  go_enter Tryz.func169,Tryz.ntmps169
  go_wp2_with fail
  refine h1.out.mono ?_;rintro e w' ⟨rfl,rfl⟩
  go_wp2_with fail
  refine h2.out.mono ?_;rintro e w' ⟨rfl,rfl⟩
  go_wp2
  go_ret
  exact⟨by rw [hv.out];rfl,rfl⟩
 ·by_cases hb:y<x
  ·have hv:=hid (show compareInt x y=1 from by rw [hd.out,if_neg ha,if_pos hb])
   clear hd
   go_enter Tryz.func169,Tryz.ntmps169
   go_wp2_with fail
   refine h1.out.mono ?_;rintro e w' ⟨rfl,rfl⟩
   go_wp2_with fail
   refine h2.out.mono ?_;rintro e w' ⟨rfl,rfl⟩
   go_wp2
   go_ret
   exact⟨by rw [hv.out];rfl,rfl⟩
  ·have hv:=hid (show compareInt x y=0 from by rw [hd.out,if_neg ha,if_neg hb])
   clear hd
   go_enter Tryz.func169,Tryz.ntmps169
   go_wp2_with fail
   refine h1.out.mono ?_;rintro e w' ⟨rfl,rfl⟩
   go_wp2_with fail
   refine h2.out.mono ?_;rintro e w' ⟨rfl,rfl⟩
   go_wp2
   go_ret
   exact⟨by rw [hv.out];rfl,rfl⟩
theorem natOrder_any {S S':Nat→Prop} (a b:Option Addr) (n m c d x y:Nat) (w:World) (hx:SlR Rep.u64 S w a n (limbs x)) (hy:SlR Rep.u64 S' w b m (limbs y)) (hn:n<17592186044416) (hm:m<17592186044416) :
  Calls Tryz.prog 129 #[.slice a n c,.slice b m d] w fun e w'=>e = .returned (.int .i64 (cmpN x y))∧∃q,w'=w.drewN q:=by
 have lx:=hx.1
 have ly:=hy.1
 by_cases hnm:n=m
 case neg=>
  have hcmp:=hid (Tryz.cmp_Compare_int n m w)
  have hv:=hid (show compareInt (n:Int) m=cmpN x y from by
   unfold compareInt
   by_cases hlt:n<m
   ·rw [if_pos (by omega),cmpN_lt (limbs_lt_len (by omega))]
   ·rw [if_neg (by omega),if_pos (by omega),cmpN_gt (limbs_lt_len (by omega))])
  have hne:¬((n:Int)=m):=by omega
  have hneb:((n:Int) != m)=true:=by simpa using hne
  clear hx hy lx ly hnm
  go_enter Tryz.func129,Tryz.ntmps129
  go_wp2_with fail
  refine hcmp.out.mono ?_;rintro e w' ⟨rfl,rfl⟩
  go_wp2
  go_ret
  exact⟨by rw [hv.out];rfl,0,rfl⟩
 subst hnm
 have hx':=hid hx
 have hy':=hid hy
 have hox:=hid (limbs_ok x)
 have hoy:=hid (limbs_ok y)
 have hvx:=hid (valL_limbs x)
 have hvy:=hid (valL_limbs y)
 have lx':=hid lx
 have ly':=hid ly
 generalize limbs x=xs at *
 generalize limbs y=ys at *
 clear hx hy lx ly
 go_enter Tryz.func129,Tryz.ntmps129
 go_wp2
 go_loopw [4,5] (fun v4 v5 wr=>∃j:Nat,j≤n∧v4 = .int .i64 0∧v5 = .int .i64 ((j:Int) - 1)∧Hid (∀k,j≤k→k<n→nth xs k=nth ys k)∧∃q,wr=w.drewN q) (fun _ v5 _=>(intOf v5+1).toNat)
 case atStart=>exact⟨n,Nat.le_refl _,rfl,rfl,fun k h1 h2=>absurd h1 (by omega),0,rfl⟩
 case round=>
  obtain ⟨j,hj,rfl,rfl,heq,q,rfl⟩:=hrel
  by_cases hj0:j=0
  ·subst hj0
   go_wp2
   go_ret
   have e:xs=ys:=ext_nth (by rw [lx'.out,ly'.out]) fun k hk=>heq.out k (Nat.zero_le _) (by have:=lx'.out;omega)
   exact⟨by rw [←hvx.out,←hvy.out,e,cmpN_self];rfl,q,rfl⟩
  ·obtain ⟨i,rfl⟩:∃i,j=i+1:=⟨j - 1,by omega⟩
   obtain ⟨b1,o1,rfl,k1,u1⟩:=hx'.out.at64 (k:=i) (by rw [lx'.out];omega)
   obtain ⟨b2,o2,rfl,k2,u2⟩:=hy'.out.at64 (k:=i) (by rw [ly'.out];omega)
   have hji:(((i+1:Nat):Int) - 1)=i:=by omega
   rw [hji]
   have hil:(i:Int)<n:=by omega
   have hi2:i<n:=by omega
   by_cases he:nth xs i=nth ys i
   ·have hb:(nth xs i != nth ys i)=false:=by rw [he];simp
    have heq2:=@hid (∀k,i≤k→k<n→nth xs k=nth ys k) (fun k h1 h2=>by
     by_cases hk:k=i
     ·rw [hk];exact he
     ·exact heq.out k (by omega) h2)
    clear he hji
    go_wp2
    go_quiet (fail)
    go_wp2
    go_roundw
    case rel=>exact⟨i,by omega,rfl,rfl,heq2.out,_,rfl⟩
    case measure=>first | (simp [intOf];done) | (simp [intOf];omega)
   ·have hb:(nth xs i != nth ys i)=true:=by simpa using he
    have hcv:=hid (show compareInt (nth xs i) (nth ys i)=cmpN x y from by
     have hje:∀k,i<k→k<xs.length→nth xs k=nth ys k:=fun k h1 h2=>heq.out k (by omega) (by have:=lx'.out;omega)
     unfold compareInt
     by_cases hlt:nth xs i<nth ys i
     ·rw [if_pos hlt,cmpN_lt]
      have:=lt_at hox.out (by rw [lx'.out,ly'.out]) (by rw [lx'.out];exact hi2) hje hlt
      rwa [hvx.out,hvy.out] at this
     ·have hgt:nth ys i<nth xs i:=by omega
      rw [if_neg hlt,if_pos hgt,cmpN_gt]
      have:=lt_at hoy.out (by rw [lx'.out,ly'.out]) (by rw [ly'.out];exact hi2) (fun k h1 h2=>(hje k h1 (by rw [lx'.out];rw [ly'.out] at h2;exact h2)).symm) hgt
      rwa [hvx.out,hvy.out] at this)
    clear he hji
    go_wp2
    go_quiet (fail)
    go_wp2
    go_quiet ((go_at_call 169;exact quiet_add_same (compare64_any _ _ _)))
    go_wp2
    go_ret
    exact⟨by rw [hcv.out];rfl,_,by rw [World.drewN_drewN,World.drewN_drewN]⟩
theorem half_first {u v y1 y0 Q:Nat} (hv:v<4294967296) (hQ:Q * (y1 * 4294967296+y0)≤u * 4294967296+v) (hy:0<y1):Q≤u / y1:=by
 rw [Nat.le_div_iff_mul_le hy]
 have h1:Q * (y1 * 4294967296+y0)=Q * y1 * 4294967296+Q * y0:=by rw [Nat.mul_add,Nat.mul_assoc]
 rw [h1] at hQ
 generalize Q * y1=P at *
 generalize Q * y0=R at *
 omega
theorem half_next {u v y1 y0 Q q rh y:Nat} (hy:y=y1 * 4294967296+y0) (hv:v<4294967296) (hQ:Q * y≤u * 4294967296+v) (hu:u<y) (hi:q * y1+rh=u) (hle:Q≤q) (hc:4294967296≤q∨4294967296 * rh+v<q * y0):0<q∧Q≤q - 1:=by
 rcases hc with hc | hc
 ·have:Q<4294967296:=by
   refine Nat.lt_of_not_le fun h=>?_
   have h1:4294967296 * y≤Q * y:=Nat.mul_le_mul_right _ h
   generalize Q * y=P at *
   omega
  omega
 ·have hne:Q≠q:=fun e=>by
   subst e
   have h1:Q * y=Q * y1 * 4294967296+Q * y0:=by rw [hy,Nat.mul_add,Nat.mul_assoc]
   rw [h1] at hQ
   generalize Q * y1=P at *
   generalize Q * y0=R at *
   omega
  omega
theorem half_stop {u v y1 y0 q rh:Nat} (hi:q * y1+rh=u) (h:q * y0≤4294967296 * rh+v):q * (y1 * 4294967296+y0)≤u * 4294967296+v:=by
 have h1:q * (y1 * 4294967296+y0)=q * y1 * 4294967296+q * y0:=by rw [Nat.mul_add,Nat.mul_assoc]
 rw [h1]
 generalize q * y1=P at *
 generalize q * y0=R at *
 omega
theorem half_over {u v y1 y0 q rh:Nat} (hi:q * y1+rh=u) (hr:4294967296≤rh) (hu:u<y1 * 4294967296+y0) (h0:y0<4294967296):q * (y1 * 4294967296+y0)≤u * 4294967296+v:=by
 have hq:q≤4294967296:=by
  refine Nat.le_of_not_lt fun h=>?_
  have h1:(4294967296+1) * y1≤q * y1:=Nat.mul_le_mul_right _ h
  generalize q * y1=P at *
  omega
 refine half_stop hi ?_
 have h1:q * y0≤4294967296 * y0:=Nat.mul_le_mul_right _ hq
 generalize q * y0=R at *
 omega
theorem half_end {N y q:Nat} (h1:N / y≤q) (h2:q * y≤N) (hy:0<y):q=N / y:=Nat.le_antisymm ((Nat.le_div_iff_mul_le hy).2 h2) h1
theorem half_two {M v y:Nat} (hy:0<y):(M * 4294967296+v) / y=M / y * 4294967296+(M % y * 4294967296+v) / y∧(M * 4294967296+v) % y=(M % y * 4294967296+v) % y:=by
 have h:=Nat.mod_add_div M y
 have e:M * 4294967296+v=(M % y * 4294967296+v)+y * (M / y * 4294967296):=by
  generalize hq:M / y=q at *
  generalize M % y=r at *
  rw [←h,Nat.add_mul,←Nat.mul_assoc]
  omega
 rw [e,Nat.add_mul_div_left _ _ hy,Nat.add_mul_mod_self_left]
 exact⟨by omega,rfl⟩
structure DivP (h l y s y2 yn1 yn0 un32 un10 un1 un0:Nat):Prop where
 y2e:y2=y * 2 ^ s
 y2l:y2<18446744073709551616
 yn:y2=yn1 * 4294967296+yn0
 y0l:yn0<4294967296
 y1p:2147483648≤yn1
 y1l:yn1<4294967296
 un:un32 * 18446744073709551616+un10=(h * 18446744073709551616+l) * 2 ^ s
 unl:un32<y2
 uv:un10=un1 * 4294967296+un0
 u1:un1<4294967296
 u0:un0<4294967296
 sl:s<64
 y0:0<y
theorem norm_s {y:Nat} (h0:0<y) (hy:y<18446744073709551616):∃s,s<64∧Go.Lib.bitLen y=64 - s∧9223372036854775808≤y * 2 ^ s∧y * 2 ^ s<18446744073709551616:=by
 obtain ⟨h1,h2,h3⟩:=bitLenAux_bounds 64 y (by simpa using hy) (by omega)
 have h4:bitLenAux 64 y=Go.Lib.bitLen y:=rfl
 rw [h4] at h1 h2 h3
 have h5:Go.Lib.bitLen y≤64:=bitLen_le y 64 (Nat.le_refl _) (by simpa using hy)
 refine⟨64 - Go.Lib.bitLen y,by omega,by omega,?_,?_⟩
 ·have:=Nat.mul_le_mul_right (2 ^ (64 - Go.Lib.bitLen y)) h2
  rw [←Nat.pow_add,show Go.Lib.bitLen y - 1+(64 - Go.Lib.bitLen y)=63 by omega] at this
  exact this
 ·have:=Nat.mul_lt_mul_of_pos_right h3 (Nat.two_pow_pos (64 - Go.Lib.bitLen y))
  rw [←Nat.pow_add,show Go.Lib.bitLen y+(64 - Go.Lib.bitLen y)=64 by omega] at this
  exact this
theorem divP {h l y s:Nat} (hh:h<y) (hl:l<18446744073709551616) (hs:s<64) (h1:9223372036854775808≤y * 2 ^ s) (h2:y * 2 ^ s<18446744073709551616) :
  DivP h l y s (y * 2 ^ s) (y * 2 ^ s / 4294967296) (y * 2 ^ s % 4294967296) (h * 2 ^ s+l / 2 ^ (64 - s)) (l * 2 ^ s % 18446744073709551616) (l * 2 ^ s % 18446744073709551616 / 4294967296) (l * 2 ^ s % 18446744073709551616 % 4294967296):=by
 have hu:=up_parts (x:=l) (k:=s) hl hs
 have hW:W64=18446744073709551616:=rfl
 rw [hW] at hu
 have h3:(h+1) * 2 ^ s≤y * 2 ^ s:=Nat.mul_le_mul_right _ hh
 rw [Nat.add_mul,Nat.one_mul] at h3
 refine⟨rfl,h2,?_,Nat.mod_lt _ (by decide),?_,?_,?_,?_,?_,?_,Nat.mod_lt _ (by decide),hs,by omega⟩
 ·have:=Nat.mod_add_div (y * 2 ^ s) 4294967296;omega
 ·omega
 ·omega
 ·rw [Nat.add_mul (h * 18446744073709551616) l,Nat.mul_right_comm h 18446744073709551616]
  generalize l * 2 ^ s=X at *
  generalize h * 2 ^ s=Y at *
  omega
 ·omega
 ·have:=Nat.mod_add_div (l * 2 ^ s % 18446744073709551616) 4294967296;omega
 ·have:=Nat.mod_lt (l * 2 ^ s) (show 0<18446744073709551616 by decide);omega
section
variable {h l y s y2 yn1 yn0 un32 un10 un1 un0 : Nat}
theorem DivP.all (P:DivP h l y s y2 yn1 yn0 un32 un10 un1 un0) :
  (un32 * 4294967296+un1) / y2 * 4294967296+((un32 * 4294967296+un1) % y2 * 4294967296+un0) / y2=(h * 18446744073709551616+l) / y ∧
  ((un32 * 4294967296+un1) % y2 * 4294967296+un0) % y2=(h * 18446744073709551616+l) % y * 2 ^ s:=by
 have hy2:0<y2:=by have:=P.y1p;have:=P.yn;omega
 obtain ⟨e1,e2⟩:=half_two (M:=un32 * 4294967296+un1) (v:=un0) hy2
 have e3:(un32 * 4294967296+un1) * 4294967296+un0=(h * 18446744073709551616+l) * 2 ^ s:=by rw [←P.un,P.uv];omega
 rw [e3,P.y2e] at e1 e2
 rw [Nat.mul_div_mul_right _ _ (Nat.two_pow_pos s)] at e1
 rw [Nat.mul_mod_mul_right] at e2
 rw [P.y2e]
 exact⟨e1.symm,e2.symm⟩
end
end Go.Proofs.YtgoojkiccdjplaaGreatDoor
