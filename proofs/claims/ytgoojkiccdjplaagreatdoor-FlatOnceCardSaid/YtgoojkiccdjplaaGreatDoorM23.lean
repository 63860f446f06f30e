/-
  Parts of this claim's texts, one behind the other: CE CF. No condition.
-/
import Derived.Test.YtgoojkiccdjplaaGreatDoorM19
import Derived.Test.YtgoojkiccdjplaaGreatDoorM22
set_option linter.unusedVariables false
set_option linter.unusedSimpArgs false
set_option maxRecDepth 100000
set_option maxHeartbeats 16000000
namespace Go.Proofs.YtgoojkiccdjplaaGreatDoor
open Go.RowKit Go.Sort Go.Lib
theorem rsameInts_any (a b:Option Addr) (n m c d:Nat) (xs ys:List Int) (w:World) (hx:RdI w a n xs) (hy:RdI w b m ys) (hn:n<17592186044416) (hm:m<17592186044416) :
  Calls Tryz.prog 118 #[.slice a n c,.slice b m d] w fun e w'=>e = .returned (.bool (decide (xs=ys)))∧∃q,w'=w.drewN q:=by
 have lx:=hx.len
 have ly:=hy.len
 by_cases hnm:n=m
 case neg=>
  have hv:=hid (show false=decide (xs=ys) from(decide_eq_false fun e=>hnm (by rw [←lx,←ly,e])).symm)
  have hne:¬((n:Int)=m):=by omega
  have hneb:((n:Int) != m)=true:=by simpa using hne
  clear hx hy lx ly
  go_enter Tryz.func118,Tryz.ntmps118
  go_wp2
  go_ret
  exact⟨ret_bool hv.out,0,rfl⟩
 subst hnm
 have hx':=hid hx
 have hy':=hid hy
 have lx':=hid lx
 have ly':=hid ly
 clear hx hy lx ly
 go_enter Tryz.func118,Tryz.ntmps118
 go_wp2
 go_loopw [4,5] (fun v4 v wr=>∃k:Nat,k≤n∧v4 = .bool false∧v = .int .i64 k∧Hid (xs.take k=ys.take k)∧∃q,wr=w.drewN q) (fun _ v _=>n - (intOf v).toNat)
 case atStart=>exact⟨0,Nat.zero_le _,rfl,rfl,rfl,0,rfl⟩
 case round=>
  obtain ⟨k,hk,rfl,rfl,heq,q,rfl⟩:=hrel
  by_cases hkn:k<n
  case pos=>
   obtain ⟨b1,o1,rfl,k1⟩:=hx'.out.at k hkn
   obtain ⟨b2,o2,rfl,k2⟩:=hy'.out.at k hkn
   have hsucc:=hid (take_eq_succ (xs:=xs) (ys:=ys) (k:=k) (by rw [lx'.out];omega) (by rw [ly'.out];omega))
   have hki:(k:Int)<n:=by omega
   by_cases he:nth xs k=nth ys k
   ·have h2:=hid (hsucc.out.2 ⟨heq.out,he⟩)
    rw [←he] at k2
    clear he
    generalize nth xs k=z at *
    go_wp2
    go_quiet (fail)
    go_wp2
    go_roundw
    case rel=>exact⟨k+1,by omega,rfl,by go_num,h2.out,_,rfl⟩
    case measure=>first | (simp [intOf];done) | (simp [intOf];omega)
   ·have hv:=hid (show false=decide (xs=ys) from(decide_eq_false fun e=>he (by rw [e])).symm)
    have hb:(nth xs k != nth ys k)=true:=by simpa using he
    clear he hsucc
    generalize nth xs k=z at *
    generalize nth ys k=z' at *
    go_wp2
    go_quiet (fail)
    go_wp2
    go_ret
    exact⟨ret_bool hv.out,_,by first | rfl | (rw [World.drewN_drewN])⟩
  case neg=>
   have hv:=hid (show true=decide (xs=ys) from(decide_eq_true (by
    have:=heq.out
    rwa [List.take_of_length_le (by rw [lx'.out];omega),List.take_of_length_le (by rw [ly'.out];omega)] at this)).symm)
   go_wp2
   go_ret
   exact⟨ret_bool hv.out,_,by first | rfl | (rw [World.drewN_drewN])⟩
def RRd (r:Nat) (M:List NodeD) (w:World):Prop:=∃pq aL cL f,w.heap[r]? = some (.cells #[pq,.slice aL M.length cL,f] 51 (0,0))∧SlR repN (fun _=>True) w aL M.length M
theorem RRd.all {r:Nat} {M:List NodeD} {w w':World} (h:RRd r M w) (hb:Below w.heap.size w w'):RRd r M w':=by
 obtain ⟨pq,aL,cL,f,h1,h2⟩:=h
 exact⟨pq,aL,cL,f,(hb.block r (Array.getElem?_eq_some_iff.1 h1).1).trans h1,h2.below hb (Nat.le_refl _)⟩
theorem allD_iff {T:TermD} {xs:List Int} {s:Int}:allD T xs s=decide (∀x∈xs,(nodeAt T x).sort=s):=by
 unfold allD
 by_cases h:∀x∈xs,(nodeAt T x).sort=s
 ·rw [decide_eq_true h,Bool.not_eq_true',List.any_eq_false]
  intro x hx
  simp [h x hx]
 ·rw [decide_eq_false h,Bool.not_eq_false',List.any_eq_true]
  have:∃x,x∈xs∧(nodeAt T x).sort≠s:=by
   apply Classical.byContradiction
   intro hn
   exact h fun x hx=>Classical.byContradiction fun he=>hn ⟨x,hx,he⟩
  obtain ⟨x,hx,he⟩:=this
  exact⟨x,hx,by simpa using he⟩
theorem rall_any (r:Nat) (T:TermD) (a:Option Addr) (n c:Nat) (xs:List Int) (s:Int) (w:World) (h:RRd r T.nodes w) (hx:RdI w a n xs) (hn:n<1099511627776) (hi:InT T xs) :
  Calls Tryz.prog 164 #[.pointer (some ⟨r,0,none⟩),.slice a n c,.int .i64 s] w fun e w'=>e = .returned (.bool (allD T xs s))∧∃q,w'=w.drewN q:=by
 obtain ⟨pq,aL,cL,f,h1,h2⟩:=h
 have k1:w.cell? ⟨r,1,none⟩=some (.slice aL T.nodes.length cL):=cell_p h1 1
 have hd:=hid (allD_iff (T:=T) (xs:=xs) (s:=s))
 have hx':=hid hx
 have lx':=hid hx.len
 have h2':=hid h2
 have hi':=hid hi
 clear hx hi h1 h2
 go_enter Tryz.func164,Tryz.ntmps164
 go_wp2
 go_loopw [6,7] (fun v6 v wr=>∃k:Nat,k≤n∧v6 = .bool false∧v = .int .i64 k∧Hid (∀j,j<k→(nodeAt T (nth xs j)).sort=s)∧∃q,wr=w.drewN q) (fun _ v _=>n - (intOf v).toNat)
 case atStart=>exact⟨0,Nat.zero_le _,rfl,rfl,fun j hj=>absurd hj (by omega),0,rfl⟩
 case round=>
  obtain ⟨k,hk,rfl,rfl,heq,q,rfl⟩:=hrel
  by_cases hkn:k<n
  case pos=>
   obtain ⟨b1,o1,rfl,k2⟩:=hx'.out.at k hkn
   obtain ⟨g0,g1⟩:=hi'.out (nth xs k) (nth_mem (by rw [lx'.out];omega))
   obtain ⟨j,hj⟩:=Int.eq_ofNat_of_zero_le g0
   have hjn:j<T.nodes.length:=by omega
   obtain ⟨b,o,a',c',b',d,g,e,rfl,_,hcs⟩:=h2'.out.nodeAt (nodeAt_nat hjn)
   have q6:=hcs 6 _ rfl
   rw [hj] at k2
   have hki:(k:Int)<n:=by omega
   have hji:(j:Int)<T.nodes.length:=by omega
   have heq2:=hid (fun(h:(nodeAt T j).sort=s)=>show ∀i,i<k+1→(nodeAt T (nth xs i)).sort=s from fun i hi=>by
    by_cases e:i=k
    ·rw [e,hj];exact h
    ·exact heq.out i (by omega))
   have hbad:=hid (fun(h:(nodeAt T j).sort≠s)=>show false=allD T xs s from by
    rw [hd.out]
    exact(decide_eq_false fun ha=>h (by rw [←hj];exact ha _ (nth_mem (by rw [lx'.out];omega)))).symm)
   clear hcs g0 g1 hj
   generalize (nodeAt T j).sort=z at *
   by_cases he:z=s
   ·have h3:=hid (heq2.out he)
    have hb:(z != s)=false:=by rw [he];simp
    clear heq2 hbad he
    go_wp2
    go_quiet (fail)
    go_wp2
    go_roundw
    case rel=>exact⟨k+1,by omega,rfl,by go_num,h3.out,_,rfl⟩
    case measure=>first | (simp [intOf];done) | (simp [intOf];omega)
   ·have hv:=hid (hbad.out he)
    have hb:(z != s)=true:=by simpa using he
    clear heq2 hbad he
    go_wp2
    go_quiet (fail)
    go_wp2
    go_ret
    exact⟨ret_bool hv.out,_,by first | rfl | (rw [World.drewN_drewN])⟩
  case neg=>
   have hv:=hid (show true=allD T xs s from by
    rw [hd.out]
    refine(decide_eq_true fun x hx=>?_).symm
    obtain ⟨i,hi,rfl⟩:=List.getElem_of_mem hx
    have:=heq.out i (by have:=lx'.out;omega)
    rwa [nth_eq hi] at this)
   go_wp2
   go_ret
   exact⟨ret_bool hv.out,_,by first | rfl | (rw [World.drewN_drewN])⟩
structure NumInv (T:TermD):Prop where
 nums:∀(k:Nat) (x:NodeD),T.nodes[k]? = some x→numAt T k=numberD T x
 div:∀x∈T.nodes,x.op=16→1≤x.args.length
 num:∀x∈T.nodes,x.op=11→x.args = []
theorem NumInv.first {T:TermD} (h:NumInv T) (ho:OrdT T) {k:Nat} {x:NodeD} (hx:T.nodes[k]? = some x) (hk:(numAt T k).1=true) (h11:x.op≠11) :
  ∃j:Nat,nth x.args 0=(j:Int)∧j<k∧0<x.args.length∧(numAt T j).1=true∧(numAt T k).2=(numAt T j).2:=by
 have e:=h.nums k x hx
 rw [e] at hk
 unfold numberD at hk e
 rw [if_neg h11] at hk e
 by_cases h14:x.op=14∨x.op=16
 ·rw [if_pos h14] at hk e
  by_cases hall:numAll T x.args=true
  ·rw [if_pos hall] at hk e
   by_cases hb:x.op=16∨x.args.length=1
   ·rw [if_pos hb] at hk e
    have hl:0<x.args.length:=by
     rcases hb with hb | hb
     ·exact h.div x (List.mem_of_getElem? hx) hb
     ·omega
    obtain ⟨g0,g1⟩:=ho k x hx (nth x.args 0) (nth_mem hl)
    obtain ⟨j,hj⟩:=Int.eq_ofNat_of_zero_le g0
    refine⟨j,hj,by omega,hl,by rw [←hj];exact hk,by rw [e,hj]⟩
   ·rw [if_neg hb] at hk;cases hk
  ·rw [if_neg hall] at hk;cases hk
 ·rw [if_neg h14] at hk;cases hk
def numOp (x:NodeD):Bool:=(x.op == 11) || ((x.op == 16) || ((x.op == 14) && decide (x.args.length=1)))
theorem NumInv.is {T:TermD} (h:NumInv T) {k:Nat} {x:NodeD} (hx:T.nodes[k]? = some x):(numAt T k).1=(numOp x && numAll T x.args):=by
 rw [h.nums k x hx]
 unfold numberD numOp
 have hm:=List.mem_of_getElem? hx
 by_cases h11:x.op=11
 ·rw [if_pos h11,h11,h.num x hm h11];rfl
 ·rw [if_neg h11]
  have e11:(x.op == 11)=false:=by simpa using h11
  rw [e11]
  by_cases h16:x.op=16
  ·rw [if_pos (.inr h16),h16]
   have hl:=h.div x hm h16
   by_cases hall:numAll T x.args=true
   ·rw [if_pos hall,hall,if_pos (.inl rfl)]
    unfold numAll at hall
    have:=List.all_eq_true.1 hall (nth x.args 0) (nth_mem hl)
    rw [this];rfl
   ·rw [if_neg hall]
    simp only [Bool.not_eq_true] at hall
    rw [hall];rfl
  ·have e16:(x.op == 16)=false:=by simpa using h16
   rw [e16]
   by_cases h14:x.op=14
   ·rw [if_pos (.inl h14),h14]
    by_cases hall:numAll T x.args=true
    ·rw [if_pos hall,hall]
     by_cases hl:x.args.length=1
     ·rw [if_pos (.inr hl),decide_eq_true hl]
      unfold numAll at hall
      have:=List.all_eq_true.1 hall (nth x.args 0) (nth_mem (by omega))
      rw [this];rfl
     ·have hn:¬((14:Int)=16∨x.args.length=1):=by
       rintro (hh | hh)
       ·revert hh;decide
       ·exact hl hh
      rw [if_neg hn,decide_eq_false hl];rfl
    ·rw [if_neg hall]
     simp only [Bool.not_eq_true] at hall
     rw [hall,Bool.and_false]
   ·have e14:(x.op == 14)=false:=by simpa using h14
    rw [if_neg (fun hh=>hh.elim h14 h16),e14];rfl
theorem NumInv.zero {T:TermD} (h:NumInv T) {k:Nat} {x:NodeD} (hx:T.nodes[k]? = some x) (h11:x.op=11):(numAt T k).2=decide (x.val.num.length=0):=by
 rw [h.nums k x hx]
 unfold numberD
 rw [if_pos h11]
theorem len_beq (n:Nat):((n:Int) == 0)=decide (n=0):=by
 by_cases h:n=0
 ·rw [h];rfl
 ·rw [decide_eq_false h]
  simp
  exact h
theorem rzero_any (r : Nat) (T : TermD) (hN : NumInv T) (ho : OrdT T) : ∀ (k : Nat) (w : World), RRd r T.nodes w → k < T.nodes.length → (numAt T k).1 = true →
    Calls Tryz.prog 166 #[.pointer (some ⟨r, 0, none⟩), .int .i64 k] w fun e w' => e = .returned (.bool (numAt T k).2) ∧ Below w.heap.size w w' := by
  intro k
  induction k using Nat.strongRecOn with
  | _ k ih =>
    intro w h hk hn1
    have hx := nodeAt_nat hk
    have h' := hid h
    obtain ⟨pq, aL, cL, f, h1, h2⟩ := h
    have k1 : w.cell? ⟨r, 1, none⟩ = some (.slice aL T.nodes.length cL) := cell_p h1 1
    obtain ⟨b, o, a', c', b', d, g, e, rfl, hn, hcs⟩ := h2.nodeAt hx
    have q0 := hcs 0 _ rfl
    rw [Nat.add_zero] at q0
    have q1 := hcs 1 _ rfl
    have q2 := hcs 2 _ rfl
    have q3 := hcs 3 _ rfl
    have q4 := hcs 4 _ rfl
    have q5 := hcs 5 _ rfl
    have q6 := hcs 6 _ rfl
    have hki : (k : Int) < T.nodes.length := by omega
    have hzz := hid (fun h => hN.zero hx h)
    have hff := hid (fun h => hN.first ho hx hn1 h)
    have hra := hid hn.args.toI
    have ih' := hid ih
    clear hn hcs h1 h2 hx hn1 ih
    generalize nodeAt T k = nd at *
    obtain ⟨op, nm, ⟨ng, nu, de⟩, args, so⟩ := nd
    dsimp only at *
    have BA := hid ((Below.refl w.heap.size w).alloc (Nat.le_refl _) (.cells #[.int .i64 op, .string nm, .bool ng, .slice a' nu.length c', .slice b' de.length d, .slice g args.length e, .int .i64 so] 38))
    by_cases h11 : op = 11
    · have hv := hid (hzz.out h11)
      subst h11
      clear hzz hff
      go_enter Tryz.func166, Tryz.ntmps166
      go_wp2
      go_ret
      exact ⟨ret_bool (by rw [hv.out]; exact len_beq _), BA.out⟩
    · obtain ⟨j, hj, hjk, hl, hj1, hj2⟩ := hff.out h11
      obtain ⟨b2, o2, rfl, k2⟩ := (hra.out.below BA.out (Nat.le_refl _)).at 0 hl
      rw [Nat.add_zero, hj] at k2
      have hrec := hid (ih'.out j hjk (w.alloc (.cells #[.int .i64 op, .string nm, .bool ng, .slice a' nu.length c', .slice b' de.length d, .slice (some ⟨b2, o2, none⟩) args.length e, .int .i64 so] 38)) (h'.out.all BA.out) (by omega) hj1)
      rw [← hj2] at hrec
      have h11d : decide (op = 11) = false := by simpa using h11
      have hl2 : (0 : Int) < args.length := by omega
      clear hzz hff hj1 hj2
      go_enter Tryz.func166, Tryz.ntmps166
      go_wp2_with fail
      refine hrec.out.mono ?_; rintro e1 w2 ⟨rfl, hb2⟩
      have B2 := hid (BA.out.trans (hb2.mono BA.out.size))
      clear hb2 hrec
      go_wp2
      go_ret
      exact ⟨rfl, B2.out⟩
def OwnF (w:World) (base g N:Nat) (f:Nat→Bool):Prop:=base≤g∧∃cur:Array Value,w.heap[g]? = some (.cells cur 4 (0,0))∧cur.toList=(List.range N).map fun j=>.bool (f j)
section
variable {w w' : World} {base g N : Nat} {f : Nat → Bool}
theorem OwnF.lt (h:OwnF w base g N f):g<w.heap.size:=by obtain ⟨_,cur,hc,_⟩:=h;exact(Array.getElem?_eq_some_iff.1 hc).1
theorem OwnF.same (h:OwnF w base g N f) (hb:w'.heap[g]? = w.heap[g]?):OwnF w' base g N f:=by obtain ⟨h2,cur,hc,h4⟩:=h;exact⟨h2,cur,hb.trans hc,h4⟩
theorem OwnF.cell (h:OwnF w base g N f) {j:Nat} (hj:j<N):w.cell? ⟨g,j,none⟩=some (.bool (f j)):=by
 obtain ⟨h2,cur,hc,h4⟩:=h
 have h5:cur.toList[j]? = some (.bool (f j)):=by rw [h4,List.getElem?_map,List.getElem?_range hj];rfl
 simp only [World.cell?,hc,Option.isSome_none,Bool.false_eq_true,if_false]
 rw [←Array.getElem?_toList];exact h5
theorem OwnF.frz (h:OwnF w base g N f) (j:Nat):w.frozen? ⟨g,j,none⟩=false:=by obtain ⟨h2,cur,hc,h4⟩:=h;exact frz_p hc j
theorem OwnF.set (h:OwnF w base g N f) {j:Nat} (x:Bool):OwnF (w.setCell ⟨g,j,none⟩ (.bool x)) base g N (fun i=>if i=j then x else f i):=by
 obtain ⟨h2,cur,hc,h4⟩:=h
 refine⟨h2,cur.setIfInBounds j (.bool x),?_,?_⟩
 ·unfold World.setCell
  rw [Array.getElem?_modify,if_pos rfl,hc]
  rfl
 ·rw [Array.toList_setIfInBounds,h4]
  refine List.ext_getElem (by simp) fun i h1 h2=>?_
  rw [List.getElem_set]
  by_cases e:j=i
  ·rw [if_pos e];simp [e]
  ·rw [if_neg e];simp [Ne.symm e]
theorem OwnF.congr {f':Nat→Bool} (h:OwnF w base g N f) (hf:∀j,j<N→f j=f' j):OwnF w base g N f':=by
 obtain ⟨h2,cur,hc,h4⟩:=h
 refine⟨h2,cur,hc,h4.trans (List.map_congr_left fun j hj=>?_)⟩
 rw [hf j (List.mem_range.1 hj)]
end
theorem info_bool2:(Tryz.prog.info? 4).map (fun i=>(i.zero,i.size,i.bytes))=some (some (.bool false),1,1):=by kernel_rfl
theorem make_bools (n base:Nat) (w:World) (hn:n≤1099511627776) (hb:base≤w.heap.size) :
  ∃w',(Instr.makeSlice 72 (.int .i64 n) (.int .i64 n)).run Tryz.prog w = .ok (.slice (some ⟨w.heap.size,0,none⟩) n n) w'∧OwnF w' base w.heap.size n (fun _=>false)∧Below w.heap.size w w':=by
 obtain ⟨i0,hi,hz0,hz1,hz2⟩:=info_parts info_bool2
 obtain ⟨w',h1,h2,h3⟩:=run_make_full (P:=Tryz.prog) w base 72 4 i0 (.bool false) 1 Tryz.underlying72 hi hz0 hz1 .i64 .i64 n (by rw [hz2];omega) (by unfold maxLen;omega) hb
 refine⟨w',h1,⟨hb,?_⟩,⟨h3.os,h3.tape,h3.output,h3.size,fun k hk=>h3.block k hk (by simp)⟩⟩
 rcases h2.2 with ⟨hv,_⟩ | ⟨g,cap,cur,hv,_,hh,q1,q2,q3,q4⟩
 ·cases hv
 ·cases hv
  refine⟨cur,hh,?_⟩
  rw [Nat.mul_one] at q3 q4
  rw [show(Value.bool false).cells = #[.bool false] from rfl,toList_madeCells_one] at q4
  rw [List.map_const',List.length_range,←q4,List.take_of_length_le (by rw [Array.length_toList];omega)]
theorem numAll_take {T:TermD} {l:List Int} {i:Nat} (h:i<l.length):numAll T (l.take (i+1))=(numAll T (l.take i) && (numAt T (nth l i)).1):=by
 unfold numAll
 rw [List.take_succ_eq_append_getElem h,List.all_append,nth_eq h]
 simp
theorem rnumber_any (r:Nat) (T:TermD) (hN:NumInv T) (ho:OrdT T) (hle:T.nodes.length≤16384) (hsn:SmN T) (id:Nat) (w:World) (h:RRd r T.nodes w) (hid:id<T.nodes.length) :
  Calls Tryz.prog 165 #[.pointer (some ⟨r,0,none⟩),.int .i64 id] w fun e w'=>e = .returned (.bool (numAt T id).1)∧Below w.heap.size w w':=by
 obtain ⟨w1,hmk,o1,b1⟩:=make_bools (id+1) w.heap.size w (by omega) (Nat.le_refl _)
 rw [show((id+1:Nat):Int)=(id:Int)+1 by simp] at hmk
 have h':=Lib.hid h
 have O1:=Lib.hid o1
 have B1:=Lib.hid b1
 have hN':=Lib.hid hN
 have ho':=Lib.hid ho
 have hsn':=Lib.hid hsn
 clear h o1 b1 hN ho hsn
 go_enter Tryz.func165,Tryz.ntmps165
 go_wp2
 go_loopw [6,7,8] (fun vk _ _ wr=>∃k:Nat,k≤id+1∧vk = .int .i64 k∧Hid (OwnF wr w.heap.size w.heap.size (id+1) (fun j=>decide (j<k) && (numAt T j).1))∧Hid (Below w.heap.size w wr)) (fun vk _ _ _=>id+1 - (intOf vk).toNat)
 case atStart=>exact⟨0,by omega,rfl,O1.out.congr fun j _=>(by simp),B1.out⟩
 case round=>
  obtain ⟨wo,hwo⟩:∃wo,wo=wr:=⟨_,rfl⟩
  subst hwo
  obtain ⟨k,hk,rfl,hO,hB⟩:=hrel
  by_cases hki:k≤id
  case neg=>
   obtain rfl:k=id+1:=by omega
   have y0:=hO.out.cell (j:=id) (by omega)
   have hdi:decide (id<id+1)=true:=by simp
   rw [hdi,Bool.true_and] at y0
   have hii:¬(((id+1:Nat):Int)≤id):=by omega
   have hi2:(id:Int)<id+1:=by omega
   obtain ⟨z,hz⟩:∃z,z=(numAt T id).1:=⟨_,rfl⟩
   rw [←hz] at y0
   have hz':=Lib.hid hz
   clear hz
   go_wp2
   go_ret
   exact⟨by rw [←hz'.out];rfl,hB.out⟩
  case pos=>
   have hkn:k<T.nodes.length:=by omega
   have hx:=nodeAt_nat hkn
   obtain ⟨pq,aL,cL,f,h1,h2⟩:=h'.out
   have k1:wo.cell? ⟨r,1,none⟩=some (.slice aL T.nodes.length cL):=keep_cell hB.out (cell_p h1 1)
   obtain ⟨b,o,a',c',b',d,g,e,rfl,hn,hcs⟩:=h2.nodeAt hx
   have q0:=keep_cell hB.out (hcs 0 _ rfl)
   rw [Nat.add_zero] at q0
   have q1:=keep_cell hB.out (hcs 1 _ rfl)
   have q2:=keep_cell hB.out (hcs 2 _ rfl)
   have q3:=keep_cell hB.out (hcs 3 _ rfl)
   have q4:=keep_cell hB.out (hcs 4 _ rfl)
   have q5:=keep_cell hB.out (hcs 5 _ rfl)
   have q6:=keep_cell hB.out (hcs 6 _ rfl)
   have hkL:(k:Int)<T.nodes.length:=by omega
   have hkI:(k:Int)≤id:=by omega
   have hkI1:(k:Int)<id+1:=by omega
   have hra:=Lib.hid hn.args.toI
   have hargs:=Lib.hid (ho'.out k _ hx)
   have hal:=(hsn'.out _ (List.mem_of_getElem? hx)).2.2
   have his:=Lib.hid (hN'.out.is hx)
   have hnop:=Lib.hid (show numOp (nodeAt T k)=(((nodeAt T k).op == 11) || (((nodeAt T k).op == 16) || (((nodeAt T k).op == 14) && decide ((nodeAt T k).args.length=1)))) from rfl)
   clear hn hcs h1 h2 hx
   generalize numOp (nodeAt T k)=nop at *
   generalize nodeAt T k=nd at *
   obtain ⟨op,nm,⟨ng,nu,de⟩,args,so⟩:=nd
   dsimp only at *
   have hgs:=hO.out.lt
   have XA:=heap_alloc_new wo (.cells #[.int .i64 op,.string nm,.bool ng,.slice a' nu.length c',.slice b' de.length d,.slice g args.length e,.int .i64 so] 38)
   have BA:=hB.out.alloc hB.out.size (.cells #[.int .i64 op,.string nm,.bool ng,.slice a' nu.length c',.slice b' de.length d,.slice g args.length e,.int .i64 so] 38)
   have OA:=hO.out.same (Below.heap_alloc wo (.cells #[.int .i64 op,.string nm,.bool ng,.slice a' nu.length c',.slice b' de.length d,.slice g args.length e,.int .i64 so] 38) w.heap.size hgs)
   have y0:=OA.cell (j:=k) (by omega)
   have f0:=OA.frz k
   have XA':=Lib.hid XA
   have hcm:=fun v=>World.setCell_alloc_past (w:=wo) (.cells #[.int .i64 op,.string nm,.bool ng,.slice a' nu.length c',.slice b' de.length d,.slice g args.length e,.int .i64 so] 38) w.heap.size k v hgs
   have BS:=fun v=>Lib.hid (show Below w.heap.size w ((wo.setCell ⟨w.heap.size,k,none⟩ v).alloc (.cells #[.int .i64 op,.string nm,.bool ng,.slice a' nu.length c',.slice b' de.length d,.slice g args.length e,.int .i64 so] 38)) from by rw [←hcm];exact BA.setCell (p:=⟨w.heap.size,k,none⟩) (Nat.le_refl _) v)
   have XS:=fun v=>Lib.hid (show((wo.setCell ⟨w.heap.size,k,none⟩ v).alloc (.cells #[.int .i64 op,.string nm,.bool ng,.slice a' nu.length c',.slice b' de.length d,.slice g args.length e,.int .i64 so] 38)).heap[wo.heap.size]? = some (.cells #[.int .i64 op,.string nm,.bool ng,.slice a' nu.length c',.slice b' de.length d,.slice g args.length e,.int .i64 so] 38 (0,0)) from by
    rw [←hcm,Below.heap_setCell _ _ _ _ (by simp;omega)];exact XA'.out)
   have OS:=fun v=>Lib.hid (show OwnF ((wo.setCell ⟨w.heap.size,k,none⟩ (.bool v)).alloc (.cells #[.int .i64 op,.string nm,.bool ng,.slice a' nu.length c',.slice b' de.length d,.slice g args.length e,.int .i64 so] 38)) w.heap.size w.heap.size (id+1) _ from by rw [←hcm];exact OA.set (j:=k) v)
   clear XA BA OA hcm
   by_cases h11:op=11
   case pos=>
    subst h11
    have hb:=Lib.hid (show nop=true from by rw [hnop.out];rfl)
    have OB:=Lib.hid ((OS (true)).out.congr (f':=fun j=>if j=k then nop && numAll T (args.take 0) else(decide (j<k) && (numAt T j).1)) fun j _=>by
     by_cases e:j=k
     ·rw [if_pos e,if_pos e,hb.out];simp [numAll]
     ·rw [if_neg e,if_neg e])
    have BB:=BS (.bool (true))
    have XB:=XS (.bool (true))
    clear OS BS XS hb
    go_wp2
    generalize (wo.setCell ⟨w.heap.size,k,none⟩ (.bool (true))).alloc (.cells #[.int .i64 11,.string nm,.bool ng,.slice a' nu.length c',.slice b' de.length d,.slice g args.length e,.int .i64 so] 38)=w5 at *
    go_loopw [8] (fun vi wr=>∃i:Nat,i≤args.length∧vi = .int .i64 i∧Hid (OwnF wr w.heap.size w.heap.size (id+1) (fun j=>if j=k then nop && numAll T (args.take i) else(decide (j<k) && (numAt T j).1)))∧Hid (wr.heap[wo.heap.size]? = some (.cells #[.int .i64 11,.string nm,.bool ng,.slice a' nu.length c',.slice b' de.length d,.slice g args.length e,.int .i64 so] 38 (0,0)))∧Hid (Below w.heap.size w wr)) (fun vi _=>args.length - (intOf vi).toNat)
    case atStart=>exact⟨0,Nat.zero_le _,rfl,OB.out,XB.out,BB.out⟩
    case round=>
     obtain ⟨i,hi,rfl,hOi,hXi,hBi⟩:=hrel
     have r5:wr.cell? ⟨wo.heap.size,5,none⟩=some (.slice g args.length e):=cell_p hXi.out 5
     by_cases hil:i<args.length
     case neg=>
      obtain rfl:i=args.length:=by omega
      have O9:=Lib.hid (hOi.out.congr (f':=fun j=>decide (j<k+1) && (numAt T j).1) fun j _=>by
       by_cases e:j=k
       ·rw [if_pos e,List.take_of_length_le (Nat.le_refl _),e,his.out];simp
       ·rw [if_neg e]
        by_cases h:j<k
        ·rw [decide_eq_true h,decide_eq_true (by omega)]
        ·rw [decide_eq_false h,decide_eq_false (by omega)])
      go_wp2
      go_roundw
      case rel=>exact⟨k+1,by omega,by go_num,O9.out,hBi.out⟩
      case measure=>first | (simp [intOf];done) | (simp [intOf];omega)
     case pos=>
      have hii:(i:Int)<args.length:=by omega
      have hta:=Lib.hid (numAll_take (T:=T) hil)
      obtain ⟨g0,g1⟩:=hargs.out (nth args i) (nth_mem hil)
      obtain ⟨j,hj⟩:=Int.eq_ofNat_of_zero_le g0
      have hjk:j<k:=by omega
      have hjI:(j:Int)<id+1:=by omega
      obtain ⟨b2,o2,rfl,k2⟩:=(hra.out.below hBi.out (Nat.le_refl _)).at i hil
      rw [hj] at k2 hta
      have y1:=hOi.out.cell (j:=k) (by omega)
      rw [if_pos rfl] at y1
      have y2:=hOi.out.cell (j:=j) (by omega)
      rw [if_neg (by omega),decide_eq_true hjk,Bool.true_and] at y2
      have f1:=hOi.out.frz k
      have BN:=fun v=>Lib.hid (hBi.out.setCell (p:=⟨w.heap.size,k,none⟩) (Nat.le_refl _) v)
      have XN:=fun v=>Lib.hid (show(wr.setCell ⟨w.heap.size,k,none⟩ v).heap[wo.heap.size]? = _ from(Below.heap_setCell _ _ _ _ (by simp;omega)).trans hXi.out)
      have ON:=fun v=>Lib.hid (hOi.out.set (j:=k) v)
      clear g0 g1 hj
      generalize hpp:(nop && numAll T (args.take i))=pp at *
      cases pp
      case false=>
       have O7:=Lib.hid ((ON false).out.congr (f':=fun j=>if j=k then nop && numAll T (args.take (i+1)) else(decide (j<k) && (numAt T j).1)) fun j' _=>by
        by_cases e:j'=k
        ·rw [if_pos e,if_pos e,hta.out,←Bool.and_assoc,hpp];rfl
        ·rw [if_neg e,if_neg e,if_neg e])
       have B7:=BN (.bool false)
       have X7:=XN (.bool false)
       clear ON BN XN hpp
       go_wp2
       go_roundw
       case rel=>exact⟨i+1,by omega,by go_num,O7.out,X7.out,B7.out⟩
       case measure=>first | (simp [intOf];done) | (simp [intOf];omega)
      case true=>
       have O7:=Lib.hid ((ON (numAt T j).1).out.congr (f':=fun j=>if j=k then nop && numAll T (args.take (i+1)) else(decide (j<k) && (numAt T j).1)) fun j' _=>by
        by_cases e:j'=k
        ·rw [if_pos e,if_pos e,hta.out,←Bool.and_assoc,hpp];rfl
        ·rw [if_neg e,if_neg e,if_neg e])
       have B7:=BN (.bool (numAt T j).1)
       have X7:=XN (.bool (numAt T j).1)
       clear ON BN XN hpp
       generalize (numAt T j).1=zz at *
       go_wp2
       go_roundw
       case rel=>exact⟨i+1,by omega,by go_num,O7.out,X7.out,B7.out⟩
       case measure=>first | (simp [intOf];done) | (simp [intOf];omega)
   have h11b:decide (op=11)=false:=decide_eq_false h11
   have e11:(op == 11)=false:=by simpa using h11
   by_cases h16:op=16
   case pos=>
    subst h16
    have hb:=Lib.hid (show nop=true from by rw [hnop.out];rfl)
    have OB:=Lib.hid ((OS (true)).out.congr (f':=fun j=>if j=k then nop && numAll T (args.take 0) else(decide (j<k) && (numAt T j).1)) fun j _=>by
     by_cases e:j=k
     ·rw [if_pos e,if_pos e,hb.out];simp [numAll]
     ·rw [if_neg e,if_neg e])
    have BB:=BS (.bool (true))
    have XB:=XS (.bool (true))
    clear OS BS XS hb
    go_wp2
    generalize (wo.setCell ⟨w.heap.size,k,none⟩ (.bool (true))).alloc (.cells #[.int .i64 16,.string nm,.bool ng,.slice a' nu.length c',.slice b' de.length d,.slice g args.length e,.int .i64 so] 38)=w5 at *
    go_loopw [8] (fun vi wr=>∃i:Nat,i≤args.length∧vi = .int .i64 i∧Hid (OwnF wr w.heap.size w.heap.size (id+1) (fun j=>if j=k then nop && numAll T (args.take i) else(decide (j<k) && (numAt T j).1)))∧Hid (wr.heap[wo.heap.size]? = some (.cells #[.int .i64 16,.string nm,.bool ng,.slice a' nu.length c',.slice b' de.length d,.slice g args.length e,.int .i64 so] 38 (0,0)))∧Hid (Below w.heap.size w wr)) (fun vi _=>args.length - (intOf vi).toNat)
    case atStart=>exact⟨0,Nat.zero_le _,rfl,OB.out,XB.out,BB.out⟩
    case round=>
     obtain ⟨i,hi,rfl,hOi,hXi,hBi⟩:=hrel
     have r5:wr.cell? ⟨wo.heap.size,5,none⟩=some (.slice g args.length e):=cell_p hXi.out 5
     by_cases hil:i<args.length
     case neg=>
      obtain rfl:i=args.length:=by omega
      have O9:=Lib.hid (hOi.out.congr (f':=fun j=>decide (j<k+1) && (numAt T j).1) fun j _=>by
       by_cases e:j=k
       ·rw [if_pos e,List.take_of_length_le (Nat.le_refl _),e,his.out];simp
       ·rw [if_neg e]
        by_cases h:j<k
        ·rw [decide_eq_true h,decide_eq_true (by omega)]
        ·rw [decide_eq_false h,decide_eq_false (by omega)])
      go_wp2
      go_roundw
      case rel=>exact⟨k+1,by omega,by go_num,O9.out,hBi.out⟩
      case measure=>first | (simp [intOf];done) | (simp [intOf];omega)
     case pos=>
      have hii:(i:Int)<args.length:=by omega
      have hta:=Lib.hid (numAll_take (T:=T) hil)
      obtain ⟨g0,g1⟩:=hargs.out (nth args i) (nth_mem hil)
      obtain ⟨j,hj⟩:=Int.eq_ofNat_of_zero_le g0
      have hjk:j<k:=by omega
      have hjI:(j:Int)<id+1:=by omega
      obtain ⟨b2,o2,rfl,k2⟩:=(hra.out.below hBi.out (Nat.le_refl _)).at i hil
      rw [hj] at k2 hta
      have y1:=hOi.out.cell (j:=k) (by omega)
      rw [if_pos rfl] at y1
      have y2:=hOi.out.cell (j:=j) (by omega)
      rw [if_neg (by omega),decide_eq_true hjk,Bool.true_and] at y2
      have f1:=hOi.out.frz k
      have BN:=fun v=>Lib.hid (hBi.out.setCell (p:=⟨w.heap.size,k,none⟩) (Nat.le_refl _) v)
      have XN:=fun v=>Lib.hid (show(wr.setCell ⟨w.heap.size,k,none⟩ v).heap[wo.heap.size]? = _ from(Below.heap_setCell _ _ _ _ (by simp;omega)).trans hXi.out)
      have ON:=fun v=>Lib.hid (hOi.out.set (j:=k) v)
      clear g0 g1 hj
      generalize hpp:(nop && numAll T (args.take i))=pp at *
      cases pp
      case false=>
       have O7:=Lib.hid ((ON false).out.congr (f':=fun j=>if j=k then nop && numAll T (args.take (i+1)) else(decide (j<k) && (numAt T j).1)) fun j' _=>by
        by_cases e:j'=k
        ·rw [if_pos e,if_pos e,hta.out,←Bool.and_assoc,hpp];rfl
        ·rw [if_neg e,if_neg e,if_neg e])
       have B7:=BN (.bool false)
       have X7:=XN (.bool false)
       clear ON BN XN hpp
       go_wp2
       go_roundw
       case rel=>exact⟨i+1,by omega,by go_num,O7.out,X7.out,B7.out⟩
       case measure=>first | (simp [intOf];done) | (simp [intOf];omega)
      case true=>
       have O7:=Lib.hid ((ON (numAt T j).1).out.congr (f':=fun j=>if j=k then nop && numAll T (args.take (i+1)) else(decide (j<k) && (numAt T j).1)) fun j' _=>by
        by_cases e:j'=k
        ·rw [if_pos e,if_pos e,hta.out,←Bool.and_assoc,hpp];rfl
        ·rw [if_neg e,if_neg e,if_neg e])
       have B7:=BN (.bool (numAt T j).1)
       have X7:=XN (.bool (numAt T j).1)
       clear ON BN XN hpp
       generalize (numAt T j).1=zz at *
       go_wp2
       go_roundw
       case rel=>exact⟨i+1,by omega,by go_num,O7.out,X7.out,B7.out⟩
       case measure=>first | (simp [intOf];done) | (simp [intOf];omega)
   have h16b:decide (op=16)=false:=decide_eq_false h16
   have e16:(op == 16)=false:=by simpa using h16
   by_cases h14:op=14
   case pos=>
    subst h14
    have hlb:(((args.length:Nat):Int) == 1)=decide (args.length=1):=by
     by_cases h:args.length=1
     ·rw [h];rfl
     ·rw [decide_eq_false h];simp;omega
    have hb:=Lib.hid (show nop=((args.length:Int) == 1) from by rw [hnop.out,hlb];rfl)
    clear hlb
    have OB:=Lib.hid ((OS (((args.length:Int) == 1))).out.congr (f':=fun j=>if j=k then nop && numAll T (args.take 0) else(decide (j<k) && (numAt T j).1)) fun j _=>by
     by_cases e:j=k
     ·rw [if_pos e,if_pos e,hb.out];simp [numAll]
     ·rw [if_neg e,if_neg e])
    have BB:=BS (.bool (((args.length:Int) == 1)))
    have XB:=XS (.bool (((args.length:Int) == 1)))
    clear OS BS XS hb
    go_wp2
    generalize (wo.setCell ⟨w.heap.size,k,none⟩ (.bool (((args.length:Int) == 1)))).alloc (.cells #[.int .i64 14,.string nm,.bool ng,.slice a' nu.length c',.slice b' de.length d,.slice g args.length e,.int .i64 so] 38)=w5 at *
    go_loopw [8] (fun vi wr=>∃i:Nat,i≤args.length∧vi = .int .i64 i∧Hid (OwnF wr w.heap.size w.heap.size (id+1) (fun j=>if j=k then nop && numAll T (args.take i) else(decide (j<k) && (numAt T j).1)))∧Hid (wr.heap[wo.heap.size]? = some (.cells #[.int .i64 14,.string nm,.bool ng,.slice a' nu.length c',.slice b' de.length d,.slice g args.length e,.int .i64 so] 38 (0,0)))∧Hid (Below w.heap.size w wr)) (fun vi _=>args.length - (intOf vi).toNat)
    case atStart=>exact⟨0,Nat.zero_le _,rfl,OB.out,XB.out,BB.out⟩
    case round=>
     obtain ⟨i,hi,rfl,hOi,hXi,hBi⟩:=hrel
     have r5:wr.cell? ⟨wo.heap.size,5,none⟩=some (.slice g args.length e):=cell_p hXi.out 5
     by_cases hil:i<args.length
     case neg=>
      obtain rfl:i=args.length:=by omega
      have O9:=Lib.hid (hOi.out.congr (f':=fun j=>decide (j<k+1) && (numAt T j).1) fun j _=>by
       by_cases e:j=k
       ·rw [if_pos e,List.take_of_length_le (Nat.le_refl _),e,his.out];simp
       ·rw [if_neg e]
        by_cases h:j<k
        ·rw [decide_eq_true h,decide_eq_true (by omega)]
        ·rw [decide_eq_false h,decide_eq_false (by omega)])
      go_wp2
      go_roundw
      case rel=>exact⟨k+1,by omega,by go_num,O9.out,hBi.out⟩
      case measure=>first | (simp [intOf];done) | (simp [intOf];omega)
     case pos=>
      have hii:(i:Int)<args.length:=by omega
      have hta:=Lib.hid (numAll_take (T:=T) hil)
      obtain ⟨g0,g1⟩:=hargs.out (nth args i) (nth_mem hil)
      obtain ⟨j,hj⟩:=Int.eq_ofNat_of_zero_le g0
      have hjk:j<k:=by omega
      have hjI:(j:Int)<id+1:=by omega
      obtain ⟨b2,o2,rfl,k2⟩:=(hra.out.below hBi.out (Nat.le_refl _)).at i hil
      rw [hj] at k2 hta
      have y1:=hOi.out.cell (j:=k) (by omega)
      rw [if_pos rfl] at y1
      have y2:=hOi.out.cell (j:=j) (by omega)
      rw [if_neg (by omega),decide_eq_true hjk,Bool.true_and] at y2
      have f1:=hOi.out.frz k
      have BN:=fun v=>Lib.hid (hBi.out.setCell (p:=⟨w.heap.size,k,none⟩) (Nat.le_refl _) v)
      have XN:=fun v=>Lib.hid (show(wr.setCell ⟨w.heap.size,k,none⟩ v).heap[wo.heap.size]? = _ from(Below.heap_setCell _ _ _ _ (by simp;omega)).trans hXi.out)
      have ON:=fun v=>Lib.hid (hOi.out.set (j:=k) v)
      clear g0 g1 hj
      generalize hpp:(nop && numAll T (args.take i))=pp at *
      cases pp
      case false=>
       have O7:=Lib.hid ((ON false).out.congr (f':=fun j=>if j=k then nop && numAll T (args.take (i+1)) else(decide (j<k) && (numAt T j).1)) fun j' _=>by
        by_cases e:j'=k
        ·rw [if_pos e,if_pos e,hta.out,←Bool.and_assoc,hpp];rfl
        ·rw [if_neg e,if_neg e,if_neg e])
       have B7:=BN (.bool false)
       have X7:=XN (.bool false)
       clear ON BN XN hpp
       go_wp2
       go_roundw
       case rel=>exact⟨i+1,by omega,by go_num,O7.out,X7.out,B7.out⟩
       case measure=>first | (simp [intOf];done) | (simp [intOf];omega)
      case true=>
       have O7:=Lib.hid ((ON (numAt T j).1).out.congr (f':=fun j=>if j=k then nop && numAll T (args.take (i+1)) else(decide (j<k) && (numAt T j).1)) fun j' _=>by
        by_cases e:j'=k
        ·rw [if_pos e,if_pos e,hta.out,←Bool.and_assoc,hpp];rfl
        ·rw [if_neg e,if_neg e,if_neg e])
       have B7:=BN (.bool (numAt T j).1)
       have X7:=XN (.bool (numAt T j).1)
       clear ON BN XN hpp
       generalize (numAt T j).1=zz at *
       go_wp2
       go_roundw
       case rel=>exact⟨i+1,by omega,by go_num,O7.out,X7.out,B7.out⟩
       case measure=>first | (simp [intOf];done) | (simp [intOf];omega)
   have h14b:decide (op=14)=false:=decide_eq_false h14
   have e14:(op == 14)=false:=by simpa using h14
   have hb:=Lib.hid (show nop=false from by rw [hnop.out,e11,e16,e14];rfl)
   have OB:=Lib.hid ((OS (false)).out.congr (f':=fun j=>if j=k then nop && numAll T (args.take 0) else(decide (j<k) && (numAt T j).1)) fun j _=>by
    by_cases e:j=k
    ·rw [if_pos e,if_pos e,hb.out];simp [numAll]
    ·rw [if_neg e,if_neg e])
   have BB:=BS (.bool (false))
   have XB:=XS (.bool (false))
   clear OS BS XS hb
   go_wp2
   generalize (wo.setCell ⟨w.heap.size,k,none⟩ (.bool (false))).alloc (.cells #[.int .i64 op,.string nm,.bool ng,.slice a' nu.length c',.slice b' de.length d,.slice g args.length e,.int .i64 so] 38)=w5 at *
   go_loopw [8] (fun vi wr=>∃i:Nat,i≤args.length∧vi = .int .i64 i∧Hid (OwnF wr w.heap.size w.heap.size (id+1) (fun j=>if j=k then nop && numAll T (args.take i) else(decide (j<k) && (numAt T j).1)))∧Hid (wr.heap[wo.heap.size]? = some (.cells #[.int .i64 op,.string nm,.bool ng,.slice a' nu.length c',.slice b' de.length d,.slice g args.length e,.int .i64 so] 38 (0,0)))∧Hid (Below w.heap.size w wr)) (fun vi _=>args.length - (intOf vi).toNat)
   case atStart=>exact⟨0,Nat.zero_le _,rfl,OB.out,XB.out,BB.out⟩
   case round=>
    obtain ⟨i,hi,rfl,hOi,hXi,hBi⟩:=hrel
    have r5:wr.cell? ⟨wo.heap.size,5,none⟩=some (.slice g args.length e):=cell_p hXi.out 5
    by_cases hil:i<args.length
    case neg=>
     obtain rfl:i=args.length:=by omega
     have O9:=Lib.hid (hOi.out.congr (f':=fun j=>decide (j<k+1) && (numAt T j).1) fun j _=>by
      by_cases e:j=k
      ·rw [if_pos e,List.take_of_length_le (Nat.le_refl _),e,his.out];simp
      ·rw [if_neg e]
       by_cases h:j<k
       ·rw [decide_eq_true h,decide_eq_true (by omega)]
       ·rw [decide_eq_false h,decide_eq_false (by omega)])
     go_wp2
     go_roundw
     case rel=>exact⟨k+1,by omega,by go_num,O9.out,hBi.out⟩
     case measure=>first | (simp [intOf];done) | (simp [intOf];omega)
    case pos=>
     have hii:(i:Int)<args.length:=by omega
     have hta:=Lib.hid (numAll_take (T:=T) hil)
     obtain ⟨g0,g1⟩:=hargs.out (nth args i) (nth_mem hil)
     obtain ⟨j,hj⟩:=Int.eq_ofNat_of_zero_le g0
     have hjk:j<k:=by omega
     have hjI:(j:Int)<id+1:=by omega
     obtain ⟨b2,o2,rfl,k2⟩:=(hra.out.below hBi.out (Nat.le_refl _)).at i hil
     rw [hj] at k2 hta
     have y1:=hOi.out.cell (j:=k) (by omega)
     rw [if_pos rfl] at y1
     have y2:=hOi.out.cell (j:=j) (by omega)
     rw [if_neg (by omega),decide_eq_true hjk,Bool.true_and] at y2
     have f1:=hOi.out.frz k
     have BN:=fun v=>Lib.hid (hBi.out.setCell (p:=⟨w.heap.size,k,none⟩) (Nat.le_refl _) v)
     have XN:=fun v=>Lib.hid (show(wr.setCell ⟨w.heap.size,k,none⟩ v).heap[wo.heap.size]? = _ from(Below.heap_setCell _ _ _ _ (by simp;omega)).trans hXi.out)
     have ON:=fun v=>Lib.hid (hOi.out.set (j:=k) v)
     clear g0 g1 hj
     generalize hpp:(nop && numAll T (args.take i))=pp at *
     cases pp
     case false=>
      have O7:=Lib.hid ((ON false).out.congr (f':=fun j=>if j=k then nop && numAll T (args.take (i+1)) else(decide (j<k) && (numAt T j).1)) fun j' _=>by
       by_cases e:j'=k
       ·rw [if_pos e,if_pos e,hta.out,←Bool.and_assoc,hpp];rfl
       ·rw [if_neg e,if_neg e,if_neg e])
      have B7:=BN (.bool false)
      have X7:=XN (.bool false)
      clear ON BN XN hpp
      go_wp2
      go_roundw
      case rel=>exact⟨i+1,by omega,by go_num,O7.out,X7.out,B7.out⟩
      case measure=>first | (simp [intOf];done) | (simp [intOf];omega)
     case true=>
      have O7:=Lib.hid ((ON (numAt T j).1).out.congr (f':=fun j=>if j=k then nop && numAll T (args.take (i+1)) else(decide (j<k) && (numAt T j).1)) fun j' _=>by
       by_cases e:j'=k
       ·rw [if_pos e,if_pos e,hta.out,←Bool.and_assoc,hpp];rfl
       ·rw [if_neg e,if_neg e,if_neg e])
      have B7:=BN (.bool (numAt T j).1)
      have X7:=XN (.bool (numAt T j).1)
      clear ON BN XN hpp
      generalize (numAt T j).1=zz at *
      go_wp2
      go_roundw
      case rel=>exact⟨i+1,by omega,by go_num,O7.out,X7.out,B7.out⟩
      case measure=>first | (simp [intOf];done) | (simp [intOf];omega)
end Go.Proofs.YtgoojkiccdjplaaGreatDoor
