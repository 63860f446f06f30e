/-
  Parts of this claim's texts, one behind the other: YG YH YI YJ. No condition.
-/
import Derived.Test.YtgoojkiccdjplaaGreatDoorM4
set_option linter.unusedVariables false
set_option linter.unusedSimpArgs false
set_option maxRecDepth 100000
set_option maxHeartbeats 16000000
namespace Go.Proofs.YtgoojkiccdjplaaGreatDoor
open Go.RowKit Go.Sort Go.Lib
theorem allT_any (B p:Nat) (T:TermD) (a:Option Addr) (n c:Nat) (xs:List Int) (s:Int) (w:World) (h:TermX B p T w) (hx:RdI w a n xs) (hn:n<1099511627776) (hi:InT T xs) :
  Calls Tryz.prog 132 #[.pointer (some ⟨p,0,none⟩),.slice a n c,.int .i64 s] w fun e w'=>e = .returned (.bool (allD T xs s))∧Below w.heap.size w w':=by
 have hd:=@hid (allD T xs s = !(xs.any fun i=>!((nodeAt T i).sort == s))) rfl
 have hB0:Below w.heap.size w ((w.alloc (.cells #[.pointer (some ⟨p,0,none⟩)] 26)).alloc (.cells #[.int .i64 s] 3)):=((Below.refl _ _).alloc (Nat.le_refl _) _).alloc (by simp) _
 have hb1:=heap2a w (.cells #[.pointer (some ⟨p,0,none⟩)] 26) (.cells #[.int .i64 s] 3)
 have hb2:=heap2b w (.cells #[.pointer (some ⟨p,0,none⟩)] 26) (.cells #[.int .i64 s] 3)
 have hc:=hid (hasA_any (fun i=>!((nodeAt T i).sort == s)) a n c w.heap.size (w.heap.size+1) xs _ (hx.below hB0 (Nat.le_refl _)) hn (fun w1 hw1 x hxm=>by
  obtain ⟨h0,h1⟩:=hi x hxm
  obtain ⟨k,rfl⟩:=Int.eq_ofNat_of_zero_le h0
  exact all1_any B p T s k w.heap.size (w.heap.size+1) w1 ((h.all hB0).all hw1) (by omega) (cell_p ((hw1.block _ (by simp;omega)).trans hb1) 0) (cell_p ((hw1.block _ (by simp)).trans hb2) 0)))
 have hB0':=hid hB0
 clear h hx hi hB0 hb1 hb2
 go_enter Tryz.func132,Tryz.ntmps132
 go_wp2_with fail
 refine hc.out.mono ?_;rintro e w1 ⟨rfl,hb⟩
 have hb':=hid (hB0'.out.trans (hb.mono (by simp;omega)))
 clear hb
 go_wp2
 go_ret
 exact⟨ret_bool hd.out.symm,hb'.out⟩
theorem alikeT_any (B p:Nat) (T:TermD) (a:Option Addr) (n c:Nat) (xs:List Int) (w:World) (h:TermX B p T w) (hx:RdI w a n xs) (hn:n<1099511627776) (hi:InT T xs) :
  Calls Tryz.prog 133 #[.pointer (some ⟨p,0,none⟩),.slice a n c] w fun e w'=>e = .returned (.bool (alikeD T xs))∧Below w.heap.size w w':=by
 have hd:=@hid (alikeD T xs=(decide (2≤xs.length) && allD T xs (nodeAt T (nth xs 0)).sort)) rfl
 have lx:=hid hx.len
 by_cases h2:2≤n
 ·have hv:=@hid (allD T xs (nodeAt T (nth xs 0)).sort=alikeD T xs) (by rw [hd.out,lx.out];simp [h2])
  obtain ⟨b,o,rfl,k0⟩:=hx.at 0 (by omega)
  rw [Nat.add_zero] at k0
  obtain ⟨g0,g1⟩:=hi (nth xs 0) (nth_mem (by rw [lx.out];omega))
  have hall:=hid (fun(w1:World) (s:Int) (hw:Below w.heap.size w w1)=>allT_any B p T (some ⟨b,o,none⟩) n c xs s w1 (h.all hw) (hx.below hw (Nat.le_refl _)) hn hi)
  obtain ⟨k,hk⟩:=Int.eq_ofNat_of_zero_le g0
  rw [hk] at k0 g1 hv
  obtain ⟨q,a1,c1,a2,c2,m,ha⟩:=h.look
  have k1:w.cell? ⟨p,1,none⟩=some (.slice a1 T.nodes.length c1):=cell_p ha.blk 1
  obtain ⟨b1,o1,rfl,k2,_⟩:=ha.sortCell (k:=k) (by omega)
  have h2i:(2:Int)≤n:=by omega
  have hn0:0<n:=by omega
  have hkn:k<T.nodes.length:=by omega
  clear h hx hi ha hd hk
  generalize (nodeAt T k).sort=z at *
  go_enter Tryz.func133,Tryz.ntmps133
  go_wp2_with fail
  refine wp_region_tt (S:=fun W=>Below w.heap.size w W) 16 (by kernel_rfl) (by kernel_rfl) (keep_drew w) (fun _=>?_)
  refine tk (i:=0) (h:=?_)
  (try simp only [Act.put,sA,sB,sC])
  refine tk (i:=1) (h:=?_)
  (try simp only [Act.put,sA,sB,sC])
  refine tk (i:=2) (h:=?_)
  (try simp only [Act.put,sA,sB,sC])
  refine tk (i:=3) (h:=?_)
  (try simp only [Act.put,sA,sB,sC])
  refine tk (i:=4) (h:=?_)
  (try simp only [Act.put,sA,sB,sC])
  refine tk (i:=5) (h:=?_)
  (try simp only [Act.put,sA,sB,sC])
  refine tk (i:=6) (h:=?_)
  (try simp only [Act.put,sA,sB,sC])
  refine tk (i:=7) (h:=?_)
  (try simp only [Act.put,sA,sB,sC])
  refine tk (i:=8) (h:=?_)
  (try simp only [Act.put,sA,sB,sC])
  refine tk (i:=9) (hy:=(by first | exact Or.inl ⟨by rfl,by(intro W hSw;have hq:=keep_cell hSw k1;go_simp <;> with_reducible rfl)⟩ | exact Or.inr ⟨by rfl,rfl⟩)) (h:=?_)
  (try simp only [Act.put,sA,sB,sC])
  refine tk (i:=10) (h:=?_)
  (try simp only [Act.put,sA,sB,sC])
  refine tk (i:=11) (h:=?_)
  (try simp only [Act.put,sA,sB,sC])
  refine tk (i:=12) (hy:=(by first | exact Or.inl ⟨by rfl,by(intro W hSw;have hq:=keep_cell hSw k0;go_simp <;> with_reducible rfl)⟩ | exact Or.inr ⟨by rfl,rfl⟩)) (h:=?_)
  (try simp only [Act.put,sA,sB,sC])
  refine tk (i:=13) (h:=?_)
  (try simp only [Act.put,sA,sB,sC])
  refine tk (i:=14) (h:=?_)
  (try simp only [Act.put,sA,sB,sC])
  refine tk (i:=15) (hy:=(by first | exact Or.inl ⟨by rfl,by(intro W hSw;have hq:=keep_cell hSw k2;go_simp <;> with_reducible rfl)⟩ | exact Or.inr ⟨by rfl,rfl⟩)) (h:=?_)
  (try simp only [Act.put,sA,sB,sC])
  refine tt_tail (by decide +kernel) ?_
  simp only [List.drop_succ_cons,List.drop_zero]
  go_wp2_with fail
  refine(hall.out _ z (by assumption)).mono ?_;rintro e w1 ⟨rfl,hb⟩
  have hb':=hid (hb)
  clear hb
  go_wp2
  go_ret
  exact⟨ret_bool hv.out,(keep_drew w).trans (hb'.out.mono (keep_drew w).size)⟩
 ·have hv:=@hid (false=alikeD T xs) (by rw [hd.out,lx.out];simp [h2])
  have h2i:¬(2:Int)≤n:=by omega
  have h2d:decide ((n:Int) ≥ 2)=false:=by simp;omega
  clear h hx hi hd
  go_enter Tryz.func133,Tryz.ntmps133
  go_wp2_with fail
  go_quiet (fail)
  go_wp2
  go_ret
  exact⟨ret_bool hv.out,(Below.refl _ _).drewN _⟩
def othersTo (T:TermD) (xs:List Int) (k:Nat):Nat:=others T (xs.take k)
theorem othersTo_succ {T:TermD} {xs:List Int} {k:Nat} (hk:k<xs.length):othersTo T xs (k+1)=othersTo T xs k+(if (numAt T (nth xs k)).1 then 0 else 1):=by
 unfold othersTo others
 rw [List.take_succ_eq_append_getElem hk,List.filter_append,List.length_append,nth_eq hk]
 congr 1
 rw [List.filter_cons]
 cases (numAt T xs[k]).1 <;> rfl
theorem othersTo_all {T:TermD} {xs:List Int}:othersTo T xs xs.length=others T xs:=by unfold othersTo;rw [List.take_length]
theorem othersTo_le {T:TermD} {xs:List Int} {k:Nat}:othersTo T xs k≤k:=by
 unfold othersTo others
 exact Nat.le_trans (List.length_filter_le _ _) (by rw [List.length_take];exact Nat.min_le_left _ _)
theorem product_any (B p:Nat) (T:TermD) (a:Option Addr) (n c:Nat) (xs:List Int) (w:World) (h:TermX B p T w) (hx:RdI w a n xs) (hn:n<1099511627776) (hi:InT T xs) (hnn:T.nums.length=T.nodes.length) :
  Calls Tryz.prog 173 #[.pointer (some ⟨p,0,none⟩),.slice a n c] w fun e w'=>e = .returned (.bool (productD T xs))∧w'=w:=by
 have lx:=hid hx.len
 have hx':=hid hx
 have hi':=hid hi
 obtain ⟨q,a1,c1,a2,c2,m,ha⟩:=h.look
 have k1:w.cell? ⟨p,2,none⟩=some (.slice a2 T.nums.length c2):=cell_p ha.blk 2
 have ha':=hid ha
 clear hx hi h ha
 go_enter Tryz.func173,Tryz.ntmps173
 go_wp2
 go_loopw [5,7,10] (fun o _ i wr=>∃k:Nat,k≤n∧i = .int .i64 k∧o = .int .i64 (othersTo T xs k)∧wr=w) (fun _ _ i _=>n - (intOf i).toNat)
 case atStart=>exact⟨0,Nat.zero_le _,rfl,by simp [othersTo,others],rfl⟩
 case round=>
  obtain ⟨k,hk,rfl,rfl,rfl⟩:=hrel
  by_cases hlt:k<n
  ·have hkx:k<xs.length:=by rw [lx.out];exact hlt
   obtain ⟨b,o,rfl,k0⟩:=hx'.out.at k hlt
   obtain ⟨g0,g1⟩:=hi'.out (nth xs k) (nth_mem hkx)
   have hs:=hid (othersTo_succ (T:=T) hkx)
   obtain ⟨j,hj⟩:=Int.eq_ofNat_of_zero_le g0
   rw [hj] at k0 g1 hs
   have hj1:j<T.nums.length:=by omega
   have hj2:(j:Int)<T.nums.length:=by omega
   obtain ⟨b1,o1,rfl,k2,_⟩:=ha'.out.numCell hj1
   have hot:=othersTo_le (T:=T) (xs:=xs) (k:=k)
   clear g0 g1 hj
   cases hz:(numAt T j).1
   case true=>
    have hv:=@hid (othersTo T xs (k+1)=othersTo T xs k) (by rw [hs.out,hz];rfl)
    rw [hz] at k2
    clear hz hs
    go_wp2
    go_roundw
    case rel=>exact⟨k+1,by omega,by go_num,by rw [hv.out],trivial⟩
    case measure=>simp [intOf];omega
   case false=>
    have hv:=@hid (othersTo T xs (k+1)=othersTo T xs k+1) (by rw [hs.out,hz];rfl)
    rw [hz] at k2
    clear hz hs
    generalize othersTo T xs k=z at *
    go_wp2
    go_roundw
    case rel=>exact⟨k+1,by omega,by go_num,by rw [hv.out];go_num,trivial⟩
    case measure=>simp [intOf];omega
  ·have hkn:k=n:=by omega
   have hv:=@hid (productD T xs=decide ((othersTo T xs k:Int)≤1)) (by
    unfold productD
    rw [hkn,←lx.out,othersTo_all]
    by_cases h1:others T xs≤1
    ·simp [h1];omega
    ·simp [h1];omega)
   clear hkn
   generalize othersTo T xs k=z at *
   go_wp2
   go_ret
   exact⟨ret_bool hv.out.symm,rfl⟩
theorem RdI.from1 {w:World} {a:Option Addr} {n c:Nat} {xs:List Int} (h:RdI w a n xs) (hn:1≤n) (hc:n≤c):RdI w (fromA a c 1 1) (n - 1) (xs.drop 1):=by
 refine⟨by rw [List.length_drop,h.len],fun x hx=>h.wf x (List.mem_of_mem_drop hx),fun h1=>?_⟩
 obtain ⟨b,o,rfl,hlt,hc⟩:=h.cells (by omega)
 unfold fromA
 rw [if_neg (by omega)]
 refine⟨b,o+1,by simp [Addr.add],hlt,fun j hj=>?_⟩
 have:=hc (j+1) (by omega)
 rw [show o+1+j=o+(j+1) by omega,this]
 simp [nth,List.getD]
theorem size_int (w:World):(sizeOf 3).run Tryz.prog w = .ok 1 w:=by kernel_rfl
theorem run_from1 {a:Option Addr} {n c:Nat} (hk:1≤n) (hc:n≤c) (W:World):(Instr.slice 23 (.slice a n c) (some (.int .i64 1)) none none).run Tryz.prog W = .ok (.slice (fromA a c 1 1) (n - 1) (c - 1)) W:=
 run_from2 (k:=1) Tryz.underlying23 size_int hk hc W
theorem InT.drop {T:TermD} {xs:List Int} (h:InT T xs) (k:Nat):InT T (xs.drop k):=fun x hx=>h x (List.mem_of_mem_drop hx)
theorem quotient_any (B p:Nat) (T:TermD) (a:Option Addr) (n c:Nat) (xs:List Int) (w:World) (h:TermX B p T w) (hx:RdI w a n xs) (hn:n<1099511627776) (h1:1≤n) (hnc:n≤c) (hi:InT T xs) (hnn:T.nums.length=T.nodes.length) :
  Calls Tryz.prog 174 #[.pointer (some ⟨p,0,none⟩),.slice a n c] w fun e w'=>e = .returned (.bool (quotientD T xs))∧Below w.heap.size w w':=by
 have hd:=@hid (quotientD T xs = !((xs.drop 1).any (badQuot T))) rfl
 have hB0:Below w.heap.size w (w.alloc (.cells #[.pointer (some ⟨p,0,none⟩)] 26)):=(Below.refl _ _).alloc (Nat.le_refl _) _
 have hb1:=heap_alloc_new w (.cells #[.pointer (some ⟨p,0,none⟩)] 26)
 have hsl:=fun W=>run_from1 (a:=a) h1 hnc W
 have hc:=hid (hasQ_any (badQuot T) (fromA a c 1 1) (n - 1) (c - 1) w.heap.size (xs.drop 1) _ ((hx.from1 h1 hnc).below hB0 (Nat.le_refl _)) (by omega) (fun w1 hw1 x hxm=>by
  obtain ⟨g0,g1⟩:=hi.drop 1 x hxm
  obtain ⟨k,rfl⟩:=Int.eq_ofNat_of_zero_le g0
  exact quot1_any B p T k w.heap.size w1 ((h.all hB0).all hw1) (by omega) (cell_p ((hw1.block _ (by simp)).trans hb1) 0)))
 have hB0':=hid hB0
 clear h hx hi hB0 hb1
 go_enter Tryz.func174,Tryz.ntmps174
 go_wp2_with fail
 refine hc.out.mono ?_;rintro e w1 ⟨rfl,hb⟩
 have hb':=hid (hB0'.out.trans (hb.mono (by simp)))
 clear hb
 go_wp2
 go_ret
 exact⟨ret_bool (by rw [hd.out,List.drop_one]),hb'.out⟩
theorem numeric_any (B p:Nat) (T:TermD) (op:Int) (a:Option Addr) (n c:Nat) (xs:List Int) (w:World) (h:TermX B p T w) (hx:RdI w a n xs) (hn:n<1099511627776) (hnc:n≤c) (hi:InT T xs) (hnn:T.nums.length=T.nodes.length) :
  Calls Tryz.prog 135 #[.pointer (some ⟨p,0,none⟩),.int .i64 op,.slice a n c] w fun e w'=>e = .returned (.bool (numericD T op xs))∧Below w.heap.size w w':=by
 have hd:=@hid (numericD T op xs=if (xs.length:Int)<leastD op then false else if allD T xs 1 then(if op=15 then productD T xs else if op=16 then quotientD T xs else true) else false) rfl
 have lx:=hid hx.len
 have hall:=hid (allT_any B p T a n c xs 1 w h hx hn hi)
 have hpr:=hid (fun(w1:World) (hw:Below w.heap.size w w1)=>product_any B p T a n c xs w1 (h.all hw) (hx.below hw (Nat.le_refl _)) hn hi hnn)
 have hqu:=hid (fun(w1:World) (h1:1≤n) (hw:Below w.heap.size w w1)=>quotient_any B p T a n c xs w1 (h.all hw) (hx.below hw (Nat.le_refl _)) hn h1 hnc hi hnn)
 clear h hx hi
 by_cases hop:op=14
 ·subst hop
  by_cases h1:n<1
  ·have hv:=@hid (false=numericD T 14 xs) (by rw [hd.out,lx.out];simp [leastD,show n=0 by omega])
   have h1i:(n:Int)<1:=by omega
   go_enter Tryz.func135,Tryz.ntmps135
   go_wp2
   go_ret
   exact⟨ret_bool hv.out,Below.refl _ _⟩
  ·have h1i:¬(n:Int)<1:=by omega
   cases ha:allD T xs 1
   case false=>
    have hv:=@hid (false=numericD T 14 xs) (by rw [hd.out,lx.out,ha];simp)
    rw [ha] at hall
    clear ha
    go_enter Tryz.func135,Tryz.ntmps135
    go_wp2_with fail
    refine hall.out.mono ?_;rintro e w1 ⟨rfl,hb⟩
    have hb':=hid hb
    clear hb
    go_wp2
    go_ret
    exact⟨ret_bool hv.out,hb'.out⟩
   case true=>
    have hv:=@hid (true=numericD T 14 xs) (by rw [hd.out,lx.out,ha];simp [leastD];omega)
    rw [ha] at hall
    clear ha
    go_enter Tryz.func135,Tryz.ntmps135
    go_wp2_with fail
    refine hall.out.mono ?_;rintro e w1 ⟨rfl,hb⟩
    have hb':=hid hb
    clear hb
    go_wp2
    go_ret
    exact⟨ret_bool hv.out,hb'.out⟩
 have hl2:=@hid (leastD op=2) (by unfold leastD;rw [if_neg hop])
 by_cases h1:n<2
 ·have hv:=@hid (false=numericD T op xs) (by rw [hd.out,lx.out,hl2.out,if_pos (by omega)])
  have h1i:(n:Int)<2:=by omega
  go_enter Tryz.func135,Tryz.ntmps135
  go_wp2
  go_ret
  exact⟨ret_bool hv.out,Below.refl _ _⟩
 ·have h1i:¬(n:Int)<2:=by omega
  have hd2:=@hid (numericD T op xs=if allD T xs 1 then(if op=15 then productD T xs else if op=16 then quotientD T xs else true) else false) (by rw [hd.out,lx.out,hl2.out,if_neg (by omega)])
  clear hd hl2
  cases ha:allD T xs 1
  case false=>
   have hv:=@hid (false=numericD T op xs) (by rw [hd2.out,ha];rfl)
   rw [ha] at hall
   clear ha
   go_enter Tryz.func135,Tryz.ntmps135
   go_wp2_with fail
   refine hall.out.mono ?_;rintro e w1 ⟨rfl,hb⟩
   have hb':=hid hb
   clear hb
   go_wp2
   go_ret
   exact⟨ret_bool hv.out,hb'.out⟩
  case true=>
   have hd3:=@hid (numericD T op xs=(if op=15 then productD T xs else if op=16 then quotientD T xs else true)) (by rw [hd2.out,ha];rfl)
   rw [ha] at hall
   clear ha hd2
   by_cases h15:op=15
   ·subst h15
    have hv:=@hid (productD T xs=numericD T 15 xs) (by rw [hd3.out];rfl)
    go_enter Tryz.func135,Tryz.ntmps135
    go_wp2_with fail
    refine hall.out.mono ?_;rintro e w1 ⟨rfl,hb⟩
    have hb':=hid hb
    clear hb
    go_wp2_with fail
    refine(hpr.out w1 hb'.out).mono ?_;rintro e w2 ⟨rfl,rfl⟩
    go_wp2
    go_ret
    exact⟨ret_bool hv.out,hb'.out⟩
   ·by_cases h16:op=16
    ·subst h16
     have hv:=@hid (quotientD T xs=numericD T 16 xs) (by rw [hd3.out];rfl)
     go_enter Tryz.func135,Tryz.ntmps135
     go_wp2_with fail
     refine hall.out.mono ?_;rintro e w1 ⟨rfl,hb⟩
     have hb':=hid hb
     clear hb
     go_wp2_with fail
     refine(hqu.out w1 (by omega) hb'.out).mono ?_;rintro e w2 ⟨rfl,hb⟩
     have hb2:=hid (hb'.out.trans (hb.mono hb'.out.size))
     clear hb
     go_wp2
     go_ret
     exact⟨ret_bool hv.out,hb2.out⟩
    ·have hv:=@hid (true=numericD T op xs) (by rw [hd3.out];simp [h15,h16])
     go_enter Tryz.func135,Tryz.ntmps135
     go_wp2_with fail
     refine hall.out.mono ?_;rintro e w1 ⟨rfl,hb⟩
     have hb':=hid hb
     clear hb
     go_wp2
     go_ret
     exact⟨ret_bool hv.out,hb'.out⟩
def fitsTo (T:TermD) (xs ss:List Int) (k:Nat):Prop:=∀j,j<k→(nodeAt T (nth xs j)).sort=nth ss j
theorem sameSorts_iff {T : TermD} : ∀ {xs ss : List Int}, xs.length = ss.length → (sameSorts T xs ss = true ↔ fitsTo T xs ss xs.length)
  | [], [], _ => by simp [sameSorts, fitsTo]
  | x :: xs, s :: ss, h => by
    have ih := sameSorts_iff (T := T) (xs := xs) (ss := ss) (by simpa using h)
    unfold sameSorts
    rw [Bool.and_eq_true, ih]
    constructor
    · rintro ⟨h1, h2⟩ j hj
      cases j with
      | zero => simpa [nth] using h1
      | succ j => have := h2 j (by simpa using hj); simpa [nth] using this
    · intro h
      exact ⟨by have := h 0 (by simp); simpa [nth] using this, fun j hj => by have := h (j + 1) (by simpa using hj); simpa [nth] using this⟩
  | [], _ :: _, h => by simp at h
  | _ :: _, [], h => by simp at h
theorem call_any (B p:Nat) (T:TermD) (nm:ByteArray) (a:Option Addr) (n c:Nat) (xs:List Int) (w:World) (h:TermX B p T w) (hx:RdI w a n xs) (hn:n<1099511627776) (hi:InT T xs) (hs:Small T.S) :
  Calls Tryz.prog 134 #[.pointer (some ⟨p,0,none⟩),.string nm,.slice a n c] w fun e w'=>e = .returned (.tuple #[.int .i64 (callD T nm xs).1,.bool (callD T nm xs).2])∧Below w.heap.size w w':=by
 have hd:=@hid (callD T nm xs=if (findF T.S nm).isSome∧(lookF T.S nm).args.length=xs.length then(if sameSorts T xs (lookF T.S nm).args then((lookF T.S nm).res,true) else(0,false)) else(0,false)) rfl
 have lx:=hid hx.len
 have hx':=hid hx
 have hi':=hid hi
 have h':=hid h
 obtain ⟨q,a1,c1,a2,c2,m,ha⟩:=h.look
 have k1:w.cell? ⟨p,0,none⟩=some (.pointer (some ⟨q,0,none⟩)):=cell_p ha.blk 0
 obtain ⟨Bs,hq⟩:=ha.srt
 have hf:=hid (find_any Bs q T.S nm w hq hs)
 have hplt:=h.plt
 clear hx hi h ha hq
 have hdc:∀b x,(callD T nm xs)=(x,b)→Value.tuple #[.int .i64 x,.bool b] = .tuple #[.int .i64 (callD T nm xs).1,.bool (callD T nm xs).2]:=fun b x e=>by rw [e]
 have hdc':=hid hdc
 clear hdc
 cases hsome:(findF T.S nm).isSome
 case false=>
  have hv:=@hid (callD T nm xs=(0,false)) (by rw [hd.out,hsome];simp)
  rw [hsome] at hf
  clear hsome hd
  go_enter Tryz.func134,Tryz.ntmps134
  go_wp2_with fail
  refine hf.out.mono ?_;rintro e w1 ⟨af,cf,rfl,hsl,hc1,hc2,hb⟩
  have B1:=hid (hb.alloc hb.size (.cells #[.string (lookF T.S nm).name,.slice af (lookF T.S nm).args.length cf,.int .i64 (lookF T.S nm).res] 114))
  clear hb hsl hc1 hc2
  go_wp2
  go_ret2
  exact⟨by rw [hv.out];rfl,B1.out⟩
 case true=>
 rw [hsome] at hf
 have hd2:=@hid (callD T nm xs=if (lookF T.S nm).args.length=xs.length then(if sameSorts T xs (lookF T.S nm).args then((lookF T.S nm).res,true) else(0,false)) else(0,false)) (by rw [hd.out,hsome];simp)
 clear hsome hd
 generalize hF:lookF T.S nm=F at *
 have hfa:F.args.length<1099511627776:=by
  rw [←hF];unfold lookF
  cases hff:findF T.S nm with
  | none=>simp [noFun]
  | some f=>exact hs.a f (List.mem_of_find?_eq_some hff)
 by_cases hl:F.args.length=n
 case neg=>
  have hv:=@hid (callD T nm xs=(0,false)) (by rw [hd2.out,lx.out,if_neg hl])
  have hli:¬(F.args.length:Int)=n:=by omega
  clear hd2
  go_enter Tryz.func134,Tryz.ntmps134
  go_wp2_with fail
  refine hf.out.mono ?_;rintro e w1 ⟨af,cf,rfl,hsl,hc1,hc2,hb⟩
  have B1:=hid (hb.alloc hb.size (.cells #[.string F.name,.slice af F.args.length cf,.int .i64 F.res] 114))
  clear hb hsl hc1 hc2 hF
  go_wp2
  go_ret2
  exact⟨by rw [hv.out];rfl,B1.out⟩
 case pos=>
 have hd3:=@hid (callD T nm xs=if sameSorts T xs F.args then(F.res,true) else(0,false)) (by rw [hd2.out,lx.out,if_pos hl])
 have hlf:=hid (show xs.length=F.args.length by rw [lx.out,hl])
 clear hd2
 subst hl
 go_enter Tryz.func134,Tryz.ntmps134
 go_wp2_with fail
 refine hf.out.mono ?_;rintro e w1 ⟨af,cf,rfl,hsl,hc1,hc2,hb⟩
 have B1:=hid (hb.alloc hb.size (.cells #[.string F.name,.slice af F.args.length cf,.int .i64 F.res] 114))
 have hb0:=hid hb
 have hsl':=hid (hsl.toI.below ((Below.refl _ _).alloc (Nat.le_refl _) (.cells #[.string F.name,.slice af F.args.length cf,.int .i64 F.res] 114)) (Nat.le_refl _))
 have hbox:=hid (heap_alloc_new w1 (.cells #[.string F.name,.slice af F.args.length cf,.int .i64 F.res] 114))
 generalize hW1:w1.alloc (.cells #[.string F.name,.slice af F.args.length cf,.int .i64 F.res] 114)=W1 at *
 have hsz:W1.heap.size=w1.heap.size+1:=by rw [←hW1];simp
 have f1:W1.cell? ⟨w1.heap.size,1,none⟩=some (.slice af F.args.length cf):=cell_p hbox.out 1
 clear hb hsl hc1 hc2 hF
 go_wp2
 clear hW1
 go_loopw [10,11,33] (fun _ _ i wr=>∃k:Nat,k≤F.args.length∧i = .int .i64 k∧Hid (fitsTo T xs F.args k)∧Hid (Below W1.heap.size W1 wr)) (fun _ _ i _=>F.args.length - (intOf i).toNat)
 case atStart=>exact⟨0,Nat.zero_le _,rfl,fun j hj=>absurd hj (Nat.not_lt_zero _),Below.refl _ _⟩
 case round=>
  obtain ⟨k,hk,rfl,hne,hB⟩:=hrel
  have Bw:=hid (B1.out.trans (hB.out.mono B1.out.size))
  have Hb:=hid ((hB.out.block w1.heap.size (by omega)).trans hbox.out)
  have f1:wr.cell? ⟨w1.heap.size,1,none⟩=some (.slice af F.args.length cf):=cell_p Hb.out 1
  have f2:wr.cell? ⟨w1.heap.size,2,none⟩=some (.int .i64 F.res):=cell_p Hb.out 2
  by_cases hlt:k<F.args.length
  ·have hkx:k<xs.length:=by rw [lx.out];exact hlt
   have hki:(k:Int)<F.args.length:=by omega
   obtain ⟨b,o,rfl,k0⟩:=(hx'.out.below Bw.out (Nat.le_refl _)).at k hlt
   obtain ⟨b2,o2,rfl,k2⟩:=(hsl'.out.below hB.out (Nat.le_refl _)).at k hlt
   obtain ⟨g0,g1⟩:=hi'.out (nth xs k) (nth_mem hkx)
   obtain ⟨j,hj⟩:=Int.eq_ofNat_of_zero_le g0
   obtain ⟨q,a1,c1,a2,c2,m,ha⟩:=(h'.out.all Bw.out).look
   have hj1:j<T.nodes.length:=by omega
   have hj2:(j:Int)<T.nodes.length:=by omega
   have k3:wr.cell? ⟨p,1,none⟩=some (.slice a1 T.nodes.length c1):=cell_p ha.blk 1
   obtain ⟨b1,o1,rfl,k4,_⟩:=ha.sortCell hj1
   have hstep:=@hid ((nodeAt T j).sort=nth F.args k→fitsTo T xs F.args (k+1)) (fun e i hi=>by
    by_cases hik:i<k
    ·exact hne.out i hik
    ·obtain rfl:i=k:=by omega
     rw [hj];exact e)
   have hno:=@hid ((nodeAt T j).sort≠nth F.args k→sameSorts T xs F.args=false) (fun e=>by
    cases hss:sameSorts T xs F.args
    ·rfl
    ·exact absurd (by have:=(sameSorts_iff hlf.out).1 hss k hkx;rw [hj] at this;exact this) e)
   rw [hj] at k0
   clear ha g0 g1 hj hne
   generalize (nodeAt T j).sort=z at *
   generalize nth F.args k=y at *
   by_cases hzy:z=y
   ·have hv:=hid (hstep.out hzy)
    subst hzy
    clear hno hstep
    go_wp2
    go_quiet (fail)
    go_wp2
    go_roundw
    case rel=>exact⟨k+1,by omega,by go_num,hv.out,hB.out.drewN _⟩
    case measure=>simp [intOf];omega
   ·have hv:=@hid (callD T nm xs=(0,false)) (by rw [hd3.out,hno.out hzy];rfl)
    have hzy':decide (z=y)=false:=by simpa using hzy
    clear hno hstep
    go_wp2
    go_quiet (fail)
    go_wp2
    go_ret2
    exact⟨by rw [hv.out];rfl,Bw.out.drewN _⟩
  ·have hkn:k=xs.length:=by have:=hlf.out;omega
   have hv:=@hid (callD T nm xs=(F.res,true)) (by rw [hd3.out,if_pos ((sameSorts_iff hlf.out).2 (hkn ▸ hne.out))])
   clear hkn
   go_wp2
   go_ret2
   exact⟨by rw [hv.out];rfl,Bw.out⟩
structure SCtx (B p:Nat) (T:TermD) (a:Option Addr) (n c:Nat) (xs:List Int) (w:World):Prop where
 h:TermX B p T w
 hx:RdI w a n xs
 hn:n<1099511627776
 hnc:n≤c
 hi:InT T xs
 hs:Small T.S
 hnn:T.nums.length=T.nodes.length
def SrtPost (T:TermD) (op:Int) (nm:ByteArray) (xs:List Int) (w:World) (e:Ending) (w':World):Prop:=e = .returned (.tuple #[.int .i64 (sortedD T op nm xs).1,.bool (sortedD T op nm xs).2])∧Below w.heap.size w w'
theorem SrtPost.of {T:TermD} {op:Int} {nm:ByteArray} {xs:List Int} {w w':World} {s:Int} {b:Bool} (h:sortedD T op nm xs=(s,b)) (hb:Below w.heap.size w w'):SrtPost T op nm xs w (.returned (.tuple #[.int .i64 s,.bool b])) w':=⟨by rw [h],hb⟩
theorem SrtPost.of2 {T:TermD} {op:Int} {nm:ByteArray} {xs:List Int} {w w':World} {s:Int} {b b2:Bool} (h:sortedD T op nm xs=(s,b)) (e:b2=b) (hb:Below w.heap.size w w'):SrtPost T op nm xs w (.returned (.tuple #[.int .i64 s,.bool b2])) w':=⟨by rw [h,e],hb⟩
theorem sorted1_any (B p:Nat) (T:TermD) (nm:ByteArray) (a:Option Addr) (n c:Nat) (xs:List Int) (w:World) (H:SCtx B p T a n c xs w) :
  Calls Tryz.prog 87 #[.pointer (some ⟨p,0,none⟩),.int .i64 1,.string nm,.slice a n c] w fun e w'=>SrtPost T 1 nm xs w e w':=by
 have lx:=hid H.hx.len
 have hv:=@hid (sortedD T 1 nm xs=(0,decide (n=0))) (by show(_,_)=_;rw [lx.out])
 have hn:=H.hn
 clear H
 go_enter Tryz.func87,Tryz.ntmps87
 go_wp2
 go_ret2
 exact SrtPost.of2 (b2:=decide ((n:Int)=0)) hv.out (by simp) (Below.refl _ _)
theorem sorted2_any (B p:Nat) (T:TermD) (nm:ByteArray) (a:Option Addr) (n c:Nat) (xs:List Int) (w:World) (H:SCtx B p T a n c xs w) :
  Calls Tryz.prog 87 #[.pointer (some ⟨p,0,none⟩),.int .i64 2,.string nm,.slice a n c] w fun e w'=>SrtPost T 2 nm xs w e w':=by
 have lx:=hid H.hx.len
 have hv:=@hid (sortedD T 2 nm xs=(0,decide (n=0))) (by show(_,_)=_;rw [lx.out])
 have hn:=H.hn
 clear H
 go_enter Tryz.func87,Tryz.ntmps87
 go_wp2
 go_ret2
 exact SrtPost.of2 (b2:=decide ((n:Int)=0)) hv.out (by simp) (Below.refl _ _)
theorem sorted11_any (B p:Nat) (T:TermD) (nm:ByteArray) (a:Option Addr) (n c:Nat) (xs:List Int) (w:World) (H:SCtx B p T a n c xs w) :
  Calls Tryz.prog 87 #[.pointer (some ⟨p,0,none⟩),.int .i64 11,.string nm,.slice a n c] w fun e w'=>SrtPost T 11 nm xs w e w':=by
 have lx:=hid H.hx.len
 have hv:=@hid (sortedD T 11 nm xs=(1,decide (n=0))) (by show(_,_)=_;rw [lx.out])
 have hn:=H.hn
 clear H
 go_enter Tryz.func87,Tryz.ntmps87
 go_wp2
 go_ret2
 exact SrtPost.of2 (b2:=decide ((n:Int)=0)) hv.out (by simp) (Below.refl _ _)
theorem sorted3_any (B p:Nat) (T:TermD) (nm:ByteArray) (a:Option Addr) (n c:Nat) (xs:List Int) (w:World) (H:SCtx B p T a n c xs w) :
  Calls Tryz.prog 87 #[.pointer (some ⟨p,0,none⟩),.int .i64 3,.string nm,.slice a n c] w fun e w'=>SrtPost T 3 nm xs w e w':=by
 have lx:=hid H.hx.len
 have hall:=hid (allT_any B p T a n c xs 0 w H.h H.hx H.hn H.hi)
 have hd:=@hid (sortedD T 3 nm xs=(0,decide (n=1) && allD T xs 0)) (by show(_,_)=_;rw [lx.out])
 have hn:=H.hn
 clear H
 by_cases h1:n=1
 ·have hv:=@hid (sortedD T 3 nm xs=(0,allD T xs 0)) (by rw [hd.out,decide_eq_true h1,Bool.true_and])
  subst h1
  clear hd
  go_enter Tryz.func87,Tryz.ntmps87
  go_wp2_with fail
  refine hall.out.mono ?_;rintro e w1 ⟨rfl,hb⟩
  have hb':=hid hb
  clear hb
  go_wp2
  go_ret2
  exact SrtPost.of hv.out hb'.out
 ·have hv:=@hid (sortedD T 3 nm xs=(0,false)) (by rw [hd.out,decide_eq_false h1,Bool.false_and])
  have h1i:¬(n:Int)=1:=by omega
  have h1d:decide ((n:Int)=1)=false:=by simpa using h1i
  clear hd
  go_enter Tryz.func87,Tryz.ntmps87
  go_wp2
  go_ret2
  exact SrtPost.of hv.out (Below.refl _ _)
theorem sorted4_any (B p:Nat) (T:TermD) (nm:ByteArray) (a:Option Addr) (n c:Nat) (xs:List Int) (w:World) (H:SCtx B p T a n c xs w) :
  Calls Tryz.prog 87 #[.pointer (some ⟨p,0,none⟩),.int .i64 4,.string nm,.slice a n c] w fun e w'=>SrtPost T 4 nm xs w e w':=by
 have lx:=hid H.hx.len
 have hall:=hid (allT_any B p T a n c xs 0 w H.h H.hx H.hn H.hi)
 have hd:=@hid (sortedD T 4 nm xs=(0,decide (2≤n) && allD T xs 0)) (by show(_,_)=_;rw [lx.out])
 have hn:=H.hn
 clear H
 by_cases h1:2≤n
 ·have hv:=@hid (sortedD T 4 nm xs=(0,allD T xs 0)) (by rw [hd.out,decide_eq_true h1,Bool.true_and])
  have h1i:(2:Int)≤n:=by omega
  clear hd
  go_enter Tryz.func87,Tryz.ntmps87
  go_wp2_with fail
  refine hall.out.mono ?_;rintro e w1 ⟨rfl,hb⟩
  have hb':=hid hb
  clear hb
  go_wp2
  go_ret2
  exact SrtPost.of hv.out hb'.out
 ·have hv:=@hid (sortedD T 4 nm xs=(0,false)) (by rw [hd.out,decide_eq_false h1,Bool.false_and])
  have h1i:¬(2:Int)≤n:=by omega
  have h1d:decide ((2:Int)≤n)=false:=by simpa using h1i
  clear hd
  go_enter Tryz.func87,Tryz.ntmps87
  go_wp2
  go_ret2
  exact SrtPost.of hv.out (Below.refl _ _)
theorem sorted5_any (B p:Nat) (T:TermD) (nm:ByteArray) (a:Option Addr) (n c:Nat) (xs:List Int) (w:World) (H:SCtx B p T a n c xs w) :
  Calls Tryz.prog 87 #[.pointer (some ⟨p,0,none⟩),.int .i64 5,.string nm,.slice a n c] w fun e w'=>SrtPost T 5 nm xs w e w':=by
 have lx:=hid H.hx.len
 have hall:=hid (allT_any B p T a n c xs 0 w H.h H.hx H.hn H.hi)
 have hd:=@hid (sortedD T 5 nm xs=(0,decide (2≤n) && allD T xs 0)) (by show(_,_)=_;rw [lx.out])
 have hn:=H.hn
 clear H
 by_cases h1:2≤n
 ·have hv:=@hid (sortedD T 5 nm xs=(0,allD T xs 0)) (by rw [hd.out,decide_eq_true h1,Bool.true_and])
  have h1i:(2:Int)≤n:=by omega
  clear hd
  go_enter Tryz.func87,Tryz.ntmps87
  go_wp2_with fail
  refine hall.out.mono ?_;rintro e w1 ⟨rfl,hb⟩
  have hb':=hid hb
  clear hb
  go_wp2
  go_ret2
  exact SrtPost.of hv.out hb'.out
 ·have hv:=@hid (sortedD T 5 nm xs=(0,false)) (by rw [hd.out,decide_eq_false h1,Bool.false_and])
  have h1i:¬(2:Int)≤n:=by omega
  have h1d:decide ((2:Int)≤n)=false:=by simpa using h1i
  clear hd
  go_enter Tryz.func87,Tryz.ntmps87
  go_wp2
  go_ret2
  exact SrtPost.of hv.out (Below.refl _ _)
theorem sorted6_any (B p:Nat) (T:TermD) (nm:ByteArray) (a:Option Addr) (n c:Nat) (xs:List Int) (w:World) (H:SCtx B p T a n c xs w) :
  Calls Tryz.prog 87 #[.pointer (some ⟨p,0,none⟩),.int .i64 6,.string nm,.slice a n c] w fun e w'=>SrtPost T 6 nm xs w e w':=by
 have lx:=hid H.hx.len
 have hall:=hid (allT_any B p T a n c xs 0 w H.h H.hx H.hn H.hi)
 have hd:=@hid (sortedD T 6 nm xs=(0,decide (2≤n) && allD T xs 0)) (by show(_,_)=_;rw [lx.out])
 have hn:=H.hn
 clear H
 by_cases h1:2≤n
 ·have hv:=@hid (sortedD T 6 nm xs=(0,allD T xs 0)) (by rw [hd.out,decide_eq_true h1,Bool.true_and])
  have h1i:(2:Int)≤n:=by omega
  clear hd
  go_enter Tryz.func87,Tryz.ntmps87
  go_wp2_with fail
  refine hall.out.mono ?_;rintro e w1 ⟨rfl,hb⟩
  have hb':=hid hb
  clear hb
  go_wp2
  go_ret2
  exact SrtPost.of hv.out hb'.out
 ·have hv:=@hid (sortedD T 6 nm xs=(0,false)) (by rw [hd.out,decide_eq_false h1,Bool.false_and])
  have h1i:¬(2:Int)≤n:=by omega
  have h1d:decide ((2:Int)≤n)=false:=by simpa using h1i
  clear hd
  go_enter Tryz.func87,Tryz.ntmps87
  go_wp2
  go_ret2
  exact SrtPost.of hv.out (Below.refl _ _)
theorem sorted7_any (B p:Nat) (T:TermD) (nm:ByteArray) (a:Option Addr) (n c:Nat) (xs:List Int) (w:World) (H:SCtx B p T a n c xs w) :
  Calls Tryz.prog 87 #[.pointer (some ⟨p,0,none⟩),.int .i64 7,.string nm,.slice a n c] w fun e w'=>SrtPost T 7 nm xs w e w':=by
 have lx:=hid H.hx.len
 have hall:=hid (allT_any B p T a n c xs 0 w H.h H.hx H.hn H.hi)
 have hd:=@hid (sortedD T 7 nm xs=(0,decide (2≤n) && allD T xs 0)) (by show(_,_)=_;rw [lx.out])
 have hn:=H.hn
 clear H
 by_cases h1:2≤n
 ·have hv:=@hid (sortedD T 7 nm xs=(0,allD T xs 0)) (by rw [hd.out,decide_eq_true h1,Bool.true_and])
  have h1i:(2:Int)≤n:=by omega
  clear hd
  go_enter Tryz.func87,Tryz.ntmps87
  go_wp2_with fail
  refine hall.out.mono ?_;rintro e w1 ⟨rfl,hb⟩
  have hb':=hid hb
  clear hb
  go_wp2
  go_ret2
  exact SrtPost.of hv.out hb'.out
 ·have hv:=@hid (sortedD T 7 nm xs=(0,false)) (by rw [hd.out,decide_eq_false h1,Bool.false_and])
  have h1i:¬(2:Int)≤n:=by omega
  have h1d:decide ((2:Int)≤n)=false:=by simpa using h1i
  clear hd
  go_enter Tryz.func87,Tryz.ntmps87
  go_wp2
  go_ret2
  exact SrtPost.of hv.out (Below.refl _ _)
theorem sorted8_any (B p:Nat) (T:TermD) (nm:ByteArray) (a:Option Addr) (n c:Nat) (xs:List Int) (w:World) (H:SCtx B p T a n c xs w) :
  Calls Tryz.prog 87 #[.pointer (some ⟨p,0,none⟩),.int .i64 8,.string nm,.slice a n c] w fun e w'=>SrtPost T 8 nm xs w e w':=by
 have hc:=hid (alikeT_any B p T a n c xs w H.h H.hx H.hn H.hi)
 have hv:=@hid (sortedD T 8 nm xs=(0,alikeD T xs)) (by rfl)
 have hn:=H.hn
 clear H
 go_enter Tryz.func87,Tryz.ntmps87
 go_wp2_with fail
 refine hc.out.mono ?_;rintro e w1 ⟨rfl,hb⟩
 have hb':=hid hb
 clear hb
 go_wp2
 go_ret2
 exact SrtPost.of hv.out hb'.out
theorem sorted9_any (B p:Nat) (T:TermD) (nm:ByteArray) (a:Option Addr) (n c:Nat) (xs:List Int) (w:World) (H:SCtx B p T a n c xs w) :
  Calls Tryz.prog 87 #[.pointer (some ⟨p,0,none⟩),.int .i64 9,.string nm,.slice a n c] w fun e w'=>SrtPost T 9 nm xs w e w':=by
 have hc:=hid (alikeT_any B p T a n c xs w H.h H.hx H.hn H.hi)
 have hv:=@hid (sortedD T 9 nm xs=(0,alikeD T xs)) (by rfl)
 have hn:=H.hn
 clear H
 go_enter Tryz.func87,Tryz.ntmps87
 go_wp2_with fail
 refine hc.out.mono ?_;rintro e w1 ⟨rfl,hb⟩
 have hb':=hid hb
 clear hb
 go_wp2
 go_ret2
 exact SrtPost.of hv.out hb'.out
theorem sorted12_any (B p:Nat) (T:TermD) (nm:ByteArray) (a:Option Addr) (n c:Nat) (xs:List Int) (w:World) (H:SCtx B p T a n c xs w) :
  Calls Tryz.prog 87 #[.pointer (some ⟨p,0,none⟩),.int .i64 12,.string nm,.slice a n c] w fun e w'=>SrtPost T 12 nm xs w e w':=by
 have hc:=hid (call_any B p T nm a n c xs w H.h H.hx H.hn H.hi H.hs)
 have hv:=@hid (sortedD T 12 nm xs=((callD T nm xs).1,(callD T nm xs).2)) (by rfl)
 have hn:=H.hn
 clear H
 go_enter Tryz.func87,Tryz.ntmps87
 go_wp2_with fail
 refine hc.out.mono ?_;rintro e w1 ⟨rfl,hb⟩
 have hb':=hid hb
 clear hb
 go_wp2
 go_ret2
 exact SrtPost.of hv.out hb'.out
theorem sorted17_any (B p:Nat) (T:TermD) (nm:ByteArray) (a:Option Addr) (n c:Nat) (xs:List Int) (w:World) (H:SCtx B p T a n c xs w) :
  Calls Tryz.prog 87 #[.pointer (some ⟨p,0,none⟩),.int .i64 17,.string nm,.slice a n c] w fun e w'=>SrtPost T 17 nm xs w e w':=by
 have hc:=hid (numeric_any B p T 17 a n c xs w H.h H.hx H.hn H.hnc H.hi H.hnn)
 have hv:=@hid (sortedD T 17 nm xs=(0,numericD T 17 xs)) (by rfl)
 have hn:=H.hn
 clear H
 go_enter Tryz.func87,Tryz.ntmps87
 go_wp2_with fail
 refine hc.out.mono ?_;rintro e w1 ⟨rfl,hb⟩
 have hb':=hid hb
 clear hb
 go_wp2
 go_ret2
 exact SrtPost.of hv.out hb'.out
theorem sorted18_any (B p:Nat) (T:TermD) (nm:ByteArray) (a:Option Addr) (n c:Nat) (xs:List Int) (w:World) (H:SCtx B p T a n c xs w) :
  Calls Tryz.prog 87 #[.pointer (some ⟨p,0,none⟩),.int .i64 18,.string nm,.slice a n c] w fun e w'=>SrtPost T 18 nm xs w e w':=by
 have hc:=hid (numeric_any B p T 18 a n c xs w H.h H.hx H.hn H.hnc H.hi H.hnn)
 have hv:=@hid (sortedD T 18 nm xs=(0,numericD T 18 xs)) (by rfl)
 have hn:=H.hn
 clear H
 go_enter Tryz.func87,Tryz.ntmps87
 go_wp2_with fail
 refine hc.out.mono ?_;rintro e w1 ⟨rfl,hb⟩
 have hb':=hid hb
 clear hb
 go_wp2
 go_ret2
 exact SrtPost.of hv.out hb'.out
theorem sorted19_any (B p:Nat) (T:TermD) (nm:ByteArray) (a:Option Addr) (n c:Nat) (xs:List Int) (w:World) (H:SCtx B p T a n c xs w) :
  Calls Tryz.prog 87 #[.pointer (some ⟨p,0,none⟩),.int .i64 19,.string nm,.slice a n c] w fun e w'=>SrtPost T 19 nm xs w e w':=by
 have hc:=hid (numeric_any B p T 19 a n c xs w H.h H.hx H.hn H.hnc H.hi H.hnn)
 have hv:=@hid (sortedD T 19 nm xs=(0,numericD T 19 xs)) (by rfl)
 have hn:=H.hn
 clear H
 go_enter Tryz.func87,Tryz.ntmps87
 go_wp2_with fail
 refine hc.out.mono ?_;rintro e w1 ⟨rfl,hb⟩
 have hb':=hid hb
 clear hb
 go_wp2
 go_ret2
 exact SrtPost.of hv.out hb'.out
theorem sorted20_any (B p:Nat) (T:TermD) (nm:ByteArray) (a:Option Addr) (n c:Nat) (xs:List Int) (w:World) (H:SCtx B p T a n c xs w) :
  Calls Tryz.prog 87 #[.pointer (some ⟨p,0,none⟩),.int .i64 20,.string nm,.slice a n c] w fun e w'=>SrtPost T 20 nm xs w e w':=by
 have hc:=hid (numeric_any B p T 20 a n c xs w H.h H.hx H.hn H.hnc H.hi H.hnn)
 have hv:=@hid (sortedD T 20 nm xs=(0,numericD T 20 xs)) (by rfl)
 have hn:=H.hn
 clear H
 go_enter Tryz.func87,Tryz.ntmps87
 go_wp2_with fail
 refine hc.out.mono ?_;rintro e w1 ⟨rfl,hb⟩
 have hb':=hid hb
 clear hb
 go_wp2
 go_ret2
 exact SrtPost.of hv.out hb'.out
theorem sorted13_any (B p:Nat) (T:TermD) (nm:ByteArray) (a:Option Addr) (n c:Nat) (xs:List Int) (w:World) (H:SCtx B p T a n c xs w) :
  Calls Tryz.prog 87 #[.pointer (some ⟨p,0,none⟩),.int .i64 13,.string nm,.slice a n c] w fun e w'=>SrtPost T 13 nm xs w e w':=by
 have hc:=hid (numeric_any B p T 13 a n c xs w H.h H.hx H.hn H.hnc H.hi H.hnn)
 have hv:=@hid (sortedD T 13 nm xs=(1,numericD T 13 xs)) (by rfl)
 have hn:=H.hn
 clear H
 go_enter Tryz.func87,Tryz.ntmps87
 go_wp2_with fail
 refine hc.out.mono ?_;rintro e w1 ⟨rfl,hb⟩
 have hb':=hid hb
 clear hb
 go_wp2
 go_ret2
 exact SrtPost.of hv.out hb'.out
theorem sorted14_any (B p:Nat) (T:TermD) (nm:ByteArray) (a:Option Addr) (n c:Nat) (xs:List Int) (w:World) (H:SCtx B p T a n c xs w) :
  Calls Tryz.prog 87 #[.pointer (some ⟨p,0,none⟩),.int .i64 14,.string nm,.slice a n c] w fun e w'=>SrtPost T 14 nm xs w e w':=by
 have hc:=hid (numeric_any B p T 14 a n c xs w H.h H.hx H.hn H.hnc H.hi H.hnn)
 have hv:=@hid (sortedD T 14 nm xs=(1,numericD T 14 xs)) (by rfl)
 have hn:=H.hn
 clear H
 go_enter Tryz.func87,Tryz.ntmps87
 go_wp2_with fail
 refine hc.out.mono ?_;rintro e w1 ⟨rfl,hb⟩
 have hb':=hid hb
 clear hb
 go_wp2
 go_ret2
 exact SrtPost.of hv.out hb'.out
theorem sorted15_any (B p:Nat) (T:TermD) (nm:ByteArray) (a:Option Addr) (n c:Nat) (xs:List Int) (w:World) (H:SCtx B p T a n c xs w) :
  Calls Tryz.prog 87 #[.pointer (some ⟨p,0,none⟩),.int .i64 15,.string nm,.slice a n c] w fun e w'=>SrtPost T 15 nm xs w e w':=by
 have hc:=hid (numeric_any B p T 15 a n c xs w H.h H.hx H.hn H.hnc H.hi H.hnn)
 have hv:=@hid (sortedD T 15 nm xs=(1,numericD T 15 xs)) (by rfl)
 have hn:=H.hn
 clear H
 go_enter Tryz.func87,Tryz.ntmps87
 go_wp2_with fail
 refine hc.out.mono ?_;rintro e w1 ⟨rfl,hb⟩
 have hb':=hid hb
 clear hb
 go_wp2
 go_ret2
 exact SrtPost.of hv.out hb'.out
theorem sorted16_any (B p:Nat) (T:TermD) (nm:ByteArray) (a:Option Addr) (n c:Nat) (xs:List Int) (w:World) (H:SCtx B p T a n c xs w) :
  Calls Tryz.prog 87 #[.pointer (some ⟨p,0,none⟩),.int .i64 16,.string nm,.slice a n c] w fun e w'=>SrtPost T 16 nm xs w e w':=by
 have hc:=hid (numeric_any B p T 16 a n c xs w H.h H.hx H.hn H.hnc H.hi H.hnn)
 have hv:=@hid (sortedD T 16 nm xs=(1,numericD T 16 xs)) (by rfl)
 have hn:=H.hn
 clear H
 go_enter Tryz.func87,Tryz.ntmps87
 go_wp2_with fail
 refine hc.out.mono ?_;rintro e w1 ⟨rfl,hb⟩
 have hb':=hid hb
 clear hb
 go_wp2
 go_ret2
 exact SrtPost.of hv.out hb'.out
end Go.Proofs.YtgoojkiccdjplaaGreatDoor
