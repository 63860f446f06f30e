/-
  Parts of this claim's texts, one behind the other: CG CH. No condition.
-/
import Derived.Test.YtgoojkiccdjplaaGreatDoorM23
set_option linter.unusedVariables false
set_option linter.unusedSimpArgs false
set_option maxRecDepth 100000
set_option maxHeartbeats 16000000
namespace Go.Proofs.YtgoojkiccdjplaaGreatDoor
open Go.RowKit Go.Sort Go.Lib
structure RCtx (X:Nat→Prop) (Bq q r:Nat) (T:TermD) (a:Option Addr) (n c:Nat) (xs:List Int) (w:World):Prop where
 h:RRd r T.nodes w
 cq:w.cell? ⟨r,0,none⟩=some (.pointer (some ⟨q,0,none⟩))
 sq:RefX X Bq q T.S w
 hx:RdI w a n xs
 hn:n≤64
 hi:InT T xs
 hs:Small T.S
 nu:NumInv T
 ord:OrdT T
 le:T.nodes.length≤16384
 sn:SmN T
def RSrtPost (T:TermD) (op:Int) (nm:ByteArray) (xs:List Int) (w:World) (e:Ending) (w':World):Prop:=∃s,e = .returned (.tuple #[.int .i64 s,.bool (sortedD T op nm xs).2])∧((sortedD T op nm xs).2=true→s=(sortedD T op nm xs).1)∧Below w.heap.size w w'
theorem RSrtPost.of {T:TermD} {op:Int} {nm:ByteArray} {xs:List Int} {w w':World} {s:Int} {b:Bool} (h:sortedD T op nm xs=(s,b)) (hb:Below w.heap.size w w'):RSrtPost T op nm xs w (.returned (.tuple #[.int .i64 s,.bool b])) w':=⟨s,by rw [h],fun _=>by rw [h],hb⟩
theorem RSrtPost.of2 {T:TermD} {op:Int} {nm:ByteArray} {xs:List Int} {w w':World} {s:Int} {b b2:Bool} (h:sortedD T op nm xs=(s,b)) (e:b2=b) (hb:Below w.heap.size w w'):RSrtPost T op nm xs w (.returned (.tuple #[.int .i64 s,.bool b2])) w':=by subst e;exact .of h hb
theorem RSrtPost.no {T:TermD} {op:Int} {nm:ByteArray} {xs:List Int} {w w':World} {s:Int} (h:(sortedD T op nm xs).2=false) (hb:Below w.heap.size w w'):RSrtPost T op nm xs w (.returned (.tuple #[.int .i64 s,.bool false])) w':=⟨s,by rw [h],fun e=>(by rw [h] at e;cases e),hb⟩
theorem RRd.len {r:Nat} {M:List NodeD} {w:World} (h:RRd r M w):∃aL cL,w.cell? ⟨r,1,none⟩=some (.slice aL M.length cL)∧SlR repN (fun _=>True) w aL M.length M:=by
 obtain ⟨pq,aL,cL,f,h1,h2⟩:=h
 exact⟨aL,cL,cell_p h1 1,h2⟩
theorem RRd.sortCell {r:Nat} {T:TermD} {w:World} (h:RRd r T.nodes w) {k:Nat} (hk:k<T.nodes.length):∃b o cL,w.cell? ⟨r,1,none⟩=some (.slice (some ⟨b,o,none⟩) T.nodes.length cL)∧w.cell? ⟨b,o+k * 7+6,none⟩=some (.int .i64 (nodeAt T k).sort):=by
 obtain ⟨aL,cL,h1,h2⟩:=h.len
 obtain ⟨b,o,_,_,_,_,_,_,rfl,_,hc⟩:=h2.nodeAt (nodeAt_nat hk)
 exact⟨b,o,cL,h1,hc 6 _ rfl⟩
variable {X : Nat → Prop} {Bq q r : Nat}
theorem rsort1_any (T:TermD) (nm:ByteArray) (a:Option Addr) (n c:Nat) (xs:List Int) (w:World) (H:RCtx X Bq q r T a n c xs w) :
  Calls Tryz.prog 117 #[.pointer (some ⟨r,0,none⟩),.int .i64 1,.string nm,.slice a n c] w fun e w'=>RSrtPost T 1 nm xs w e w':=by
 have lx:=hid H.hx.len
 have hv:=@hid (sortedD T 1 nm xs=(0,decide (n=0))) (by show(_,_)=_;rw [lx.out])
 have hn:=H.hn
 clear H
 go_enter Tryz.func117,Tryz.ntmps117
 go_wp2
 go_ret2
 exact RSrtPost.of2 (b2:=decide ((n:Int)=0)) hv.out (by simp) (Below.refl _ _)
theorem rsort2_any (T:TermD) (nm:ByteArray) (a:Option Addr) (n c:Nat) (xs:List Int) (w:World) (H:RCtx X Bq q r T a n c xs w) :
  Calls Tryz.prog 117 #[.pointer (some ⟨r,0,none⟩),.int .i64 2,.string nm,.slice a n c] w fun e w'=>RSrtPost T 2 nm xs w e w':=by
 have lx:=hid H.hx.len
 have hv:=@hid (sortedD T 2 nm xs=(0,decide (n=0))) (by show(_,_)=_;rw [lx.out])
 have hn:=H.hn
 clear H
 go_enter Tryz.func117,Tryz.ntmps117
 go_wp2
 go_ret2
 exact RSrtPost.of2 (b2:=decide ((n:Int)=0)) hv.out (by simp) (Below.refl _ _)
theorem rsort11_any (T:TermD) (nm:ByteArray) (a:Option Addr) (n c:Nat) (xs:List Int) (w:World) (H:RCtx X Bq q r T a n c xs w) :
  Calls Tryz.prog 117 #[.pointer (some ⟨r,0,none⟩),.int .i64 11,.string nm,.slice a n c] w fun e w'=>RSrtPost T 11 nm xs w e w':=by
 have lx:=hid H.hx.len
 have hv:=@hid (sortedD T 11 nm xs=(1,decide (n=0))) (by show(_,_)=_;rw [lx.out])
 have hn:=H.hn
 clear H
 go_enter Tryz.func117,Tryz.ntmps117
 go_wp2
 go_ret2
 exact RSrtPost.of2 (b2:=decide ((n:Int)=0)) hv.out (by simp) (Below.refl _ _)
theorem rsort3_any (T:TermD) (nm:ByteArray) (a:Option Addr) (n c:Nat) (xs:List Int) (w:World) (H:RCtx X Bq q r T a n c xs w) :
  Calls Tryz.prog 117 #[.pointer (some ⟨r,0,none⟩),.int .i64 3,.string nm,.slice a n c] w fun e w'=>RSrtPost T 3 nm xs w e w':=by
 have lx:=hid H.hx.len
 have hall:=hid (rall_any r T a n c xs 0 w H.h H.hx (by have:=H.hn;omega) H.hi)
 have hd:=@hid (sortedD T 3 nm xs=(0,decide (n=1) && allD T xs 0)) (by show(_,_)=_;rw [lx.out])
 have hn:=H.hn
 clear H
 by_cases h1:n=1
 ·have hv:=@hid (sortedD T 3 nm xs=(0,allD T xs 0)) (by rw [hd.out,decide_eq_true h1,Bool.true_and])
  subst h1
  clear hd
  go_enter Tryz.func117,Tryz.ntmps117
  go_wp2_with fail
  refine hall.out.mono ?_;rintro e w1 ⟨rfl,qn,hw⟩
  have hb':=hid (show Below w.heap.size w w1 from by rw [hw];exact(Below.refl _ _).drewN qn)
  clear hw
  go_wp2
  go_ret2
  exact RSrtPost.of hv.out hb'.out
 ·have hv:=@hid (sortedD T 3 nm xs=(0,false)) (by rw [hd.out,decide_eq_false h1,Bool.false_and])
  have h1i:¬(n:Int)=1:=by omega
  have h1d:decide ((n:Int)=1)=false:=by simpa using h1i
  clear hd
  go_enter Tryz.func117,Tryz.ntmps117
  go_wp2
  go_ret2
  exact RSrtPost.of hv.out (Below.refl _ _)
theorem rsort4_any (T:TermD) (nm:ByteArray) (a:Option Addr) (n c:Nat) (xs:List Int) (w:World) (H:RCtx X Bq q r T a n c xs w) :
  Calls Tryz.prog 117 #[.pointer (some ⟨r,0,none⟩),.int .i64 4,.string nm,.slice a n c] w fun e w'=>RSrtPost T 4 nm xs w e w':=by
 have lx:=hid H.hx.len
 have hall:=hid (rall_any r T a n c xs 0 w H.h H.hx (by have:=H.hn;omega) H.hi)
 have hd:=@hid (sortedD T 4 nm xs=(0,decide (2≤n) && allD T xs 0)) (by show(_,_)=_;rw [lx.out])
 have hn:=H.hn
 clear H
 by_cases h1:2≤n
 ·have hv:=@hid (sortedD T 4 nm xs=(0,allD T xs 0)) (by rw [hd.out,decide_eq_true h1,Bool.true_and])
  have h1i:(2:Int)≤n:=by omega
  clear hd
  go_enter Tryz.func117,Tryz.ntmps117
  go_wp2_with fail
  refine hall.out.mono ?_;rintro e w1 ⟨rfl,qn,hw⟩
  have hb':=hid (show Below w.heap.size w w1 from by rw [hw];exact(Below.refl _ _).drewN qn)
  clear hw
  go_wp2
  go_ret2
  exact RSrtPost.of hv.out hb'.out
 ·have hv:=@hid (sortedD T 4 nm xs=(0,false)) (by rw [hd.out,decide_eq_false h1,Bool.false_and])
  have h1i:¬(2:Int)≤n:=by omega
  have h1d:decide ((2:Int)≤n)=false:=by simpa using h1i
  clear hd
  go_enter Tryz.func117,Tryz.ntmps117
  go_wp2
  go_ret2
  exact RSrtPost.of hv.out (Below.refl _ _)
theorem rsort5_any (T:TermD) (nm:ByteArray) (a:Option Addr) (n c:Nat) (xs:List Int) (w:World) (H:RCtx X Bq q r T a n c xs w) :
  Calls Tryz.prog 117 #[.pointer (some ⟨r,0,none⟩),.int .i64 5,.string nm,.slice a n c] w fun e w'=>RSrtPost T 5 nm xs w e w':=by
 have lx:=hid H.hx.len
 have hall:=hid (rall_any r T a n c xs 0 w H.h H.hx (by have:=H.hn;omega) H.hi)
 have hd:=@hid (sortedD T 5 nm xs=(0,decide (2≤n) && allD T xs 0)) (by show(_,_)=_;rw [lx.out])
 have hn:=H.hn
 clear H
 by_cases h1:2≤n
 ·have hv:=@hid (sortedD T 5 nm xs=(0,allD T xs 0)) (by rw [hd.out,decide_eq_true h1,Bool.true_and])
  have h1i:(2:Int)≤n:=by omega
  clear hd
  go_enter Tryz.func117,Tryz.ntmps117
  go_wp2_with fail
  refine hall.out.mono ?_;rintro e w1 ⟨rfl,qn,hw⟩
  have hb':=hid (show Below w.heap.size w w1 from by rw [hw];exact(Below.refl _ _).drewN qn)
  clear hw
  go_wp2
  go_ret2
  exact RSrtPost.of hv.out hb'.out
 ·have hv:=@hid (sortedD T 5 nm xs=(0,false)) (by rw [hd.out,decide_eq_false h1,Bool.false_and])
  have h1i:¬(2:Int)≤n:=by omega
  have h1d:decide ((2:Int)≤n)=false:=by simpa using h1i
  clear hd
  go_enter Tryz.func117,Tryz.ntmps117
  go_wp2
  go_ret2
  exact RSrtPost.of hv.out (Below.refl _ _)
theorem rsort6_any (T:TermD) (nm:ByteArray) (a:Option Addr) (n c:Nat) (xs:List Int) (w:World) (H:RCtx X Bq q r T a n c xs w) :
  Calls Tryz.prog 117 #[.pointer (some ⟨r,0,none⟩),.int .i64 6,.string nm,.slice a n c] w fun e w'=>RSrtPost T 6 nm xs w e w':=by
 have lx:=hid H.hx.len
 have hall:=hid (rall_any r T a n c xs 0 w H.h H.hx (by have:=H.hn;omega) H.hi)
 have hd:=@hid (sortedD T 6 nm xs=(0,decide (2≤n) && allD T xs 0)) (by show(_,_)=_;rw [lx.out])
 have hn:=H.hn
 clear H
 by_cases h1:2≤n
 ·have hv:=@hid (sortedD T 6 nm xs=(0,allD T xs 0)) (by rw [hd.out,decide_eq_true h1,Bool.true_and])
  have h1i:(2:Int)≤n:=by omega
  clear hd
  go_enter Tryz.func117,Tryz.ntmps117
  go_wp2_with fail
  refine hall.out.mono ?_;rintro e w1 ⟨rfl,qn,hw⟩
  have hb':=hid (show Below w.heap.size w w1 from by rw [hw];exact(Below.refl _ _).drewN qn)
  clear hw
  go_wp2
  go_ret2
  exact RSrtPost.of hv.out hb'.out
 ·have hv:=@hid (sortedD T 6 nm xs=(0,false)) (by rw [hd.out,decide_eq_false h1,Bool.false_and])
  have h1i:¬(2:Int)≤n:=by omega
  have h1d:decide ((2:Int)≤n)=false:=by simpa using h1i
  clear hd
  go_enter Tryz.func117,Tryz.ntmps117
  go_wp2
  go_ret2
  exact RSrtPost.of hv.out (Below.refl _ _)
theorem rsort7_any (T:TermD) (nm:ByteArray) (a:Option Addr) (n c:Nat) (xs:List Int) (w:World) (H:RCtx X Bq q r T a n c xs w) :
  Calls Tryz.prog 117 #[.pointer (some ⟨r,0,none⟩),.int .i64 7,.string nm,.slice a n c] w fun e w'=>RSrtPost T 7 nm xs w e w':=by
 have lx:=hid H.hx.len
 have hall:=hid (rall_any r T a n c xs 0 w H.h H.hx (by have:=H.hn;omega) H.hi)
 have hd:=@hid (sortedD T 7 nm xs=(0,decide (2≤n) && allD T xs 0)) (by show(_,_)=_;rw [lx.out])
 have hn:=H.hn
 clear H
 by_cases h1:2≤n
 ·have hv:=@hid (sortedD T 7 nm xs=(0,allD T xs 0)) (by rw [hd.out,decide_eq_true h1,Bool.true_and])
  have h1i:(2:Int)≤n:=by omega
  clear hd
  go_enter Tryz.func117,Tryz.ntmps117
  go_wp2_with fail
  refine hall.out.mono ?_;rintro e w1 ⟨rfl,qn,hw⟩
  have hb':=hid (show Below w.heap.size w w1 from by rw [hw];exact(Below.refl _ _).drewN qn)
  clear hw
  go_wp2
  go_ret2
  exact RSrtPost.of hv.out hb'.out
 ·have hv:=@hid (sortedD T 7 nm xs=(0,false)) (by rw [hd.out,decide_eq_false h1,Bool.false_and])
  have h1i:¬(2:Int)≤n:=by omega
  have h1d:decide ((2:Int)≤n)=false:=by simpa using h1i
  clear hd
  go_enter Tryz.func117,Tryz.ntmps117
  go_wp2
  go_ret2
  exact RSrtPost.of hv.out (Below.refl _ _)
theorem rsort17_any (T:TermD) (nm:ByteArray) (a:Option Addr) (n c:Nat) (xs:List Int) (w:World) (H:RCtx X Bq q r T a n c xs w) :
  Calls Tryz.prog 117 #[.pointer (some ⟨r,0,none⟩),.int .i64 17,.string nm,.slice a n c] w fun e w'=>RSrtPost T 17 nm xs w e w':=by
 have lx:=hid H.hx.len
 have hall:=hid (rall_any r T a n c xs 1 w H.h H.hx (by have:=H.hn;omega) H.hi)
 have hd:=@hid (sortedD T 17 nm xs=(0,decide (2≤n) && allD T xs 1)) (by
  rw [←lx.out]
  show(_,numericD T 17 xs)=_
  unfold numericD leastD
  by_cases hl:2≤xs.length
  ·rw [if_neg (by simp;omega),decide_eq_true hl,Bool.true_and]
   cases allD T xs 1 <;> rfl
  ·rw [if_pos (by simp;omega),decide_eq_false hl];rfl)
 have hn:=H.hn
 clear H
 by_cases h1:2≤n
 ·have hv:=@hid (sortedD T 17 nm xs=(0,allD T xs 1)) (by rw [hd.out,decide_eq_true h1,Bool.true_and])
  have h1i:(2:Int)≤n:=by omega
  clear hd
  go_enter Tryz.func117,Tryz.ntmps117
  go_wp2_with fail
  refine hall.out.mono ?_;rintro e w1 ⟨rfl,qn,hw⟩
  have hb':=hid (show Below w.heap.size w w1 from by rw [hw];exact(Below.refl _ _).drewN qn)
  clear hw
  go_wp2
  go_ret2
  exact RSrtPost.of hv.out hb'.out
 ·have hv:=@hid (sortedD T 17 nm xs=(0,false)) (by rw [hd.out,decide_eq_false h1,Bool.false_and])
  have h1i:¬(2:Int)≤n:=by omega
  have h1d:decide ((2:Int)≤n)=false:=by simpa using h1i
  clear hd
  go_enter Tryz.func117,Tryz.ntmps117
  go_wp2
  go_ret2
  exact RSrtPost.of hv.out (Below.refl _ _)
theorem rsort18_any (T:TermD) (nm:ByteArray) (a:Option Addr) (n c:Nat) (xs:List Int) (w:World) (H:RCtx X Bq q r T a n c xs w) :
  Calls Tryz.prog 117 #[.pointer (some ⟨r,0,none⟩),.int .i64 18,.string nm,.slice a n c] w fun e w'=>RSrtPost T 18 nm xs w e w':=by
 have lx:=hid H.hx.len
 have hall:=hid (rall_any r T a n c xs 1 w H.h H.hx (by have:=H.hn;omega) H.hi)
 have hd:=@hid (sortedD T 18 nm xs=(0,decide (2≤n) && allD T xs 1)) (by
  rw [←lx.out]
  show(_,numericD T 18 xs)=_
  unfold numericD leastD
  by_cases hl:2≤xs.length
  ·rw [if_neg (by simp;omega),decide_eq_true hl,Bool.true_and]
   cases allD T xs 1 <;> rfl
  ·rw [if_pos (by simp;omega),decide_eq_false hl];rfl)
 have hn:=H.hn
 clear H
 by_cases h1:2≤n
 ·have hv:=@hid (sortedD T 18 nm xs=(0,allD T xs 1)) (by rw [hd.out,decide_eq_true h1,Bool.true_and])
  have h1i:(2:Int)≤n:=by omega
  clear hd
  go_enter Tryz.func117,Tryz.ntmps117
  go_wp2_with fail
  refine hall.out.mono ?_;rintro e w1 ⟨rfl,qn,hw⟩
  have hb':=hid (show Below w.heap.size w w1 from by rw [hw];exact(Below.refl _ _).drewN qn)
  clear hw
  go_wp2
  go_ret2
  exact RSrtPost.of hv.out hb'.out
 ·have hv:=@hid (sortedD T 18 nm xs=(0,false)) (by rw [hd.out,decide_eq_false h1,Bool.false_and])
  have h1i:¬(2:Int)≤n:=by omega
  have h1d:decide ((2:Int)≤n)=false:=by simpa using h1i
  clear hd
  go_enter Tryz.func117,Tryz.ntmps117
  go_wp2
  go_ret2
  exact RSrtPost.of hv.out (Below.refl _ _)
theorem rsort19_any (T:TermD) (nm:ByteArray) (a:Option Addr) (n c:Nat) (xs:List Int) (w:World) (H:RCtx X Bq q r T a n c xs w) :
  Calls Tryz.prog 117 #[.pointer (some ⟨r,0,none⟩),.int .i64 19,.string nm,.slice a n c] w fun e w'=>RSrtPost T 19 nm xs w e w':=by
 have lx:=hid H.hx.len
 have hall:=hid (rall_any r T a n c xs 1 w H.h H.hx (by have:=H.hn;omega) H.hi)
 have hd:=@hid (sortedD T 19 nm xs=(0,decide (2≤n) && allD T xs 1)) (by
  rw [←lx.out]
  show(_,numericD T 19 xs)=_
  unfold numericD leastD
  by_cases hl:2≤xs.length
  ·rw [if_neg (by simp;omega),decide_eq_true hl,Bool.true_and]
   cases allD T xs 1 <;> rfl
  ·rw [if_pos (by simp;omega),decide_eq_false hl];rfl)
 have hn:=H.hn
 clear H
 by_cases h1:2≤n
 ·have hv:=@hid (sortedD T 19 nm xs=(0,allD T xs 1)) (by rw [hd.out,decide_eq_true h1,Bool.true_and])
  have h1i:(2:Int)≤n:=by omega
  clear hd
  go_enter Tryz.func117,Tryz.ntmps117
  go_wp2_with fail
  refine hall.out.mono ?_;rintro e w1 ⟨rfl,qn,hw⟩
  have hb':=hid (show Below w.heap.size w w1 from by rw [hw];exact(Below.refl _ _).drewN qn)
  clear hw
  go_wp2
  go_ret2
  exact RSrtPost.of hv.out hb'.out
 ·have hv:=@hid (sortedD T 19 nm xs=(0,false)) (by rw [hd.out,decide_eq_false h1,Bool.false_and])
  have h1i:¬(2:Int)≤n:=by omega
  have h1d:decide ((2:Int)≤n)=false:=by simpa using h1i
  clear hd
  go_enter Tryz.func117,Tryz.ntmps117
  go_wp2
  go_ret2
  exact RSrtPost.of hv.out (Below.refl _ _)
theorem rsort20_any (T:TermD) (nm:ByteArray) (a:Option Addr) (n c:Nat) (xs:List Int) (w:World) (H:RCtx X Bq q r T a n c xs w) :
  Calls Tryz.prog 117 #[.pointer (some ⟨r,0,none⟩),.int .i64 20,.string nm,.slice a n c] w fun e w'=>RSrtPost T 20 nm xs w e w':=by
 have lx:=hid H.hx.len
 have hall:=hid (rall_any r T a n c xs 1 w H.h H.hx (by have:=H.hn;omega) H.hi)
 have hd:=@hid (sortedD T 20 nm xs=(0,decide (2≤n) && allD T xs 1)) (by
  rw [←lx.out]
  show(_,numericD T 20 xs)=_
  unfold numericD leastD
  by_cases hl:2≤xs.length
  ·rw [if_neg (by simp;omega),decide_eq_true hl,Bool.true_and]
   cases allD T xs 1 <;> rfl
  ·rw [if_pos (by simp;omega),decide_eq_false hl];rfl)
 have hn:=H.hn
 clear H
 by_cases h1:2≤n
 ·have hv:=@hid (sortedD T 20 nm xs=(0,allD T xs 1)) (by rw [hd.out,decide_eq_true h1,Bool.true_and])
  have h1i:(2:Int)≤n:=by omega
  clear hd
  go_enter Tryz.func117,Tryz.ntmps117
  go_wp2_with fail
  refine hall.out.mono ?_;rintro e w1 ⟨rfl,qn,hw⟩
  have hb':=hid (show Below w.heap.size w w1 from by rw [hw];exact(Below.refl _ _).drewN qn)
  clear hw
  go_wp2
  go_ret2
  exact RSrtPost.of hv.out hb'.out
 ·have hv:=@hid (sortedD T 20 nm xs=(0,false)) (by rw [hd.out,decide_eq_false h1,Bool.false_and])
  have h1i:¬(2:Int)≤n:=by omega
  have h1d:decide ((2:Int)≤n)=false:=by simpa using h1i
  clear hd
  go_enter Tryz.func117,Tryz.ntmps117
  go_wp2
  go_ret2
  exact RSrtPost.of hv.out (Below.refl _ _)
theorem rsort13_any (T:TermD) (nm:ByteArray) (a:Option Addr) (n c:Nat) (xs:List Int) (w:World) (H:RCtx X Bq q r T a n c xs w) :
  Calls Tryz.prog 117 #[.pointer (some ⟨r,0,none⟩),.int .i64 13,.string nm,.slice a n c] w fun e w'=>RSrtPost T 13 nm xs w e w':=by
 have lx:=hid H.hx.len
 have hall:=hid (rall_any r T a n c xs 1 w H.h H.hx (by have:=H.hn;omega) H.hi)
 have hd:=@hid (sortedD T 13 nm xs=(1,decide (2≤n) && allD T xs 1)) (by
  rw [←lx.out]
  show(_,numericD T 13 xs)=_
  unfold numericD leastD
  by_cases hl:2≤xs.length
  ·rw [if_neg (by simp;omega),decide_eq_true hl,Bool.true_and]
   cases allD T xs 1 <;> rfl
  ·rw [if_pos (by simp;omega),decide_eq_false hl];rfl)
 have hn:=H.hn
 clear H
 by_cases h1:2≤n
 ·have hv:=@hid (sortedD T 13 nm xs=(1,allD T xs 1)) (by rw [hd.out,decide_eq_true h1,Bool.true_and])
  have h1i:(2:Int)≤n:=by omega
  clear hd
  go_enter Tryz.func117,Tryz.ntmps117
  go_wp2_with fail
  refine hall.out.mono ?_;rintro e w1 ⟨rfl,qn,hw⟩
  have hb':=hid (show Below w.heap.size w w1 from by rw [hw];exact(Below.refl _ _).drewN qn)
  clear hw
  go_wp2
  go_ret2
  exact RSrtPost.of hv.out hb'.out
 ·have hv:=@hid (sortedD T 13 nm xs=(1,false)) (by rw [hd.out,decide_eq_false h1,Bool.false_and])
  have h1i:¬(2:Int)≤n:=by omega
  have h1d:decide ((2:Int)≤n)=false:=by simpa using h1i
  clear hd
  go_enter Tryz.func117,Tryz.ntmps117
  go_wp2
  go_ret2
  exact RSrtPost.of hv.out (Below.refl _ _)
theorem rsort14_any (T:TermD) (nm:ByteArray) (a:Option Addr) (n c:Nat) (xs:List Int) (w:World) (H:RCtx X Bq q r T a n c xs w) :
  Calls Tryz.prog 117 #[.pointer (some ⟨r,0,none⟩),.int .i64 14,.string nm,.slice a n c] w fun e w'=>RSrtPost T 14 nm xs w e w':=by
 have lx:=hid H.hx.len
 have hall:=hid (rall_any r T a n c xs 1 w H.h H.hx (by have:=H.hn;omega) H.hi)
 have hd:=@hid (sortedD T 14 nm xs=(1,decide (1≤n) && allD T xs 1)) (by
  rw [←lx.out]
  show(_,numericD T 14 xs)=_
  unfold numericD leastD
  by_cases hl:1≤xs.length
  ·rw [if_neg (by simp;omega),decide_eq_true hl,Bool.true_and]
   cases allD T xs 1 <;> rfl
  ·rw [if_pos (by simp;omega),decide_eq_false hl];rfl)
 have hn:=H.hn
 clear H
 by_cases h1:1≤n
 ·have hv:=@hid (sortedD T 14 nm xs=(1,allD T xs 1)) (by rw [hd.out,decide_eq_true h1,Bool.true_and])
  have h1i:(1:Int)≤n:=by omega
  clear hd
  go_enter Tryz.func117,Tryz.ntmps117
  go_wp2_with fail
  refine hall.out.mono ?_;rintro e w1 ⟨rfl,qn,hw⟩
  have hb':=hid (show Below w.heap.size w w1 from by rw [hw];exact(Below.refl _ _).drewN qn)
  clear hw
  go_wp2
  go_ret2
  exact RSrtPost.of hv.out hb'.out
 ·have hv:=@hid (sortedD T 14 nm xs=(1,false)) (by rw [hd.out,decide_eq_false h1,Bool.false_and])
  have h1i:¬(1:Int)≤n:=by omega
  have h1d:decide ((1:Int)≤n)=false:=by simpa using h1i
  clear hd
  go_enter Tryz.func117,Tryz.ntmps117
  go_wp2
  go_ret2
  exact RSrtPost.of hv.out (Below.refl _ _)
theorem rsort8_any (T:TermD) (nm:ByteArray) (a:Option Addr) (n c:Nat) (xs:List Int) (w:World) (H:RCtx X Bq q r T a n c xs w) :
  Calls Tryz.prog 117 #[.pointer (some ⟨r,0,none⟩),.int .i64 8,.string nm,.slice a n c] w fun e w'=>RSrtPost T 8 nm xs w e w':=by
 have lx:=hid H.hx.len
 have hd:=@hid (sortedD T 8 nm xs=(0,decide (2≤n) && allD T xs (nodeAt T (nth xs 0)).sort)) (by rw [←lx.out];rfl)
 have hn:=H.hn
 by_cases h1:2≤n
 ·have hv:=@hid (sortedD T 8 nm xs=(0,allD T xs (nodeAt T (nth xs 0)).sort)) (by rw [hd.out,decide_eq_true h1,Bool.true_and])
  have h1i:(2:Int)≤n:=by omega
  have hall:=hid (fun W (hW:Below w.heap.size w W)=>rall_any r T a n c xs (nodeAt T (nth xs 0)).sort W (H.h.all hW) (H.hx.below hW (Nat.le_refl _)) (by omega) H.hi)
  obtain ⟨b,o,rfl,k0⟩:=H.hx.at 0 (by omega)
  rw [Nat.add_zero] at k0
  obtain ⟨g0,g1⟩:=H.hi (nth xs 0) (nth_mem (by rw [lx.out];omega))
  obtain ⟨k,hk⟩:=Int.eq_ofNat_of_zero_le g0
  rw [hk] at k0 g1 hv hall
  have hkn:k<T.nodes.length:=by omega
  have hki:(k:Int)<T.nodes.length:=g1
  have hn0:(0:Int)<n:=by omega
  have hn1:0<n:=by omega
  have hkn2:=hkn
  obtain ⟨b1,o1,cL,k1,k2⟩:=H.h.sortCell hkn
  clear H hd hk g0
  generalize (nodeAt T k).sort=z at *
  go_enter Tryz.func117,Tryz.ntmps117
  go_wp2
  go_quiet ((go_at_call 164;exact Calls.quiet_of (hall.out _ ((Below.refl _ _).drewN _))))
  go_wp2
  go_ret2
  exact RSrtPost.of hv.out ((Below.refl _ _).drewN _)
 ·have hv:=@hid (sortedD T 8 nm xs=(0,false)) (by rw [hd.out,decide_eq_false h1,Bool.false_and])
  have h1i:¬(2:Int)≤n:=by omega
  have h1d:decide ((2:Int)≤n)=false:=by simpa using h1i
  clear hd H
  go_enter Tryz.func117,Tryz.ntmps117
  go_wp2
  go_quiet (fail)
  go_wp2
  go_ret2
  exact RSrtPost.of hv.out ((Below.refl _ _).drewN _)
theorem rsort9_any (T:TermD) (nm:ByteArray) (a:Option Addr) (n c:Nat) (xs:List Int) (w:World) (H:RCtx X Bq q r T a n c xs w) :
  Calls Tryz.prog 117 #[.pointer (some ⟨r,0,none⟩),.int .i64 9,.string nm,.slice a n c] w fun e w'=>RSrtPost T 9 nm xs w e w':=by
 have lx:=hid H.hx.len
 have hd:=@hid (sortedD T 9 nm xs=(0,decide (2≤n) && allD T xs (nodeAt T (nth xs 0)).sort)) (by rw [←lx.out];rfl)
 have hn:=H.hn
 by_cases h1:2≤n
 ·have hv:=@hid (sortedD T 9 nm xs=(0,allD T xs (nodeAt T (nth xs 0)).sort)) (by rw [hd.out,decide_eq_true h1,Bool.true_and])
  have h1i:(2:Int)≤n:=by omega
  have hall:=hid (fun W (hW:Below w.heap.size w W)=>rall_any r T a n c xs (nodeAt T (nth xs 0)).sort W (H.h.all hW) (H.hx.below hW (Nat.le_refl _)) (by omega) H.hi)
  obtain ⟨b,o,rfl,k0⟩:=H.hx.at 0 (by omega)
  rw [Nat.add_zero] at k0
  obtain ⟨g0,g1⟩:=H.hi (nth xs 0) (nth_mem (by rw [lx.out];omega))
  obtain ⟨k,hk⟩:=Int.eq_ofNat_of_zero_le g0
  rw [hk] at k0 g1 hv hall
  have hkn:k<T.nodes.length:=by omega
  have hki:(k:Int)<T.nodes.length:=g1
  have hn0:(0:Int)<n:=by omega
  have hn1:0<n:=by omega
  have hkn2:=hkn
  obtain ⟨b1,o1,cL,k1,k2⟩:=H.h.sortCell hkn
  clear H hd hk g0
  generalize (nodeAt T k).sort=z at *
  go_enter Tryz.func117,Tryz.ntmps117
  go_wp2
  go_quiet ((go_at_call 164;exact Calls.quiet_of (hall.out _ ((Below.refl _ _).drewN _))))
  go_wp2
  go_ret2
  exact RSrtPost.of hv.out ((Below.refl _ _).drewN _)
 ·have hv:=@hid (sortedD T 9 nm xs=(0,false)) (by rw [hd.out,decide_eq_false h1,Bool.false_and])
  have h1i:¬(2:Int)≤n:=by omega
  have h1d:decide ((2:Int)≤n)=false:=by simpa using h1i
  clear hd H
  go_enter Tryz.func117,Tryz.ntmps117
  go_wp2
  go_quiet (fail)
  go_wp2
  go_ret2
  exact RSrtPost.of hv.out ((Below.refl _ _).drewN _)
variable {X : Nat → Prop} {Bq q r : Nat}
theorem RCtx.idAt {T:TermD} {a:Option Addr} {n c:Nat} {xs:List Int} {w:World} (H:RCtx X Bq q r T a n c xs w) {i:Nat} (hi:i<n):∃j:Nat,nth xs i=(j:Int)∧j<T.nodes.length:=by
 obtain ⟨g0,g1⟩:=H.hi (nth xs i) (nth_mem (by rw [H.hx.len];exact hi))
 obtain ⟨j,hj⟩:=Int.eq_ofNat_of_zero_le g0
 exact⟨j,hj,by omega⟩
theorem rsort10_any (T:TermD) (nm:ByteArray) (a:Option Addr) (n c:Nat) (xs:List Int) (w:World) (H:RCtx X Bq q r T a n c xs w) :
  Calls Tryz.prog 117 #[.pointer (some ⟨r,0,none⟩),.int .i64 10,.string nm,.slice a n c] w fun e w'=>RSrtPost T 10 nm xs w e w':=by
 have lx:=H.hx.len
 have hd:=@hid (sortedD T 10 nm xs=iteD T xs) rfl
 by_cases h3:n=3
 case neg=>
  have hv:=@hid (sortedD T 10 nm xs=(0,false)) (by rw [hd.out];unfold iteD;rw [if_neg (by rw [lx];intro e;exact h3 e.1)])
  have h3i:¬(n:Int)=3:=by omega
  have h3b:((n:Int) != 3)=true:=by simpa using h3i
  clear H hd lx
  go_enter Tryz.func117,Tryz.ntmps117
  go_wp2
  go_quiet (fail)
  go_wp2
  go_ret2
  exact RSrtPost.of hv.out ((Below.refl _ _).drewN _)
 subst h3
 obtain ⟨j0,e0,l0⟩:=H.idAt (i:=0) (by omega)
 obtain ⟨j1,e1,l1⟩:=H.idAt (i:=1) (by omega)
 obtain ⟨j2,e2,l2⟩:=H.idAt (i:=2) (by omega)
 obtain ⟨b,o,rfl,k0⟩:=H.hx.at 0 (by omega)
 obtain ⟨b',o',hb',k1⟩:=H.hx.at 1 (by omega)
 cases hb'
 obtain ⟨b',o',hb',k2⟩:=H.hx.at 2 (by omega)
 cases hb'
 rw [Nat.add_zero,e0] at k0
 rw [e1] at k1
 rw [e2] at k2
 obtain ⟨bL,oL,cL,m1,s0⟩:=H.h.sortCell l0
 obtain ⟨bL',oL',cL',m1',s1⟩:=H.h.sortCell l1
 rw [m1] at m1'
 cases m1'
 obtain ⟨bL',oL',cL',m1',s2⟩:=H.h.sortCell l2
 rw [m1] at m1'
 cases m1'
 have hxs:xs = [(j0:Int),j1,j2]:=by
  match xs,lx with
  | [x0,x1,x2],_=>simp [nth] at e0 e1 e2;rw [e0,e1,e2]
 have hdv:=@hid (sortedD T 10 nm xs=if (nodeAt T j0).sort=0∧(nodeAt T j2).sort=(nodeAt T j1).sort then((nodeAt T j1).sort,true) else(0,false)) (by
  rw [hd.out,hxs]
  unfold iteD alikeD
  simp only [List.length_cons,List.length_nil,List.drop_succ_cons,List.drop_zero,true_and,nth,List.getD_cons_zero,List.getD_cons_succ]
  rw [allD_iff]
  have:(decide (2≤0+1+1) && decide (∀x ∈ [(j1:Int),(j2:Int)],(nodeAt T x).sort=(nodeAt T j1).sort))=true↔(nodeAt T j2).sort=(nodeAt T j1).sort:=by simp
  by_cases hA:(nodeAt T j0).sort=0
  ·by_cases hB:(nodeAt T j2).sort=(nodeAt T j1).sort
   ·rw [if_pos ⟨hA,this.2 hB⟩,if_pos ⟨hA,hB⟩]
   ·rw [if_neg (fun e=>hB (this.1 e.2)),if_neg (fun e=>hB e.2)]
  ·rw [if_neg (fun e=>hA e.1),if_neg (fun e=>hA e.1)])
 have i0:(j0:Int)<T.nodes.length:=by omega
 have i1:(j1:Int)<T.nodes.length:=by omega
 have i2:(j2:Int)<T.nodes.length:=by omega
 clear H hd lx e0 e1 e2 hxs
 generalize (nodeAt T j0).sort=z0 at *
 generalize (nodeAt T j1).sort=z1 at *
 generalize (nodeAt T j2).sort=z2 at *
 by_cases h0:z0=0
 case neg=>
  have hv:=@hid (sortedD T 10 nm xs=(0,false)) (by rw [hdv.out,if_neg (fun e=>h0 e.1)])
  have h0b:(z0 != 0)=true:=by simpa using h0
  clear hdv
  go_enter Tryz.func117,Tryz.ntmps117
  go_wp2
  go_quiet (fail)
  go_wp2
  go_ret2
  exact RSrtPost.of hv.out ((Below.refl _ _).drewN _)
 subst h0
 have hb:(sortedD T 10 nm xs).2=decide (z2=z1)∧(decide (z2=z1)=true→(sortedD T 10 nm xs).1=z1):=by
  rw [hdv.out]
  by_cases h:z2=z1
  ·rw [if_pos ⟨rfl,h⟩,decide_eq_true h];exact⟨rfl,fun _=>rfl⟩
  ·rw [if_neg (fun e=>h e.2),decide_eq_false h];exact⟨rfl,fun e=>by cases e⟩
 have hb':=hid hb
 clear hb hdv
 go_enter Tryz.func117,Tryz.ntmps117
 go_wp2
 go_quiet (fail)
 go_wp2
 go_quiet (fail)
 go_wp2
 go_quiet (fail)
 go_wp2
 go_ret2
 refine⟨z1,by rw [hb'.out.1];rfl,fun e=>(hb'.out.2 (by rw [←hb'.out.1];exact e)).symm,?_⟩
 exact(((Below.refl _ _).drewN _).drewN _).drewN _
theorem rsort12_any (T:TermD) (nm:ByteArray) (a:Option Addr) (n c:Nat) (xs:List Int) (w:World) (H:RCtx X Bq q r T a n c xs w) :
  Calls Tryz.prog 117 #[.pointer (some ⟨r,0,none⟩),.int .i64 12,.string nm,.slice a n c] w fun e w'=>RSrtPost T 12 nm xs w e w':=by
 have hd:=@hid (sortedD T 12 nm xs=if (findF T.S nm).isSome∧(lookF T.S nm).args.length=xs.length then(if sameSorts T xs (lookF T.S nm).args then((lookF T.S nm).res,true) else(0,false)) else(0,false)) rfl
 have lx:=hid H.hx.len
 have H':=hid H
 have hf:=hid (rfind_any Bq q T.S nm w H.sq H.hs)
 have k1:=H.cq
 have hn:=H.hn
 have hfs:=H.hs.a
 clear H
 cases hsome:(findF T.S nm).isSome
 case false=>
  have hv:=@hid (sortedD T 12 nm xs=(0,false)) (by rw [hd.out,hsome];simp)
  rw [hsome] at hf
  clear hsome hd hfs
  go_enter Tryz.func117,Tryz.ntmps117
  go_wp2_with fail
  refine hf.out.mono ?_;rintro e w1 ⟨af,cf,rfl,hsl,hc1,hc2,hb⟩
  have B1:=hid (hb.alloc hb.size (.cells #[.string (lookF T.S nm).name,.slice af (lookF T.S nm).args.length cf,.int .i64 (lookF T.S nm).res] 114))
  clear hb hsl hc1 hc2
  go_wp2
  go_ret2
  exact RSrtPost.of hv.out B1.out
 case true=>
 rw [hsome] at hf
 have hd2:=@hid (sortedD T 12 nm xs=if (lookF T.S nm).args.length=xs.length then(if sameSorts T xs (lookF T.S nm).args then((lookF T.S nm).res,true) else(0,false)) else(0,false)) (by rw [hd.out,hsome];simp)
 clear hsome hd
 generalize hF:lookF T.S nm=F at *
 have hfa:F.args.length<1099511627776:=by
  rw [←hF];unfold lookF
  cases hff:findF T.S nm with
  | none=>simp [noFun]
  | some f=>exact hfs f (List.mem_of_find?_eq_some hff)
 clear hfs
 by_cases hl:F.args.length=n
 case neg=>
  have hv:=@hid (sortedD T 12 nm xs=(0,false)) (by rw [hd2.out,lx.out,if_neg hl])
  have hli:¬(F.args.length:Int)=n:=by omega
  have hlb:((F.args.length:Int) != n)=true:=by simpa using hli
  clear hd2
  go_enter Tryz.func117,Tryz.ntmps117
  go_wp2_with fail
  refine hf.out.mono ?_;rintro e w1 ⟨af,cf,rfl,hsl,hc1,hc2,hb⟩
  have B1:=hid (hb.alloc hb.size (.cells #[.string F.name,.slice af F.args.length cf,.int .i64 F.res] 114))
  clear hb hsl hc1 hc2 hF
  go_wp2
  go_ret2
  exact RSrtPost.of hv.out B1.out
 case pos=>
 have hd3:=@hid (sortedD T 12 nm xs=if sameSorts T xs F.args then(F.res,true) else(0,false)) (by rw [hd2.out,lx.out,if_pos hl])
 have hlf:=hid (show xs.length=F.args.length by rw [lx.out,hl])
 clear hd2
 subst hl
 go_enter Tryz.func117,Tryz.ntmps117
 go_wp2_with fail
 refine hf.out.mono ?_;rintro e w1 ⟨af,cf,rfl,hsl,hc1,hc2,hb⟩
 have B1:=hid (hb.alloc hb.size (.cells #[.string F.name,.slice af F.args.length cf,.int .i64 F.res] 114))
 have hsl':=hid (hsl.toI.below ((Below.refl _ _).alloc (Nat.le_refl _) (.cells #[.string F.name,.slice af F.args.length cf,.int .i64 F.res] 114)) (Nat.le_refl _))
 have hbox:=hid (heap_alloc_new w1 (.cells #[.string F.name,.slice af F.args.length cf,.int .i64 F.res] 114))
 generalize hW1:w1.alloc (.cells #[.string F.name,.slice af F.args.length cf,.int .i64 F.res] 114)=W1 at *
 have hsz:W1.heap.size=w1.heap.size+1:=by rw [←hW1];simp
 have f1:W1.cell? ⟨w1.heap.size,1,none⟩=some (.slice af F.args.length cf):=cell_p hbox.out 1
 clear hb hsl hc1 hc2 hF
 go_wp2
 clear hW1
 go_loopw [8,9,14] (fun v8 v9 i wr=>∃k:Nat,k≤F.args.length∧v8 = .int .i64 0∧v9 = .bool false∧i = .int .i64 k∧Hid (fitsTo T xs F.args k)∧Hid (Below W1.heap.size W1 wr)) (fun _ _ i _=>F.args.length - (intOf i).toNat)
 case atStart=>exact⟨0,Nat.zero_le _,rfl,rfl,rfl,fun j hj=>absurd hj (Nat.not_lt_zero _),Below.refl _ _⟩
 case round=>
  obtain ⟨k,hk,rfl,rfl,rfl,hne,hB⟩:=hrel
  have Bw:=hid (B1.out.trans (hB.out.mono B1.out.size))
  have Hb:=hid ((hB.out.block w1.heap.size (by omega)).trans hbox.out)
  have f1:wr.cell? ⟨w1.heap.size,1,none⟩=some (.slice af F.args.length cf):=cell_p Hb.out 1
  have f2:wr.cell? ⟨w1.heap.size,2,none⟩=some (.int .i64 F.res):=cell_p Hb.out 2
  by_cases hlt:k<F.args.length
  ·have hkx:k<xs.length:=by rw [lx.out];exact hlt
   have hki:(k:Int)<F.args.length:=by omega
   obtain ⟨b,o,rfl,k0⟩:=(H'.out.hx.below Bw.out (Nat.le_refl _)).at k hlt
   obtain ⟨b2,o2,rfl,k2⟩:=(hsl'.out.below hB.out (Nat.le_refl _)).at k hlt
   obtain ⟨j,hj,hj1⟩:=H'.out.idAt (i:=k) hlt
   have hj2:(j:Int)<T.nodes.length:=by omega
   obtain ⟨b1,o1,cL,k3,k4⟩:=(H'.out.h.all Bw.out).sortCell hj1
   have hstep:=@hid ((nodeAt T j).sort=nth F.args k→fitsTo T xs F.args (k+1)) (fun e i hi=>by
    by_cases hik:i<k
    ·exact hne.out i hik
    ·obtain rfl:i=k:=by omega
     rw [hj];exact e)
   have hno:=@hid ((nodeAt T j).sort≠nth F.args k→sameSorts T xs F.args=false) (fun e=>by
    cases hss:sameSorts T xs F.args
    ·rfl
    ·exact absurd (by have:=(sameSorts_iff hlf.out).1 hss k hkx;rw [hj] at this;exact this) e)
   rw [hj] at k0
   clear hj hne
   generalize (nodeAt T j).sort=z at *
   generalize nth F.args k=y at *
   by_cases hzy:z=y
   ·have hv:=hid (hstep.out hzy)
    subst hzy
    clear hno hstep
    go_wp2
    go_quiet (fail)
    go_wp2
    go_roundw
    case rel=>exact⟨k+1,by omega,rfl,rfl,by go_num,hv.out,hB.out.drewN _⟩
    case measure=>simp [intOf];omega
   ·have hv:=@hid (sortedD T 12 nm xs=(0,false)) (by rw [hd3.out,hno.out hzy];rfl)
    have hzy':(z != y)=true:=by simpa using hzy
    clear hno hstep
    go_wp2
    go_quiet (fail)
    go_wp2
    go_ret2
    exact RSrtPost.of hv.out (Bw.out.drewN _)
  ·have hkn:k=xs.length:=by have:=hlf.out;omega
   have hv:=@hid (sortedD T 12 nm xs=(F.res,true)) (by rw [hd3.out,if_pos ((sameSorts_iff hlf.out).2 (hkn ▸ hne.out))])
   clear hkn
   go_wp2
   go_ret2
   exact RSrtPost.of hv.out Bw.out
theorem others_succ {T:TermD} {xs:List Int} {i:Nat} (h:i<xs.length):others T (xs.take (i+1))=others T (xs.take i)+(if (numAt T (nth xs i)).1 then 0 else 1):=by
 unfold others
 rw [List.take_succ_eq_append_getElem h,List.filter_append,List.length_append,nth_eq h]
 cases hz:(numAt T xs[i]).1 <;> simp [hz]
theorem rsort15_any (T:TermD) (nm:ByteArray) (a:Option Addr) (n c:Nat) (xs:List Int) (w:World) (H:RCtx X Bq q r T a n c xs w) :
  Calls Tryz.prog 117 #[.pointer (some ⟨r,0,none⟩),.int .i64 15,.string nm,.slice a n c] w fun e w'=>RSrtPost T 15 nm xs w e w':=by
 have lx:=hid H.hx.len
 have H':=hid H
 have hn:=H.hn
 have hd:=@hid (sortedD T 15 nm xs=(1,decide (2≤n) && (allD T xs 1 && decide (others T xs≤1)))) (by
  rw [←lx.out]
  show(_,numericD T 15 xs)=_
  unfold numericD leastD productD
  by_cases hl:2≤xs.length
  ·rw [if_neg (by simp;omega),decide_eq_true hl,Bool.true_and]
   cases allD T xs 1 <;> rfl
  ·rw [if_pos (by simp;omega),decide_eq_false hl];rfl)
 clear H
 go_enter Tryz.func117,Tryz.ntmps117
 go_wp2
 go_loopw [15,16] (fun vf vi wr=>∃i f:Nat,i≤n∧vi = .int .i64 i∧vf = .int .i64 f∧f≤i∧Hid (others T (xs.take i)=f)∧Hid (Below w.heap.size w wr)) (fun _ vi _=>n - (intOf vi).toNat)
 case atStart=>exact⟨0,0,Nat.zero_le _,rfl,rfl,Nat.le_refl _,rfl,Below.refl _ _⟩
 case round=>
  obtain ⟨i,f,hi,rfl,rfl,hfi,hoth,hB⟩:=hrel
  by_cases hin:i<n
  case pos=>
   obtain ⟨b,o,rfl,k0⟩:=(H'.out.hx.below hB.out (Nat.le_refl _)).at i hin
   obtain ⟨j,hj,hj1⟩:=H'.out.idAt (i:=i) hin
   have hsu:=hid (others_succ (T:=T) (xs:=xs) (i:=i) (by rw [lx.out];exact hin))
   rw [hj] at k0 hsu
   have hnu:=hid (rnumber_any r T H'.out.nu H'.out.ord H'.out.le H'.out.sn j wr (H'.out.h.all hB.out) hj1)
   have hii:(i:Int)<n:=by omega
   clear hj hj1
   cases hz:(numAt T j).1
   case true=>
    have hv:=hid (show others T (xs.take (i+1))=f from by rw [hsu.out,hz,hoth.out];rfl)
    rw [hz] at hnu
    clear hsu hz
    go_wp2_with fail
    refine hnu.out.mono ?_;rintro e w2 ⟨rfl,hb2⟩
    have B2:=hid (hB.out.trans (hb2.mono hB.out.size))
    clear hb2
    go_wp2
    go_roundw
    case rel=>exact⟨i+1,f,by omega,by go_num,by first | rfl | go_num,by omega,hv.out,B2.out⟩
    case measure=>first | (simp [intOf];done) | (simp [intOf];omega)
   case false=>
    have hv:=hid (show others T (xs.take (i+1))=f+1 from by rw [hsu.out,hz,hoth.out];rfl)
    rw [hz] at hnu
    clear hsu hz
    go_wp2_with fail
    refine hnu.out.mono ?_;rintro e w2 ⟨rfl,hb2⟩
    have B2:=hid (hB.out.trans (hb2.mono hB.out.size))
    clear hb2
    go_wp2
    go_roundw
    case rel=>exact⟨i+1,f+1,by omega,by go_num,by first | rfl | go_num,by omega,hv.out,B2.out⟩
    case measure=>first | (simp [intOf];done) | (simp [intOf];omega)
  case neg=>
   obtain rfl:i=n:=by omega
   have ho:=hoth.out
   rw [List.take_of_length_le (by rw [lx.out];exact Nat.le_refl _)] at ho
   have hd2:=@hid (sortedD T 15 nm xs=(1,decide (2≤i) && (allD T xs 1 && decide (f≤1)))) (by rw [hd.out,ho])
   have hall:=hid (rall_any r T a i c xs 1 wr (H'.out.h.all hB.out) (H'.out.hx.below hB.out (Nat.le_refl _)) (by omega) H'.out.hi)
   clear ho hd
   by_cases h2:2≤i
   case neg=>
    have hv:=@hid (sortedD T 15 nm xs=(1,false)) (by rw [hd2.out,decide_eq_false h2];rfl)
    have h2i:¬(2:Int)≤i:=by omega
    have h2d:decide ((2:Int)≤i)=false:=by simpa using h2i
    clear hd2
    go_wp2
    go_ret2
    exact RSrtPost.of hv.out hB.out
   have h2i:(2:Int)≤i:=by omega
   cases hz:allD T xs 1
   case false=>
    have hv:=@hid (sortedD T 15 nm xs=(1,false)) (by rw [hd2.out,hz];simp)
    rw [hz] at hall
    clear hd2 hz
    go_wp2_with fail
    refine hall.out.mono ?_;rintro e w2 ⟨rfl,qn,hw2⟩
    have B2:=hid (show Below w.heap.size w w2 from by rw [hw2];exact hB.out.drewN qn)
    clear hw2
    go_wp2
    go_ret2
    exact RSrtPost.of hv.out B2.out
   case true=>
    have hv:=@hid (sortedD T 15 nm xs=(1,decide (f≤1))) (by rw [hd2.out,hz,decide_eq_true h2];rfl)
    rw [hz] at hall
    have hfd:decide ((f:Int)≤1)=decide (f≤1):=by
     by_cases h:f≤1
     ·rw [decide_eq_true h,decide_eq_true (by omega)]
     ·rw [decide_eq_false h,decide_eq_false (by omega)]
    have hfd':=hid hfd
    clear hd2 hz hfd
    go_wp2_with fail
    refine hall.out.mono ?_;rintro e w2 ⟨rfl,qn,hw2⟩
    have B2:=hid (show Below w.heap.size w w2 from by rw [hw2];exact hB.out.drewN qn)
    clear hw2
    go_wp2
    go_ret2
    exact RSrtPost.of2 hv.out hfd'.out B2.out
theorem quot_bad {T:TermD} {xs:List Int} {i:Nat} (h1:1≤i) (h:i<xs.length) (hb:badQuot T (nth xs i)=true):quotientD T xs=false:=by
 unfold quotientD
 rw [Bool.not_eq_false',List.any_eq_true]
 refine⟨nth xs i,?_,hb⟩
 rw [nth_eq h]
 have:xs[i]=(xs.drop 1)[i - 1]'(by rw [List.length_drop];omega):=by rw [List.getElem_drop];congr 1;omega
 rw [this]
 exact List.getElem_mem _
theorem quot_good {T:TermD} {xs:List Int} (h:∀j,1≤j→j<xs.length→badQuot T (nth xs j)=false):quotientD T xs=true:=by
 unfold quotientD
 rw [Bool.not_eq_true',List.any_eq_false]
 intro x hx
 obtain ⟨i,hi,rfl⟩:=List.getElem_of_mem hx
 rw [List.length_drop] at hi
 have:=h (1+i) (by omega) (by omega)
 rw [nth_eq (by omega)] at this
 rw [List.getElem_drop]
 rw [this]
 decide
theorem rsort16_any (T:TermD) (nm:ByteArray) (a:Option Addr) (n c:Nat) (xs:List Int) (w:World) (H:RCtx X Bq q r T a n c xs w) :
  Calls Tryz.prog 117 #[.pointer (some ⟨r,0,none⟩),.int .i64 16,.string nm,.slice a n c] w fun e w'=>RSrtPost T 16 nm xs w e w':=by
 have lx:=hid H.hx.len
 have H':=hid H
 have hn:=H.hn
 have hd:=@hid (sortedD T 16 nm xs=(1,decide (2≤n) && (allD T xs 1 && quotientD T xs))) (by
  rw [←lx.out]
  show(_,numericD T 16 xs)=_
  unfold numericD leastD
  by_cases hl:2≤xs.length
  ·rw [if_neg (by simp;omega),decide_eq_true hl,Bool.true_and]
   cases allD T xs 1 <;> rfl
  ·rw [if_pos (by simp;omega),decide_eq_false hl];rfl)
 have hall:=hid (rall_any r T a n c xs 1 w H.h H.hx (by omega) H.hi)
 clear H
 by_cases h2:2≤n
 case neg=>
  have hv:=@hid ((sortedD T 16 nm xs).2=false) (by rw [hd.out,decide_eq_false h2];rfl)
  have h2i:(n:Int)<2:=by omega
  clear hd
  go_enter Tryz.func117,Tryz.ntmps117
  go_wp2
  go_ret2
  exact RSrtPost.no hv.out (Below.refl _ _)
 have h2i:¬(n:Int)<2:=by omega
 have h2d:decide ((n:Int)<2)=false:=by simpa using h2i
 cases hz:allD T xs 1
 case false=>
  have hv:=@hid ((sortedD T 16 nm xs).2=false) (by rw [hd.out,hz];simp)
  rw [hz] at hall
  clear hd hz
  go_enter Tryz.func117,Tryz.ntmps117
  go_wp2_with fail
  refine hall.out.mono ?_;rintro e w2 ⟨rfl,qn,hw2⟩
  have B2:=hid (show Below w.heap.size w w2 from by rw [hw2];exact(Below.refl _ _).drewN qn)
  clear hw2
  go_wp2
  go_ret2
  exact RSrtPost.no hv.out B2.out
 have hd2:=@hid (sortedD T 16 nm xs=(1,quotientD T xs)) (by rw [hd.out,hz,decide_eq_true h2];rfl)
 rw [hz] at hall
 clear hd hz
 go_enter Tryz.func117,Tryz.ntmps117
 go_wp2_with fail
 refine hall.out.mono ?_;rintro e w1 ⟨rfl,qn,hw1⟩
 have B1:=hid (show Below w.heap.size w w1 from by rw [hw1];exact(Below.refl _ _).drewN qn)
 clear hw1
 go_wp2
 go_loopw [8,9,17] (fun v8 v9 vi wr=>∃i:Nat,1≤i∧i≤n∧v8 = .int .i64 0∧v9 = .bool false∧vi = .int .i64 i∧Hid (∀j,1≤j→j<i→badQuot T (nth xs j)=false)∧Hid (Below w.heap.size w wr)) (fun _ _ vi _=>n - (intOf vi).toNat)
 case atStart=>exact⟨1,Nat.le_refl _,by omega,rfl,rfl,rfl,fun j h1 h2=>absurd h1 (by omega),B1.out⟩
 case round=>
  obtain ⟨i,hi1,hi,rfl,rfl,rfl,hgood,hB⟩:=hrel
  by_cases hin:i<n
  case pos=>
   obtain ⟨b,o,rfl,k0⟩:=(H'.out.hx.below hB.out (Nat.le_refl _)).at i hin
   obtain ⟨j,hj,hj1⟩:=H'.out.idAt (i:=i) hin
   have hbq:=hid (show badQuot T (nth xs i)=(!(numAt T j).1 || (numAt T j).2) from by rw [hj];rfl)
   have hbad:=hid (fun h=>quot_bad (T:=T) (xs:=xs) (i:=i) hi1 (by rw [lx.out];exact hin) h)
   rw [hj] at k0
   have hnu:=hid (rnumber_any r T H'.out.nu H'.out.ord H'.out.le H'.out.sn j wr (H'.out.h.all hB.out) hj1)
   have hii:(i:Int)<n:=by omega
   cases hz:(numAt T j).1
   case false=>
    have hv:=@hid ((sortedD T 16 nm xs).2=false) (by rw [hd2.out];exact hbad.out (by rw [hbq.out,hz];rfl))
    rw [hz] at hnu
    clear hd2 hz hj hj1 hbad
    go_wp2_with fail
    refine hnu.out.mono ?_;rintro e w2 ⟨rfl,hb2⟩
    have B2:=hid (hB.out.trans (hb2.mono hB.out.size))
    clear hb2
    go_wp2
    go_ret2
    exact RSrtPost.no hv.out B2.out
   case true=>
    have hze:=hid (fun W (hW:Below w.heap.size w W)=>rzero_any r T H'.out.nu H'.out.ord j W (H'.out.h.all hW) hj1 hz)
    rw [hz] at hnu
    have hxx:=hid H'.out.hx
    cases hz2:(numAt T j).2
    case true=>
     have hv:=@hid ((sortedD T 16 nm xs).2=false) (by rw [hd2.out];exact hbad.out (by rw [hbq.out,hz,hz2];rfl))
     rw [hz2] at hze
     clear hd2 hz hj1 hbad hz2
     go_wp2_with fail
     refine hnu.out.mono ?_;rintro e w2 ⟨rfl,hb2⟩
     have B2:=hid (hB.out.trans (hb2.mono hB.out.size))
     obtain ⟨b3,o3,hb3,k3⟩:=(hxx.out.below B2.out (Nat.le_refl _)).at i hin
     cases hb3
     rw [hj] at k3
     clear hb2 hj
     go_wp2_with fail
     refine(hze.out _ B2.out).mono ?_;rintro e w3 ⟨rfl,hb3⟩
     have B3:=hid (B2.out.trans (hb3.mono B2.out.size))
     clear hb3
     go_wp2
     go_ret2
     exact RSrtPost.no hv.out B3.out
    case false=>
     have hg2:=hid (show ∀k,1≤k→k<i+1→badQuot T (nth xs k)=false from fun k h1 h2=>by
      by_cases e:k=i
      ·rw [e,hbq.out,hz,hz2];rfl
      ·exact hgood.out k h1 (by omega))
     rw [hz2] at hze
     clear hz hj1 hbad hz2
     go_wp2_with fail
     refine hnu.out.mono ?_;rintro e w2 ⟨rfl,hb2⟩
     have B2:=hid (hB.out.trans (hb2.mono hB.out.size))
     obtain ⟨b3,o3,hb3,k3⟩:=(hxx.out.below B2.out (Nat.le_refl _)).at i hin
     cases hb3
     rw [hj] at k3
     clear hb2 hj
     go_wp2_with fail
     refine(hze.out _ B2.out).mono ?_;rintro e w3 ⟨rfl,hb3⟩
     have B3:=hid (B2.out.trans (hb3.mono B2.out.size))
     clear hb3
     go_wp2
     go_roundw
     case rel=>exact⟨i+1,by omega,by omega,rfl,rfl,by go_num,hg2.out,B3.out⟩
     case measure=>first | (simp [intOf];done) | (simp [intOf];omega)
  case neg=>
   obtain rfl:i=n:=by omega
   have hv:=@hid (sortedD T 16 nm xs=(1,true)) (by rw [hd2.out,quot_good fun j h1 h2=>hgood.out j h1 (by rw [lx.out] at h2;exact h2)])
   clear hd2
   go_wp2
   go_ret2
   exact RSrtPost.of hv.out hB.out
theorem rtsort_any (T:TermD) (op:Int) (nm:ByteArray) (a:Option Addr) (n c:Nat) (xs:List Int) (w:World) (H:RCtx X Bq q r T a n c xs w) (h1:1≤op) (h2:op≤20) :
  Calls Tryz.prog 117 #[.pointer (some ⟨r,0,none⟩),.int .i64 op,.string nm,.slice a n c] w fun e w'=>RSrtPost T op nm xs w e w':=by
 have h:op=1∨op=2∨op=3∨op=4∨op=5∨op=6∨op=7∨op=8∨op=9∨op=10∨op=11∨op=12∨op=13∨op=14∨op=15∨op=16∨op=17∨op=18∨op=19∨op=20:=by omega
 rcases h with rfl | rfl | rfl | rfl | rfl | rfl | rfl | rfl | rfl | rfl | rfl | rfl | rfl | rfl | rfl | rfl | rfl | rfl | rfl | rfl
 ·exact rsort1_any T nm a n c xs w H
 ·exact rsort2_any T nm a n c xs w H
 ·exact rsort3_any T nm a n c xs w H
 ·exact rsort4_any T nm a n c xs w H
 ·exact rsort5_any T nm a n c xs w H
 ·exact rsort6_any T nm a n c xs w H
 ·exact rsort7_any T nm a n c xs w H
 ·exact rsort8_any T nm a n c xs w H
 ·exact rsort9_any T nm a n c xs w H
 ·exact rsort10_any T nm a n c xs w H
 ·exact rsort11_any T nm a n c xs w H
 ·exact rsort12_any T nm a n c xs w H
 ·exact rsort13_any T nm a n c xs w H
 ·exact rsort14_any T nm a n c xs w H
 ·exact rsort15_any T nm a n c xs w H
 ·exact rsort16_any T nm a n c xs w H
 ·exact rsort17_any T nm a n c xs w H
 ·exact rsort18_any T nm a n c xs w H
 ·exact rsort19_any T nm a n c xs w H
 ·exact rsort20_any T nm a n c xs w H
end Go.Proofs.YtgoojkiccdjplaaGreatDoor
