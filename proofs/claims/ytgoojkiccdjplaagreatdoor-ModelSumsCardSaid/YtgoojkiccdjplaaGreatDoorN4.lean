/-
  Parts of this claim's texts, one behind the other: YJ YK YL YM YN. No condition.
-/
import Derived.Test.YtgoojkiccdjplaaGreatDoorN3
import Derived.Lib.AppendIntMem
set_option linter.unusedVariables false
set_option linter.unusedSimpArgs false
set_option maxRecDepth 100000
set_option maxHeartbeats 16000000
namespace Go.Proofs.YtgoojkiccdjplaaGreatDoor
open Go.RowKit Go.Sort Go.Lib
structure lE (B p:Nat) (T:aR) (a:Option Addr) (n c:Nat) (xs:List Int) (w:World):Prop where
 h:cU B p T w
 hx:jP w a n xs
 hn:n<1099511627776
 hnc:n<=c
 hi:InT T xs
 hs:qD T.S
 hnn:T.nums.length=T.nodes.length
def bM (T:aR) (op:Int) (nm:ByteArray) (xs:List Int) (w:World) (e:Ending) (w':World):Prop:=e = .returned (.tuple #[.int .i64 (aX T op nm xs).1,.bool (aX T op nm xs).2])/\Below w.heap.size w w'
theorem bM.of {T:aR} {op:Int} {nm:ByteArray} {xs:List Int} {w w':World} {s:Int} {b:Bool} (h:aX T op nm xs=(s,b)) (hb:Below w.heap.size w w'):bM T op nm xs w (.returned (.tuple #[.int .i64 s,.bool b])) w':=⟨by rw [h],hb⟩
theorem bM.of2 {T:aR} {op:Int} {nm:ByteArray} {xs:List Int} {w w':World} {s:Int} {b b2:Bool} (h:aX T op nm xs=(s,b)) (e:b2=b) (hb:Below w.heap.size w w'):bM T op nm xs w (.returned (.tuple #[.int .i64 s,.bool b2])) w':=⟨by rw [h,e],hb⟩
theorem zE (B p:Nat) (T:aR) (nm:ByteArray) (a:Option Addr) (n c:Nat) (xs:List Int) (w:World) (H:lE B p T a n c xs w) :
  Calls Tryz.prog 87 #[.pointer (some ⟨p,0,none⟩),.int .i64 1,.string nm,.slice a n c] w fun e w'=>bM T 1 nm xs w e w':=by
 have lx:=hid H.hx.len;have hv:=@hid (aX T 1 nm xs=(0,decide (n=0))) (by show(_,_)=_;rw [lx.out]);have hn:=H.hn;clear H;go_enter Tryz.func87,Tryz.ntmps87
 go_wp2;go_ret2;exact bM.of2 (b2:=decide ((n:Int)=0)) hv.out (by simp) (Below.refl _ _)
theorem zF (B p:Nat) (T:aR) (nm:ByteArray) (a:Option Addr) (n c:Nat) (xs:List Int) (w:World) (H:lE B p T a n c xs w) :
  Calls Tryz.prog 87 #[.pointer (some ⟨p,0,none⟩),.int .i64 2,.string nm,.slice a n c] w fun e w'=>bM T 2 nm xs w e w':=by
 have lx:=hid H.hx.len;have hv:=@hid (aX T 2 nm xs=(0,decide (n=0))) (by show(_,_)=_;rw [lx.out]);have hn:=H.hn;clear H;go_enter Tryz.func87,Tryz.ntmps87
 go_wp2;go_ret2;exact bM.of2 (b2:=decide ((n:Int)=0)) hv.out (by simp) (Below.refl _ _)
theorem xI (B p:Nat) (T:aR) (nm:ByteArray) (a:Option Addr) (n c:Nat) (xs:List Int) (w:World) (H:lE B p T a n c xs w) :
  Calls Tryz.prog 87 #[.pointer (some ⟨p,0,none⟩),.int .i64 11,.string nm,.slice a n c] w fun e w'=>bM T 11 nm xs w e w':=by
 have lx:=hid H.hx.len;have hv:=@hid (aX T 11 nm xs=(1,decide (n=0))) (by show(_,_)=_;rw [lx.out]);have hn:=H.hn;clear H;go_enter Tryz.func87,Tryz.ntmps87
 go_wp2;go_ret2;exact bM.of2 (b2:=decide ((n:Int)=0)) hv.out (by simp) (Below.refl _ _)
theorem zG (B p:Nat) (T:aR) (nm:ByteArray) (a:Option Addr) (n c:Nat) (xs:List Int) (w:World) (H:lE B p T a n c xs w) :
  Calls Tryz.prog 87 #[.pointer (some ⟨p,0,none⟩),.int .i64 3,.string nm,.slice a n c] w fun e w'=>bM T 3 nm xs w e w':=by
 have lx:=hid H.hx.len;have hall:=hid (kR B p T a n c xs 0 w H.h H.hx H.hn H.hi);have hd:=@hid (aX T 3 nm xs=(0,decide (n=1) && kX T xs 0)) (by show(_,_)=_;rw [lx.out]);have hn:=H.hn;clear H;by_cases h1:n=1
 ·have hv:=@hid (aX T 3 nm xs=(0,kX T xs 0)) (by rw [hd.out,decide_eq_true h1,Bool.true_and]);subst h1;clear hd;go_enter Tryz.func87,Tryz.ntmps87
  go_wp2_with fail
  refine hall.out.mono ?_;rintro e w1 ⟨rfl,hb⟩;have hb':=hid hb;clear hb;go_wp2;go_ret2;exact bM.of hv.out hb'.out
 ·have hv:=@hid (aX T 3 nm xs=(0,false)) (by rw [hd.out,decide_eq_false h1,Bool.false_and]);have h1i:¬(n:Int)=1:=by omega
  have h1d:decide ((n:Int)=1)=false:=by simpa using h1i
  clear hd;go_enter Tryz.func87,Tryz.ntmps87
  go_wp2;go_ret2;exact bM.of hv.out (Below.refl _ _)
theorem zH (B p:Nat) (T:aR) (nm:ByteArray) (a:Option Addr) (n c:Nat) (xs:List Int) (w:World) (H:lE B p T a n c xs w) :
  Calls Tryz.prog 87 #[.pointer (some ⟨p,0,none⟩),.int .i64 4,.string nm,.slice a n c] w fun e w'=>bM T 4 nm xs w e w':=by
 have lx:=hid H.hx.len;have hall:=hid (kR B p T a n c xs 0 w H.h H.hx H.hn H.hi);have hd:=@hid (aX T 4 nm xs=(0,decide (2<=n) && kX T xs 0)) (by show(_,_)=_;rw [lx.out]);have hn:=H.hn;clear H;by_cases h1:2<=n
 ·have hv:=@hid (aX T 4 nm xs=(0,kX T xs 0)) (by rw [hd.out,decide_eq_true h1,Bool.true_and]);have h1i:(2:Int)<=n:=by omega
  clear hd;go_enter Tryz.func87,Tryz.ntmps87
  go_wp2_with fail
  refine hall.out.mono ?_;rintro e w1 ⟨rfl,hb⟩;have hb':=hid hb;clear hb;go_wp2;go_ret2;exact bM.of hv.out hb'.out
 ·have hv:=@hid (aX T 4 nm xs=(0,false)) (by rw [hd.out,decide_eq_false h1,Bool.false_and]);have h1i:¬(2:Int)<=n:=by omega
  have h1d:decide ((2:Int)<=n)=false:=by simpa using h1i
  clear hd;go_enter Tryz.func87,Tryz.ntmps87
  go_wp2;go_ret2;exact bM.of hv.out (Below.refl _ _)
theorem zJ (B p:Nat) (T:aR) (nm:ByteArray) (a:Option Addr) (n c:Nat) (xs:List Int) (w:World) (H:lE B p T a n c xs w) :
  Calls Tryz.prog 87 #[.pointer (some ⟨p,0,none⟩),.int .i64 5,.string nm,.slice a n c] w fun e w'=>bM T 5 nm xs w e w':=by
 have lx:=hid H.hx.len;have hall:=hid (kR B p T a n c xs 0 w H.h H.hx H.hn H.hi);have hd:=@hid (aX T 5 nm xs=(0,decide (2<=n) && kX T xs 0)) (by show(_,_)=_;rw [lx.out]);have hn:=H.hn;clear H;by_cases h1:2<=n
 ·have hv:=@hid (aX T 5 nm xs=(0,kX T xs 0)) (by rw [hd.out,decide_eq_true h1,Bool.true_and]);have h1i:(2:Int)<=n:=by omega
  clear hd;go_enter Tryz.func87,Tryz.ntmps87
  go_wp2_with fail
  refine hall.out.mono ?_;rintro e w1 ⟨rfl,hb⟩;have hb':=hid hb;clear hb;go_wp2;go_ret2;exact bM.of hv.out hb'.out
 ·have hv:=@hid (aX T 5 nm xs=(0,false)) (by rw [hd.out,decide_eq_false h1,Bool.false_and]);have h1i:¬(2:Int)<=n:=by omega
  have h1d:decide ((2:Int)<=n)=false:=by simpa using h1i
  clear hd;go_enter Tryz.func87,Tryz.ntmps87
  go_wp2;go_ret2;exact bM.of hv.out (Below.refl _ _)
theorem zK (B p:Nat) (T:aR) (nm:ByteArray) (a:Option Addr) (n c:Nat) (xs:List Int) (w:World) (H:lE B p T a n c xs w) :
  Calls Tryz.prog 87 #[.pointer (some ⟨p,0,none⟩),.int .i64 6,.string nm,.slice a n c] w fun e w'=>bM T 6 nm xs w e w':=by
 have lx:=hid H.hx.len;have hall:=hid (kR B p T a n c xs 0 w H.h H.hx H.hn H.hi);have hd:=@hid (aX T 6 nm xs=(0,decide (2<=n) && kX T xs 0)) (by show(_,_)=_;rw [lx.out]);have hn:=H.hn;clear H;by_cases h1:2<=n
 ·have hv:=@hid (aX T 6 nm xs=(0,kX T xs 0)) (by rw [hd.out,decide_eq_true h1,Bool.true_and]);have h1i:(2:Int)<=n:=by omega
  clear hd;go_enter Tryz.func87,Tryz.ntmps87
  go_wp2_with fail
  refine hall.out.mono ?_;rintro e w1 ⟨rfl,hb⟩;have hb':=hid hb;clear hb;go_wp2;go_ret2;exact bM.of hv.out hb'.out
 ·have hv:=@hid (aX T 6 nm xs=(0,false)) (by rw [hd.out,decide_eq_false h1,Bool.false_and]);have h1i:¬(2:Int)<=n:=by omega
  have h1d:decide ((2:Int)<=n)=false:=by simpa using h1i
  clear hd;go_enter Tryz.func87,Tryz.ntmps87
  go_wp2;go_ret2;exact bM.of hv.out (Below.refl _ _)
theorem zL (B p:Nat) (T:aR) (nm:ByteArray) (a:Option Addr) (n c:Nat) (xs:List Int) (w:World) (H:lE B p T a n c xs w) :
  Calls Tryz.prog 87 #[.pointer (some ⟨p,0,none⟩),.int .i64 7,.string nm,.slice a n c] w fun e w'=>bM T 7 nm xs w e w':=by
 have lx:=hid H.hx.len;have hall:=hid (kR B p T a n c xs 0 w H.h H.hx H.hn H.hi);have hd:=@hid (aX T 7 nm xs=(0,decide (2<=n) && kX T xs 0)) (by show(_,_)=_;rw [lx.out]);have hn:=H.hn;clear H;by_cases h1:2<=n
 ·have hv:=@hid (aX T 7 nm xs=(0,kX T xs 0)) (by rw [hd.out,decide_eq_true h1,Bool.true_and]);have h1i:(2:Int)<=n:=by omega
  clear hd;go_enter Tryz.func87,Tryz.ntmps87
  go_wp2_with fail
  refine hall.out.mono ?_;rintro e w1 ⟨rfl,hb⟩;have hb':=hid hb;clear hb;go_wp2;go_ret2;exact bM.of hv.out hb'.out
 ·have hv:=@hid (aX T 7 nm xs=(0,false)) (by rw [hd.out,decide_eq_false h1,Bool.false_and]);have h1i:¬(2:Int)<=n:=by omega
  have h1d:decide ((2:Int)<=n)=false:=by simpa using h1i
  clear hd;go_enter Tryz.func87,Tryz.ntmps87
  go_wp2;go_ret2;exact bM.of hv.out (Below.refl _ _)
theorem zM (B p:Nat) (T:aR) (nm:ByteArray) (a:Option Addr) (n c:Nat) (xs:List Int) (w:World) (H:lE B p T a n c xs w) :
  Calls Tryz.prog 87 #[.pointer (some ⟨p,0,none⟩),.int .i64 8,.string nm,.slice a n c] w fun e w'=>bM T 8 nm xs w e w':=by
 have hc:=hid (pE B p T a n c xs w H.h H.hx H.hn H.hi);have hv:=@hid (aX T 8 nm xs=(0,lC T xs)) (by rfl);have hn:=H.hn;clear H;go_enter Tryz.func87,Tryz.ntmps87
 go_wp2_with fail
 refine hc.out.mono ?_;rintro e w1 ⟨rfl,hb⟩;have hb':=hid hb;clear hb;go_wp2;go_ret2;exact bM.of hv.out hb'.out
theorem zN (B p:Nat) (T:aR) (nm:ByteArray) (a:Option Addr) (n c:Nat) (xs:List Int) (w:World) (H:lE B p T a n c xs w) :
  Calls Tryz.prog 87 #[.pointer (some ⟨p,0,none⟩),.int .i64 9,.string nm,.slice a n c] w fun e w'=>bM T 9 nm xs w e w':=by
 have hc:=hid (pE B p T a n c xs w H.h H.hx H.hn H.hi);have hv:=@hid (aX T 9 nm xs=(0,lC T xs)) (by rfl);have hn:=H.hn;clear H;go_enter Tryz.func87,Tryz.ntmps87
 go_wp2_with fail
 refine hc.out.mono ?_;rintro e w1 ⟨rfl,hb⟩;have hb':=hid hb;clear hb;go_wp2;go_ret2;exact bM.of hv.out hb'.out
theorem xJ (B p:Nat) (T:aR) (nm:ByteArray) (a:Option Addr) (n c:Nat) (xs:List Int) (w:World) (H:lE B p T a n c xs w) :
  Calls Tryz.prog 87 #[.pointer (some ⟨p,0,none⟩),.int .i64 12,.string nm,.slice a n c] w fun e w'=>bM T 12 nm xs w e w':=by
 have hc:=hid (aFp B p T nm a n c xs w H.h H.hx H.hn H.hi H.hs);have hv:=@hid (aX T 12 nm xs=((gF T nm xs).1,(gF T nm xs).2)) (by rfl);have hn:=H.hn;clear H;go_enter Tryz.func87,Tryz.ntmps87
 go_wp2_with fail
 refine hc.out.mono ?_;rintro e w1 ⟨rfl,hb⟩;have hb':=hid hb;clear hb;go_wp2;go_ret2;exact bM.of hv.out hb'.out
theorem xK (B p:Nat) (T:aR) (nm:ByteArray) (a:Option Addr) (n c:Nat) (xs:List Int) (w:World) (H:lE B p T a n c xs w) :
  Calls Tryz.prog 87 #[.pointer (some ⟨p,0,none⟩),.int .i64 17,.string nm,.slice a n c] w fun e w'=>bM T 17 nm xs w e w':=by
 have hc:=hid (gA B p T 17 a n c xs w H.h H.hx H.hn H.hnc H.hi H.hnn);have hv:=@hid (aX T 17 nm xs=(0,cX T 17 xs)) (by rfl);have hn:=H.hn;clear H;go_enter Tryz.func87,Tryz.ntmps87
 go_wp2_with fail
 refine hc.out.mono ?_;rintro e w1 ⟨rfl,hb⟩;have hb':=hid hb;clear hb;go_wp2;go_ret2;exact bM.of hv.out hb'.out
theorem xL (B p:Nat) (T:aR) (nm:ByteArray) (a:Option Addr) (n c:Nat) (xs:List Int) (w:World) (H:lE B p T a n c xs w) :
  Calls Tryz.prog 87 #[.pointer (some ⟨p,0,none⟩),.int .i64 18,.string nm,.slice a n c] w fun e w'=>bM T 18 nm xs w e w':=by
 have hc:=hid (gA B p T 18 a n c xs w H.h H.hx H.hn H.hnc H.hi H.hnn);have hv:=@hid (aX T 18 nm xs=(0,cX T 18 xs)) (by rfl);have hn:=H.hn;clear H;go_enter Tryz.func87,Tryz.ntmps87
 go_wp2_with fail
 refine hc.out.mono ?_;rintro e w1 ⟨rfl,hb⟩;have hb':=hid hb;clear hb;go_wp2;go_ret2;exact bM.of hv.out hb'.out
theorem xM (B p:Nat) (T:aR) (nm:ByteArray) (a:Option Addr) (n c:Nat) (xs:List Int) (w:World) (H:lE B p T a n c xs w) :
  Calls Tryz.prog 87 #[.pointer (some ⟨p,0,none⟩),.int .i64 19,.string nm,.slice a n c] w fun e w'=>bM T 19 nm xs w e w':=by
 have hc:=hid (gA B p T 19 a n c xs w H.h H.hx H.hn H.hnc H.hi H.hnn);have hv:=@hid (aX T 19 nm xs=(0,cX T 19 xs)) (by rfl);have hn:=H.hn;clear H;go_enter Tryz.func87,Tryz.ntmps87
 go_wp2_with fail
 refine hc.out.mono ?_;rintro e w1 ⟨rfl,hb⟩;have hb':=hid hb;clear hb;go_wp2;go_ret2;exact bM.of hv.out hb'.out
theorem xN (B p:Nat) (T:aR) (nm:ByteArray) (a:Option Addr) (n c:Nat) (xs:List Int) (w:World) (H:lE B p T a n c xs w) :
  Calls Tryz.prog 87 #[.pointer (some ⟨p,0,none⟩),.int .i64 20,.string nm,.slice a n c] w fun e w'=>bM T 20 nm xs w e w':=by
 have hc:=hid (gA B p T 20 a n c xs w H.h H.hx H.hn H.hnc H.hi H.hnn);have hv:=@hid (aX T 20 nm xs=(0,cX T 20 xs)) (by rfl);have hn:=H.hn;clear H;go_enter Tryz.func87,Tryz.ntmps87
 go_wp2_with fail
 refine hc.out.mono ?_;rintro e w1 ⟨rfl,hb⟩;have hb':=hid hb;clear hb;go_wp2;go_ret2;exact bM.of hv.out hb'.out
theorem xO (B p:Nat) (T:aR) (nm:ByteArray) (a:Option Addr) (n c:Nat) (xs:List Int) (w:World) (H:lE B p T a n c xs w) :
  Calls Tryz.prog 87 #[.pointer (some ⟨p,0,none⟩),.int .i64 13,.string nm,.slice a n c] w fun e w'=>bM T 13 nm xs w e w':=by
 have hc:=hid (gA B p T 13 a n c xs w H.h H.hx H.hn H.hnc H.hi H.hnn);have hv:=@hid (aX T 13 nm xs=(1,cX T 13 xs)) (by rfl);have hn:=H.hn;clear H;go_enter Tryz.func87,Tryz.ntmps87
 go_wp2_with fail
 refine hc.out.mono ?_;rintro e w1 ⟨rfl,hb⟩;have hb':=hid hb;clear hb;go_wp2;go_ret2;exact bM.of hv.out hb'.out
theorem xP (B p:Nat) (T:aR) (nm:ByteArray) (a:Option Addr) (n c:Nat) (xs:List Int) (w:World) (H:lE B p T a n c xs w) :
  Calls Tryz.prog 87 #[.pointer (some ⟨p,0,none⟩),.int .i64 14,.string nm,.slice a n c] w fun e w'=>bM T 14 nm xs w e w':=by
 have hc:=hid (gA B p T 14 a n c xs w H.h H.hx H.hn H.hnc H.hi H.hnn);have hv:=@hid (aX T 14 nm xs=(1,cX T 14 xs)) (by rfl);have hn:=H.hn;clear H;go_enter Tryz.func87,Tryz.ntmps87
 go_wp2_with fail
 refine hc.out.mono ?_;rintro e w1 ⟨rfl,hb⟩;have hb':=hid hb;clear hb;go_wp2;go_ret2;exact bM.of hv.out hb'.out
theorem xQ (B p:Nat) (T:aR) (nm:ByteArray) (a:Option Addr) (n c:Nat) (xs:List Int) (w:World) (H:lE B p T a n c xs w) :
  Calls Tryz.prog 87 #[.pointer (some ⟨p,0,none⟩),.int .i64 15,.string nm,.slice a n c] w fun e w'=>bM T 15 nm xs w e w':=by
 have hc:=hid (gA B p T 15 a n c xs w H.h H.hx H.hn H.hnc H.hi H.hnn);have hv:=@hid (aX T 15 nm xs=(1,cX T 15 xs)) (by rfl);have hn:=H.hn;clear H;go_enter Tryz.func87,Tryz.ntmps87
 go_wp2_with fail
 refine hc.out.mono ?_;rintro e w1 ⟨rfl,hb⟩;have hb':=hid hb;clear hb;go_wp2;go_ret2;exact bM.of hv.out hb'.out
theorem xR (B p:Nat) (T:aR) (nm:ByteArray) (a:Option Addr) (n c:Nat) (xs:List Int) (w:World) (H:lE B p T a n c xs w) :
  Calls Tryz.prog 87 #[.pointer (some ⟨p,0,none⟩),.int .i64 16,.string nm,.slice a n c] w fun e w'=>bM T 16 nm xs w e w':=by
 have hc:=hid (gA B p T 16 a n c xs w H.h H.hx H.hn H.hnc H.hi H.hnn);have hv:=@hid (aX T 16 nm xs=(1,cX T 16 xs)) (by rfl);have hn:=H.hn;clear H;go_enter Tryz.func87,Tryz.ntmps87
 go_wp2_with fail
 refine hc.out.mono ?_;rintro e w1 ⟨rfl,hb⟩;have hb':=hid hb;clear hb;go_wp2;go_ret2;exact bM.of hv.out hb'.out
theorem xS (B p:Nat) (T:aR) (nm:ByteArray) (a:Option Addr) (n c:Nat) (xs:List Int) (w:World) (H:lE B p T a n c xs w) :
  Calls Tryz.prog 87 #[.pointer (some ⟨p,0,none⟩),.int .i64 10,.string nm,.slice a n c] w fun e w'=>bM T 10 nm xs w e w':=by
 have hd:=@hid (aX T 10 nm xs=if n=3/\(nodeAt T (nth xs 0)).sort=0/\lC T (xs.drop 1)=true then((nodeAt T (nth xs 1)).sort,true) else(0,false)) (by show aFh T xs=_;unfold aFh;rw [H.hx.len]);have hn:=H.hn;by_cases h3:n=3
 case neg=>
  have hv:=@hid (aX T 10 nm xs=(0,false)) (by rw [hd.out,if_neg (fun h=>h3 h.1)]);have h3i:¬(n:Int)=3:=by omega
  have h3d:decide ((n:Int)=3)=false:=by simpa using h3i
  clear H hd;go_enter Tryz.func87,Tryz.ntmps87
  go_wp2
  go_quiet (fail)
  go_wp2;go_ret2;exact bM.of hv.out ((Below.refl _ _).drewN _)
 subst h3;obtain ⟨b,o,rfl,k0⟩:=H.hx.at 0 (by omega);rw [Nat.add_zero] at k0;obtain ⟨b',o',he,k9⟩:=H.hx.at 1 (by omega);cases he;have lx:=H.hx.len;obtain ⟨g0,g1⟩:=H.hi (nth xs 0) (fF (by omega));obtain ⟨g2,g3⟩:=H.hi (nth xs 1) (fF (by omega));obtain ⟨i,hi⟩:=Int.eq_ofNat_of_zero_le g0;obtain ⟨j,hj⟩:=Int.eq_ofNat_of_zero_le g2;rw [hi] at k0 g1 hd;rw [hj] at k9 g3 hd;have H':=hid H;obtain ⟨q,a1,c1,a2,c2,m,ha⟩:=H.h.look;have hi1:i<T.nodes.length:=by omega
 have hj1:j<T.nodes.length:=by omega
 have hi2:(i:Int)<T.nodes.length:=by omega
 have hj2:(j:Int)<T.nodes.length:=by omega
 have k1:w.cell? ⟨p,1,none⟩=some (.slice a1 T.nodes.length c1):=aC ha.blk 1;obtain ⟨b1,o1,rfl,k2,_⟩:=ha.sortCell hi1;obtain ⟨b2,o2,he,k3,_⟩:=ha.sortCell hj1;cases he;have hnc:=H.hnc;have hal:=hid (fun(w1:World) (hw:Below w.heap.size w w1)=>pE B p T (gM (some ⟨b,o,none⟩) c 1 1) 2 (c - 1) (xs.drop 1) w1 (H.h.all hw) ((H.hx.from1 (by omega) hnc).below hw aB) (by omega) (H.hi.drop 1));have hsl:=fun W=>vQ (a:=some ⟨b,o,none⟩) (n:=3) (by omega) hnc W
 clear H ha g0 g2 hi hj;generalize (nodeAt T i).sort=y at *;generalize (nodeAt T j).sort=z at *;by_cases hy:y=0
 case neg=>
  have hv:=@hid (aX T 10 nm xs=(0,false)) (by rw [hd.out,if_neg (fun h=>hy h.2.1)]);have hyd:decide (y=0)=false:=by simpa using hy
  clear hd hal hsl;go_enter Tryz.func87,Tryz.ntmps87
  go_wp2
  go_quiet (fail)
  go_wp2;go_ret2;exact bM.of hv.out ((Below.refl _ _).drewN _)
 subst hy;cases hA:lC T (xs.drop 1)
 case false=>
  have hv:=@hid (aX T 10 nm xs=(0,false)) (by rw [hd.out,hA];simp);rw [hA] at hal;clear hd hA;go_enter Tryz.func87,Tryz.ntmps87
  go_wp2_with fail
  refine aW (S:=fun W=>Below w.heap.size w W) 20 (by kernel_rfl) (by kernel_rfl) (aG w) (fun _=>?_);refine aE 0 ?_;refine aE 1 ?_;refine aE 2 ?_;refine aE 3 ?_;refine aE 4 ?_;refine aE 5 ?_;refine aE 6 ?_;refine aE 7 (hy:=(by first | exact Or.inl ⟨by rfl,by(intro W hSw;have hq:=aD hSw k1;go_simp <;> with_reducible rfl)⟩ | exact Or.inr ⟨by rfl,rfl⟩)) ?_;refine aE 8 ?_;refine aE 9 ?_;refine aE 10 (hy:=(by first | exact Or.inl ⟨by rfl,by(intro W hSw;have hq:=aD hSw k0;go_simp <;> with_reducible rfl)⟩ | exact Or.inr ⟨by rfl,rfl⟩)) ?_;refine aE 11 ?_;refine aE 12 ?_;refine aE 13 (hy:=(by first | exact Or.inl ⟨by rfl,by(intro W hSw;have hq:=aD hSw k2;go_simp <;> with_reducible rfl)⟩ | exact Or.inr ⟨by rfl,rfl⟩)) ?_;refine aE 14 ?_;refine aE 15 ?_;refine aE 16 ?_;refine aE 17 ?_;refine aE 18 ?_;refine aE 19 ?_;refine bH (by decide +kernel) ?_;simp only [cG,bT]
  go_wp2_with fail
  refine(hal.out _ (by assumption)).mono ?_;rintro e w1 ⟨rfl,hb⟩;have hb':=hid ((aG w).trans (hb.mono (aG w).size));clear hb;go_wp2;go_ret2;exact bM.of hv.out hb'.out
 case true=>
  have hv:=@hid (aX T 10 nm xs=(z,true)) (by rw [hd.out,hA];simp);rw [hA] at hal;clear hd hA;go_enter Tryz.func87,Tryz.ntmps87
  go_wp2_with fail
  refine aW (S:=fun W=>Below w.heap.size w W) 20 (by kernel_rfl) (by kernel_rfl) (aG w) (fun _=>?_);refine aE 0 ?_;refine aE 1 ?_;refine aE 2 ?_;refine aE 3 ?_;refine aE 4 ?_;refine aE 5 ?_;refine aE 6 ?_;refine aE 7 (hy:=(by first | exact Or.inl ⟨by rfl,by(intro W hSw;have hq:=aD hSw k1;go_simp <;> with_reducible rfl)⟩ | exact Or.inr ⟨by rfl,rfl⟩)) ?_;refine aE 8 ?_;refine aE 9 ?_;refine aE 10 (hy:=(by first | exact Or.inl ⟨by rfl,by(intro W hSw;have hq:=aD hSw k0;go_simp <;> with_reducible rfl)⟩ | exact Or.inr ⟨by rfl,rfl⟩)) ?_;refine aE 11 ?_;refine aE 12 ?_;refine aE 13 (hy:=(by first | exact Or.inl ⟨by rfl,by(intro W hSw;have hq:=aD hSw k2;go_simp <;> with_reducible rfl)⟩ | exact Or.inr ⟨by rfl,rfl⟩)) ?_;refine aE 14 ?_;refine aE 15 ?_;refine aE 16 ?_;refine aE 17 ?_;refine aE 18 ?_;refine aE 19 ?_;refine bH (by decide +kernel) ?_;simp only [cG,bT]
  go_wp2_with fail
  refine(hal.out _ (by assumption)).mono ?_;rintro e w1 ⟨rfl,hb⟩;have hb0:=(aG w).trans (hb.mono (aG w).size);have hb':=hid hb0;have q1:=aD hb0 k1;have q9:=aD hb0 k9;have q3:=aD hb0 k3;clear hb hb0 k0 k1 k2 k3 k9;go_wp2
  go_quiet (fail)
  go_wp2;go_ret2;exact bM.of hv.out (hb'.out.drewN _)
theorem pF (B p:Nat) (T:aR) (op:Int) (nm:ByteArray) (a:Option Addr) (n c:Nat) (xs:List Int) (w:World) (H:lE B p T a n c xs w) (h1:1<=op) (h2:op<=20) :
  Calls Tryz.prog 87 #[.pointer (some ⟨p,0,none⟩),.int .i64 op,.string nm,.slice a n c] w fun e w'=>bM T op nm xs w e w':=by
 have:op=1\/op=2\/op=3\/op=4\/op=5\/op=6\/op=7\/op=8\/op=9\/op=10\/op=11\/op=12\/op=13\/op=14\/op=15\/op=16\/op=17\/op=18\/op=19\/op=20:=by omega
 rcases this with rfl | rfl | rfl | rfl | rfl | rfl | rfl | rfl | rfl | rfl | rfl | rfl | rfl | rfl | rfl | rfl | rfl | rfl | rfl | rfl
 ·exact zE B p T nm a n c xs w H
 ·exact zF B p T nm a n c xs w H
 ·exact zG B p T nm a n c xs w H
 ·exact zH B p T nm a n c xs w H
 ·exact zJ B p T nm a n c xs w H
 ·exact zK B p T nm a n c xs w H
 ·exact zL B p T nm a n c xs w H
 ·exact zM B p T nm a n c xs w H
 ·exact zN B p T nm a n c xs w H
 ·exact xS B p T nm a n c xs w H
 ·exact xI B p T nm a n c xs w H
 ·exact xJ B p T nm a n c xs w H
 ·exact xO B p T nm a n c xs w H
 ·exact xP B p T nm a n c xs w H
 ·exact xQ B p T nm a n c xs w H
 ·exact xR B p T nm a n c xs w H
 ·exact xK B p T nm a n c xs w H
 ·exact xL B p T nm a n c xs w H
 ·exact xM B p T nm a n c xs w H
 ·exact xN B p T nm a n c xs w H
abbrev iU (x:bY) (a:Option Addr) (c:Nat) (b:Option Addr) (d:Nat) (g:Option Addr) (e:Nat):Value:=
 .agg #[.int .i64 x.op,.string x.name,.bool x.val.neg,.slice a x.val.num.length c,.slice b x.val.den.length d,.slice g x.args.length e,.int .i64 x.sort]
def vR (p:Nat) (T:aR) (w:World):Prop:=∃(Bn:Nat) (a:Option Addr) (c:Nat),w.cell? ⟨p,2,none⟩=some (.slice a T.nums.length c)/\bK uZ (fun _=>False) w Bn 190 (.slice a T.nums.length c) T.nums/\p<w.heap.size
theorem vR.plt {p:Nat} {T:aR} {w:World} (h:vR p T w):p<w.heap.size:=by obtain ⟨_,_,_,_,_,h⟩:=h;exact h
theorem vR.all {p:Nat} {T:aR} {w w':World} (h:vR p T w) (hb:Below w.heap.size w w'):vR p T w':=by
 obtain ⟨Bn,a,c,h1,h2,h3⟩:=h;exact⟨Bn,a,c,aD hb h1,h2.below hb aB,bN h3 hb.size⟩
theorem tM {T:aR} {w:World} {Bn:Nat} {a:Option Addr} {n c:Nat} (h:bK uZ (fun _=>False) w Bn 190 (.slice a n c) T.nums) {k:Nat} (hk:k<T.nums.length):∃b o,a=some ⟨b,o,none⟩/\w.cell? ⟨b,o+k * 2,none⟩=some (.bool (numAt T k).1)/\w.cell? ⟨b,o+k * 2+1,none⟩=some (.bool (numAt T k).2):=
 (h.read (S':=fun _=>True) (fun _ _ _=>trivial) (fun _ _=>trivial)).numAt (vP hk)
def pG (T:aR) (xs:List Int) (k:Nat):Prop:=∀j,j<k->(numAt T (nth xs j)).1=true
theorem rM {T:aR} {xs:List Int} (h:pG T xs xs.length):jE T xs=true:=by
 unfold jE;rw [List.all_eq_true];intro x hx;obtain ⟨j,hj,rfl⟩:=List.getElem_of_mem hx;rw [<-cK hj];exact h j hj
theorem pH {T:aR} {xs:List Int} {k:Nat} (hk:k<xs.length) (h:(numAt T (nth xs k)).1=false):jE T xs=false:=by
 unfold jE;rw [List.all_eq_false];exact⟨nth xs k,fF hk,by rw [h];decide⟩
def aIv (T:aR) (x:bY) (w:World) (e:Ending) (w':World):Prop:=e = .returned (.agg #[.bool (eE T x).1,.bool (eE T x).2])/\Below w.heap.size w w'
theorem aL5 (n:Nat):((n:Int) == 0)=decide (n=0):=by
 cases n with
 | zero=>rfl
 | succ n=>rw [decide_eq_false (by omega)];simp;omega
theorem bX (w:World) (o1 o2:Obj):Below w.heap.size w ((w.alloc o1).alloc o2):=(bD).alloc (by simp) _
def kE (w wr:World) (x y:Bool):Prop:=Below w.heap.size w wr/\wr.heap[w.heap.size+1]? = some (.cells #[.bool x,.bool y] 190 (0,0))
theorem kE.start (w:World) (o:Obj) (x y:Bool):kE w ((w.alloc o).alloc (.cells #[.bool x,.bool y] 190)) x y:=⟨bX w _ _,cY w _ _⟩
theorem kE.set {w wr:World} {x y x' y':Bool} (h:kE w wr x y):kE w ((wr.setCell ⟨w.heap.size+1,0,none⟩ (.bool x')).setCell ⟨w.heap.size+1,1,none⟩ (.bool y')) x' y':=by
 refine⟨(h.1.setCell (by simp) _).setCell (by simp) _,?_⟩;unfold World.setCell;rw [Array.getElem?_modify,if_pos rfl,Array.getElem?_modify,if_pos rfl,h.2];rfl
theorem kE.drew {w wr:World} {x y:Bool} (h:kE w wr x y):kE w wr.drew x y:=⟨h.1.drewN 1,h.2⟩
theorem pJ (p:Nat) (T:aR) (x:bY) (a b g:Option Addr) (c d e:Nat) (w:World) (h:vR p T w) (hra:jP w g x.args.length x.args) (hi:InT T x.args) (hn:x.args.length<1099511627776) (hne:x.op=16->1<=x.args.length) (hnn:T.nums.length=T.nodes.length) :
  Calls Tryz.prog 137 #[.pointer (some ⟨p,0,none⟩),iU x a c b d g e] w fun e w'=>aIv T x w e w':=by
 have hd:=@hid (eE T x=if x.op=11 then(true,decide (x.val.num.length=0)) else if x.op=14\/x.op=16 then(if jE T x.args then(if x.op=16\/x.args.length=1 then numAt T (nth x.args 0) else(false,false)) else(false,false)) else(false,false)) rfl;have hi':=hid hi;have hnn':=hid hnn;clear hnn;obtain ⟨op,nm,⟨ng,nu,de⟩,args,so⟩:=x;dsimp only at *;have hB0:Below w.heap.size w ((w.alloc (.cells #[.int .i64 op,.string nm,.bool ng,.slice a nu.length c,.slice b de.length d,.slice g args.length e,.int .i64 so] 38)).alloc (.cells #[.bool false,.bool false] 190)):=(bD).alloc (by simp) _;have hB0':=hid hB0;have h1:=hid h;have hra':=hid hra;have hp0:=hid h.plt;obtain ⟨Bn,a2,c2,k1n,ha,_⟩:=h.all hB0;have k1:((w.alloc (.cells #[.int .i64 op,.string nm,.bool ng,.slice a nu.length c,.slice b de.length d,.slice g args.length e,.int .i64 so] 38)).alloc (.cells #[.bool false,.bool false] 190)).cell? ⟨p,2,none⟩=some (.slice a2 T.nums.length c2):=k1n;have ha':=hid ha;clear h hi hB0 hra ha;by_cases h11:op=11
 ·subst h11;have hv:=@hid (eE T ⟨11,nm,⟨ng,nu,de⟩,args,so⟩=(true,decide (nu.length=0))) (by rw [hd.out];rfl);go_enter Tryz.func137,Tryz.ntmps137
  go_wp2;refine bodyPost_ret (v:=.agg #[.bool true,.bool ((nu.length:Int) == 0)]) (by simp [results,Tryz.results137,go_sem, *]) rfl ?_;exact⟨by rw [hv.out,<-aL5],bX w _ _⟩
 by_cases h14:op=14\/op=16
 case neg=>
  have hv:=@hid (eE T ⟨op,nm,⟨ng,nu,de⟩,args,so⟩=(false,false)) (by rw [hd.out,if_neg h11,if_neg h14]);have i14:¬op=14:=fun e=>h14 (.inl e)
  have i16:¬op=16:=fun e=>h14 (.inr e)
  clear h14;go_enter Tryz.func137,Tryz.ntmps137
  go_wp2;refine bodyPost_ret (v:=.agg #[.bool false,.bool false]) (by simp [results,Tryz.results137,go_sem, *]) rfl ?_;exact⟨by rw [hv.out],bX w _ _⟩
 have hd2:=@hid (eE T ⟨op,nm,⟨ng,nu,de⟩,args,so⟩=(if jE T args then(if op=16\/args.length=1 then numAt T (nth args 0) else(false,false)) else(false,false))) (by rw [hd.out,if_neg h11,if_pos h14]);clear hd h11;by_cases htake:op=16\/args.length=1
 case neg=>
  have e14:op=14:=by rcases h14 with e | e;exact e;exact absurd (.inl e) htake
  have hl1:¬(args.length:Int)=1:=fun e=>htake (.inr (by omega))
  have hl1d:decide ((args.length:Int)=1)=false:=by simpa using hl1
  have hR:=hid (kE.start w (.cells #[.int .i64 op,.string nm,.bool ng,.slice a nu.length c,.slice b de.length d,.slice g args.length e,.int .i64 so] 38) false false);clear h14;subst e14;have hd2:=@hid (eE T ⟨14,nm,⟨ng,nu,de⟩,args,so⟩=(if jE T args then(false,false) else(false,false))) (by rw [hd2.out,if_neg htake]);go_enter Tryz.func137,Tryz.ntmps137
  go_wp2
  go_loopw [6,42] (fun _ i wr=>∃k:Nat,k<=args.length/\i = .int .i64 k/\Hid (pG T args k)/\Hid (kE w wr false false)) (fun _ i _=>args.length - (intOf i).toNat)
  case atStart=>exact⟨0,aV,rfl,fun j hj=>absurd hj (Nat.not_lt_zero _),hR.out⟩
  case round=>
   obtain ⟨k,hk,rfl,hne,hRr⟩:=hrel;obtain ⟨Bw,Hb⟩:=hRr.out;obtain ⟨rc0,rc1⟩:=gI Hb;obtain ⟨f0,f1⟩:=gN Hb;have Bw':=hid Bw;by_cases hlt:k<args.length
   ·obtain ⟨b3,o3,hg3,k0⟩:=(hra'.out.below Bw aB).at k hlt;cases hg3;obtain ⟨g0,g1⟩:=hi'.out (nth args k) (fF hlt);obtain ⟨j,hj⟩:=Int.eq_ofNat_of_zero_le g0;obtain ⟨Bn,a2,c2,k3n,ha,_⟩:=h1.out.all Bw;have hj1:j<T.nums.length:=by have:=hnn'.out;omega
    have hj2:(j:Int)<T.nums.length:=by have:=hnn'.out;omega
    have k3:wr.cell? ⟨p,2,none⟩=some (.slice a2 T.nums.length c2):=k3n;obtain ⟨b1,o1,rfl,k4,_⟩:=tM ha hj1;have hstep:=@hid ((numAt T j).1=true->pG T args (k+1)) (fun e i hi=>by
     by_cases hik:i<k
     ·exact hne.out i hik
     ·obtain rfl:i=k:=by omega
      rw [hj];exact e)
    have hno:=@hid ((numAt T j).1=false->jE T args=false) (fun e=>pH hlt (by rw [hj];exact e));rw [hj] at k0;clear ha g0 g1 hj hne Bw Hb;cases hz:(numAt T j).1
    case true=>
     have hv:=hid (hstep.out hz);rw [hz] at k4;clear hno hstep hz;go_wp2
     go_roundw
     case rel=>exact⟨k+1,by omega,by go_num,hv.out,hRr.out⟩
     case measure=>simp [intOf];omega
    case false=>
     have hv:=@hid (eE T ⟨14,nm,⟨ng,nu,de⟩,args,so⟩=(false,false)) (by rw [hd2.out,hno.out hz];rfl);rw [hz] at k4;clear hno hstep hz;go_wp2;refine bodyPost_ret (v:=.agg #[.bool false,.bool false]) (by simp [results,Tryz.results137,go_sem, *]) rfl ?_;exact⟨by rw [hv.out],(Bw'.out.setCell (by simp) _).setCell (by simp) _⟩
   ·have hkn:k=args.length:=by omega
    have hv:=@hid (eE T ⟨14,nm,⟨ng,nu,de⟩,args,so⟩=(false,false)) (by rw [hd2.out,rM (hkn ▸ hne.out)] <;> rfl);clear hkn Bw Hb;go_wp2;refine bodyPost_ret (v:=.agg #[.bool false,.bool false]) (by simp [results,Tryz.results137,go_sem, *]) rfl ?_;exact⟨by rw [hv.out],(Bw'.out.setCell (by simp) _).setCell (by simp) _⟩
 by_cases h16:op=16
 case pos=>
  subst h16;have hn1:=hne rfl;clear h14 hne;obtain ⟨b2,o2,rfl,k0⟩:=hra'.out.at 0 (by omega);obtain ⟨g0,g1⟩:=hi'.out (nth args 0) (fF (by omega));obtain ⟨j,hj⟩:=Int.eq_ofNat_of_zero_le g0;rw [hj] at k0 g1;rw [Nat.add_zero] at k0;have hj1:j<T.nums.length:=by have:=hnn'.out;omega
  have hj2:(j:Int)<T.nums.length:=by have:=hnn'.out;omega
  have hn0:0<args.length:=by omega
  obtain ⟨b1,o1,rfl,k4,k5⟩:=tM ha'.out hj1;have hd3:=@hid (eE T ⟨16,nm,⟨ng,nu,de⟩,args,so⟩=(if jE T args then numAt T j else(false,false))) (by rw [hd2.out,if_pos htake,hj]);clear hd2;generalize numAt T j=r at *;obtain ⟨r0,r1⟩:=r;have hR0:=kE.start w (.cells #[.int .i64 16,.string nm,.bool ng,.slice a nu.length c,.slice b de.length d,.slice (some ⟨b2,o2,none⟩) args.length e,.int .i64 so] 38) false false;have kb:((w.alloc (.cells #[.int .i64 16,.string nm,.bool ng,.slice a nu.length c,.slice b de.length d,.slice (some ⟨b2,o2,none⟩) args.length e,.int .i64 so] 38)).alloc (.cells #[.bool false,.bool false] 190)).cell? ⟨w.heap.size,5,none⟩=some (.slice (some ⟨b2,o2,none⟩) args.length e):=aC (dG w (Obj.cells #[.int .i64 16,.string nm,.bool ng,.slice a nu.length c,.slice b de.length d,.slice (some ⟨b2,o2,none⟩) args.length e,.int .i64 so] 38) (Obj.cells #[.bool false,.bool false] 190)) 5;have kb':=hid kb;have k1':=hid k1;have k4':=hid k4;have k0':=hid (aD (bX w (.cells #[.int .i64 16,.string nm,.bool ng,.slice a nu.length c,.slice b de.length d,.slice (some ⟨b2,o2,none⟩) args.length e,.int .i64 so] 38) (.cells #[.bool false,.bool false] 190)) k0);have k5':=hid k5;have hR0':=hid hR0;clear k0 k1 k4 k5 kb hR0 g0 g1 hj ha';go_enter Tryz.func137,Tryz.ntmps137
  go_wp2;refine qA 10 (by kernel_rfl) (by kernel_rfl) ?_;intro W hW;have m0:W.cell? ⟨b2,o2,none⟩=some (.int .i64 j):=by rw [hW];exact k0'.out
  have m1:W.cell? ⟨p,2,none⟩=some (.slice (some ⟨b1,o1,none⟩) T.nums.length c2):=by rw [hW];exact k1'.out
  have m2:W.cell? ⟨w.heap.size,5,none⟩=some (.slice (some ⟨b2,o2,none⟩) args.length e):=by rw [hW];exact kb'.out
  have m4:W.cell? ⟨b1,o1+j * 2,none⟩=some (.bool r0):=by rw [hW];exact k4'.out
  have m5:W.cell? ⟨b1,o1+j * 2+1,none⟩=some (.bool r1):=by rw [hW];exact k5'.out
  have R:kE w W false false:=by rw [hW];exact hR0'.out.drew
  have n0:=aC R.2 0;have n1:=aC R.2 1;have f0:=aY R.2 0;have f1:=aY R.2 1;simp only [dA,dB,cW] at n0 n1;have hR:=hid (R.set (x':=r0) (y':=r1));clear hW k0' k1' k4' k5' kb' hR0' R;simp only [List.take_succ_cons,List.take_zero,cG,bT]
  repeat still_step
  refine wpStill_nil ?_;have m2s:((W.setCell ⟨w.heap.size+1,0,none⟩ (.bool r0)).setCell ⟨w.heap.size+1,1,none⟩ (.bool r1)).cell? ⟨w.heap.size,5,none⟩=some (.slice (some ⟨b2,o2,none⟩) args.length e):=by
   rw [World.cell?_setCell_far _ _ _ _ (by simp),World.cell?_setCell_far _ _ _ _ (by simp)];exact m2
  go_wp2
  go_loopw [6,42] (fun _ i wr=>∃k:Nat,k<=args.length/\i = .int .i64 k/\Hid (pG T args k)/\Hid (kE w wr r0 r1)) (fun _ i _=>args.length - (intOf i).toNat)
  case atStart=>exact⟨0,aV,rfl,fun j hj=>absurd hj (Nat.not_lt_zero _),hR.out⟩
  case round=>
   obtain ⟨k,hk,rfl,hne,hRr⟩:=hrel;obtain ⟨Bw,Hb⟩:=hRr.out;obtain ⟨rc0,rc1⟩:=gI Hb;obtain ⟨f0,f1⟩:=gN Hb;have Bw':=hid Bw;by_cases hlt:k<args.length
   ·obtain ⟨b3,o3,hg3,k0⟩:=(hra'.out.below Bw aB).at k hlt;cases hg3;obtain ⟨g0,g1⟩:=hi'.out (nth args k) (fF hlt);obtain ⟨j,hj⟩:=Int.eq_ofNat_of_zero_le g0;obtain ⟨Bn,a2,c2,k3n,ha,_⟩:=h1.out.all Bw;have hj1:j<T.nums.length:=by have:=hnn'.out;omega
    have hj2:(j:Int)<T.nums.length:=by have:=hnn'.out;omega
    have k3:wr.cell? ⟨p,2,none⟩=some (.slice a2 T.nums.length c2):=k3n;obtain ⟨b1,o1,rfl,k4,_⟩:=tM ha hj1;have hstep:=@hid ((numAt T j).1=true->pG T args (k+1)) (fun e i hi=>by
     by_cases hik:i<k
     ·exact hne.out i hik
     ·obtain rfl:i=k:=by omega
      rw [hj];exact e)
    have hno:=@hid ((numAt T j).1=false->jE T args=false) (fun e=>pH hlt (by rw [hj];exact e));rw [hj] at k0;clear ha g0 g1 hj hne Bw Hb;cases hz:(numAt T j).1
    case true=>
     have hv:=hid (hstep.out hz);rw [hz] at k4;clear hno hstep hz;go_wp2
     go_roundw
     case rel=>exact⟨k+1,by omega,by go_num,hv.out,hRr.out⟩
     case measure=>simp [intOf];omega
    case false=>
     have hv:=@hid (eE T ⟨16,nm,⟨ng,nu,de⟩,args,so⟩=(false,false)) (by rw [hd3.out,hno.out hz];rfl);rw [hz] at k4;clear hno hstep hz;go_wp2;refine bodyPost_ret (v:=.agg #[.bool false,.bool false]) (by simp [results,Tryz.results137,go_sem, *]) rfl ?_;exact⟨by rw [hv.out],(Bw'.out.setCell (by simp) _).setCell (by simp) _⟩
   ·have hkn:k=args.length:=by omega
    have hv:=@hid (eE T ⟨16,nm,⟨ng,nu,de⟩,args,so⟩=(r0,r1)) (by rw [hd3.out,rM (hkn ▸ hne.out)] <;> rfl);clear hkn Bw Hb;go_wp2;refine bodyPost_ret (v:=.agg #[.bool r0,.bool r1]) (by simp [results,Tryz.results137,go_sem, *]) rfl ?_;exact⟨by rw [hv.out],(Bw'.out.setCell (by simp) _).setCell (by simp) _⟩
 case neg=>
  have e14:op=14:=by rcases h14 with e | e;exact e;exact absurd e h16
  have hl1:args.length=1:=by rcases htake with e | e;exact absurd e h16;exact e
  have hl1i:(args.length:Int)=1:=by omega
  subst e14;clear h14 hne;obtain ⟨b2,o2,rfl,k0⟩:=hra'.out.at 0 (by omega);obtain ⟨g0,g1⟩:=hi'.out (nth args 0) (fF (by omega));obtain ⟨j,hj⟩:=Int.eq_ofNat_of_zero_le g0;rw [hj] at k0 g1;rw [Nat.add_zero] at k0;have hj1:j<T.nums.length:=by have:=hnn'.out;omega
  have hj2:(j:Int)<T.nums.length:=by have:=hnn'.out;omega
  have hn0:0<args.length:=by omega
  obtain ⟨b1,o1,rfl,k4,k5⟩:=tM ha'.out hj1;have hd3:=@hid (eE T ⟨14,nm,⟨ng,nu,de⟩,args,so⟩=(if jE T args then numAt T j else(false,false))) (by rw [hd2.out,if_pos htake,hj]);clear hd2;generalize numAt T j=r at *;obtain ⟨r0,r1⟩:=r;have hR0:=kE.start w (.cells #[.int .i64 14,.string nm,.bool ng,.slice a nu.length c,.slice b de.length d,.slice (some ⟨b2,o2,none⟩) args.length e,.int .i64 so] 38) false false;have kb:((w.alloc (.cells #[.int .i64 14,.string nm,.bool ng,.slice a nu.length c,.slice b de.length d,.slice (some ⟨b2,o2,none⟩) args.length e,.int .i64 so] 38)).alloc (.cells #[.bool false,.bool false] 190)).cell? ⟨w.heap.size,5,none⟩=some (.slice (some ⟨b2,o2,none⟩) args.length e):=aC (dG w (Obj.cells #[.int .i64 14,.string nm,.bool ng,.slice a nu.length c,.slice b de.length d,.slice (some ⟨b2,o2,none⟩) args.length e,.int .i64 so] 38) (Obj.cells #[.bool false,.bool false] 190)) 5;have kb':=hid kb;have k1':=hid k1;have k4':=hid k4;have k0':=hid (aD (bX w (.cells #[.int .i64 14,.string nm,.bool ng,.slice a nu.length c,.slice b de.length d,.slice (some ⟨b2,o2,none⟩) args.length e,.int .i64 so] 38) (.cells #[.bool false,.bool false] 190)) k0);have k5':=hid k5;have hR0':=hid hR0;clear k0 k1 k4 k5 kb hR0 g0 g1 hj ha';clear hl1;go_enter Tryz.func137,Tryz.ntmps137
  go_wp2;refine qA 10 (by kernel_rfl) (by kernel_rfl) ?_;intro W hW;have m0:W.cell? ⟨b2,o2,none⟩=some (.int .i64 j):=by rw [hW];exact k0'.out
  have m1:W.cell? ⟨p,2,none⟩=some (.slice (some ⟨b1,o1,none⟩) T.nums.length c2):=by rw [hW];exact k1'.out
  have m2:W.cell? ⟨w.heap.size,5,none⟩=some (.slice (some ⟨b2,o2,none⟩) args.length e):=by rw [hW];exact kb'.out
  have m4:W.cell? ⟨b1,o1+j * 2,none⟩=some (.bool r0):=by rw [hW];exact k4'.out
  have m5:W.cell? ⟨b1,o1+j * 2+1,none⟩=some (.bool r1):=by rw [hW];exact k5'.out
  have R:kE w W false false:=by rw [hW];exact hR0'.out.drew
  have n0:=aC R.2 0;have n1:=aC R.2 1;have f0:=aY R.2 0;have f1:=aY R.2 1;simp only [dA,dB,cW] at n0 n1;have hR:=hid (R.set (x':=r0) (y':=r1));clear hW k0' k1' k4' k5' kb' hR0' R;simp only [List.take_succ_cons,List.take_zero,cG,bT]
  repeat still_step
  refine wpStill_nil ?_;clear hl1i;have m2s:((W.setCell ⟨w.heap.size+1,0,none⟩ (.bool r0)).setCell ⟨w.heap.size+1,1,none⟩ (.bool r1)).cell? ⟨w.heap.size,5,none⟩=some (.slice (some ⟨b2,o2,none⟩) args.length e):=by
   rw [World.cell?_setCell_far _ _ _ _ (by simp),World.cell?_setCell_far _ _ _ _ (by simp)];exact m2
  go_wp2
  go_loopw [6,42] (fun _ i wr=>∃k:Nat,k<=args.length/\i = .int .i64 k/\Hid (pG T args k)/\Hid (kE w wr r0 r1)) (fun _ i _=>args.length - (intOf i).toNat)
  case atStart=>exact⟨0,aV,rfl,fun j hj=>absurd hj (Nat.not_lt_zero _),hR.out⟩
  case round=>
   obtain ⟨k,hk,rfl,hne,hRr⟩:=hrel;obtain ⟨Bw,Hb⟩:=hRr.out;obtain ⟨rc0,rc1⟩:=gI Hb;obtain ⟨f0,f1⟩:=gN Hb;have Bw':=hid Bw;by_cases hlt:k<args.length
   ·obtain ⟨b3,o3,hg3,k0⟩:=(hra'.out.below Bw aB).at k hlt;cases hg3;obtain ⟨g0,g1⟩:=hi'.out (nth args k) (fF hlt);obtain ⟨j,hj⟩:=Int.eq_ofNat_of_zero_le g0;obtain ⟨Bn,a2,c2,k3n,ha,_⟩:=h1.out.all Bw;have hj1:j<T.nums.length:=by have:=hnn'.out;omega
    have hj2:(j:Int)<T.nums.length:=by have:=hnn'.out;omega
    have k3:wr.cell? ⟨p,2,none⟩=some (.slice a2 T.nums.length c2):=k3n;obtain ⟨b1,o1,rfl,k4,_⟩:=tM ha hj1;have hstep:=@hid ((numAt T j).1=true->pG T args (k+1)) (fun e i hi=>by
     by_cases hik:i<k
     ·exact hne.out i hik
     ·obtain rfl:i=k:=by omega
      rw [hj];exact e)
    have hno:=@hid ((numAt T j).1=false->jE T args=false) (fun e=>pH hlt (by rw [hj];exact e));rw [hj] at k0;clear ha g0 g1 hj hne Bw Hb;cases hz:(numAt T j).1
    case true=>
     have hv:=hid (hstep.out hz);rw [hz] at k4;clear hno hstep hz;go_wp2
     go_roundw
     case rel=>exact⟨k+1,by omega,by go_num,hv.out,hRr.out⟩
     case measure=>simp [intOf];omega
    case false=>
     have hv:=@hid (eE T ⟨14,nm,⟨ng,nu,de⟩,args,so⟩=(false,false)) (by rw [hd3.out,hno.out hz];rfl);rw [hz] at k4;clear hno hstep hz;go_wp2;refine bodyPost_ret (v:=.agg #[.bool false,.bool false]) (by simp [results,Tryz.results137,go_sem, *]) rfl ?_;exact⟨by rw [hv.out],(Bw'.out.setCell (by simp) _).setCell (by simp) _⟩
   ·have hkn:k=args.length:=by omega
    have hv:=@hid (eE T ⟨14,nm,⟨ng,nu,de⟩,args,so⟩=(r0,r1)) (by rw [hd3.out,rM (hkn ▸ hne.out)] <;> rfl);clear hkn Bw Hb;go_wp2;refine bodyPost_ret (v:=.agg #[.bool r0,.bool r1]) (by simp [results,Tryz.results137,go_sem, *]) rfl ?_;exact⟨by rw [hv.out],(Bw'.out.setCell (by simp) _).setCell (by simp) _⟩
def dM (n:Nat) (w:World) (k:Nat):Prop:=dO w k/\n<=k
theorem bJ.move {α:Type} {R:bV α} {n:Nat} {w w':World} {a:Option Addr} {m:Nat} {xs:List α} (h:bJ R (dM n w) w a m xs) (hk:∀k,dO w k->w'.heap[k]? = w.heap[k]?) (hs:w.heap.size<=w'.heap.size):bJ R (dM n w') w' a m xs:=
 (h.keep (fun b _ hb=>hk b hb.1) hs).mono fun b _ hb=>⟨hb.1.same (hk b hb.1),hb.2⟩
theorem dR.move {n:Nat} {w w':World} {x:bY} {a b g:Option Addr} {c d e:Nat} (h:dR (dM n w) w x a c b d g e) (hk:∀k,dO w k->w'.heap[k]? = w.heap[k]?) (hs:w.heap.size<=w'.heap.size):dR (dM n w') w' x a c b d g e:=
 ⟨h.num.move hk hs,h.nc,h.den.move hk hs,h.dc,h.args.move hk hs,h.ac,h.op,h.sort⟩
structure lM (w wr:World) (cs zs:Array Value):Prop where
 b:Below w.heap.size w wr
 n:wr.heap[w.heap.size]? = some (.cells cs 38 (0,0))
 r:wr.heap[w.heap.size+1]? = some (.cells zs 38 (0,0))
section
variable {w wr w' : World} {cs zs : Array Value}
theorem lM.lt (h:lM w wr cs zs):w.heap.size+1<wr.heap.size:=(bQ h.r).1
theorem lM.all (h:lM w wr cs zs) (hb:Below wr.heap.size wr w'):lM w w' cs zs:=
 ⟨h.b.trans (hb.mono h.b.size),(hb.block _ (by have:=h.lt;omega)).trans h.n,(hb.block _ h.lt).trans h.r⟩
theorem lM.setN (h:lM w wr cs zs) (i:Nat) (v:Value):lM w (wr.setCell ⟨w.heap.size,i,none⟩ v) (cs.setIfInBounds i v) zs:=by
 refine⟨h.b.setCell aB _,?_,?_⟩
 ·unfold World.setCell;rw [Array.getElem?_modify,if_pos rfl,h.n];rfl
 ·rw [Below.heap_setCell _ _ _ _ (by simp)];exact h.r
theorem lM.setR (h:lM w wr cs zs) (i:Nat) (v:Value):lM w (wr.setCell ⟨w.heap.size+1,i,none⟩ v) cs (zs.setIfInBounds i v):=by
 refine⟨h.b.setCell (by simp) _,?_,?_⟩
 ·rw [Below.heap_setCell _ _ _ _ (by simp)];exact h.n
 ·unfold World.setCell;rw [Array.getElem?_modify,if_pos rfl,h.r];rfl
theorem lM.dat (h:lM w wr cs zs) {k:Nat} (hk:dO wr k):k≠w.heap.size/\k≠w.heap.size+1:=
 ⟨fun e=>by subst e;exact dO.ne hk (by decide) (by decide) ⟨_,_,h.n⟩,fun e=>by subst e;exact dO.ne hk (by decide) (by decide) ⟨_,_,h.r⟩⟩
theorem lM.keepN (h:lM w wr cs zs) (i:Nat) (v:Value):∀k,dO wr k->(wr.setCell ⟨w.heap.size,i,none⟩ v).heap[k]? = wr.heap[k]?:=fun _ hk=>Below.heap_setCell _ _ _ _ (fun e=>(h.dat hk).1 e)
theorem lM.keepR (h:lM w wr cs zs) (i:Nat) (v:Value):∀k,dO wr k->(wr.setCell ⟨w.heap.size+1,i,none⟩ v).heap[k]? = wr.heap[k]?:=fun _ hk=>Below.heap_setCell _ _ _ _ (fun e=>(h.dat hk).2 e)
end
theorem Below.dat {w w':World} (hb:Below w.heap.size w w'):∀k,dO w k->w'.heap[k]? = w.heap[k]?:=fun k hk=>hb.block k hk.lt
theorem fD {w:World} {p:Addr} {v:Value}:(w.setCell p v).heap.size=w.heap.size:=by simp [World.setCell]
theorem bK.datF {w:World} {base n:Nat} {a:Option Addr} {m c:Nat} {xs:List Int} (h:bK bV.u64 (fun _=>False) w base 177 (.slice a m c) xs) (hn:n<=base):bJ bV.u64 (dM n w) w a m xs:=
 h.read (fun _ _ e=>e.elim) fun k hk=>by
  obtain ⟨cs,f,hc⟩:=h.ty k hk;exact⟨⟨cs,f,.inr hc⟩,aK hn (h.lt k hk).1⟩
theorem OwnRow.datF {w:World} {base n:Nat} {a:Option Addr} {m c:Nat} {xs:List Int} (h:w.ownsRow base 3 1 (.slice a m c) m (xs.map (Value.int .i64))) (hwf:WfI xs) (hn:n<=base):bJ bV.int (dM n w) w a m xs/\m<=c/\c<=maxLen:=by
 obtain ⟨_,h2,h3⟩:=yU (X:=fun k=>k<n) h hwf (fun k hk=>bN hk hn);exact⟨h2.mono fun b _ hb=>⟨by obtain ⟨_,cs,f,hc⟩:=hb;exact⟨cs,f,.inl hc⟩,Nat.le_of_not_lt hb.1⟩,h3⟩
def vB (n:Nat) (w:World) (k:Nat):Prop:=(∃cs f,w.heap[k]? = some (.cells cs 177 f))/\n<=k
structure aBo (n:Nat) (w:World) (x:bY) (a:Option Addr) (c:Nat) (b:Option Addr) (d:Nat) (g:Option Addr) (e:Nat):Prop where
 ow:bW w n 3 1 (.slice g x.args.length e) x.args.length (x.args.map (Value.int .i64))
 num:bJ bV.u64 (vB n w) w a x.val.num.length x.val.num
 den:bJ bV.u64 (vB n w) w b x.val.den.length x.val.den
theorem vB.dat {n:Nat} {w:World} {k:Nat} (h:vB n w k):dO w k:=by obtain ⟨⟨cs,f,h⟩,_⟩:=h;exact⟨cs,f,.inr h⟩
theorem vB.same {n:Nat} {w w':World} {k:Nat} (h:vB n w k) (hb:w'.heap[k]? = w.heap[k]?):vB n w' k:=by obtain ⟨⟨cs,f,h⟩,h2⟩:=h;exact⟨⟨cs,f,by rw [hb];exact h⟩,h2⟩
theorem bJ.moveU {n:Nat} {w w':World} {a:Option Addr} {m:Nat} {xs:List Int} (h:bJ bV.u64 (vB n w) w a m xs) (hk:∀k,dO w k->w'.heap[k]? = w.heap[k]?) (hs:w.heap.size<=w'.heap.size):bJ bV.u64 (vB n w') w' a m xs:=
 (h.keep (fun b _ hb=>hk b hb.dat) hs).mono fun b _ hb=>hb.same (hk b hb.dat)
theorem bW.dat {w:World} {n s m:Nat} {v:Value} {xs:List Value} (h:bW w n 3 s v m xs):∀k,v.ownBlock=some k->dO w k:=fun k hk=>by obtain ⟨cs,f,hc⟩:=h.ty k hk;exact⟨cs,f,.inl hc⟩
theorem aBo.move {n:Nat} {w w':World} {x:bY} {a b g:Option Addr} {c d e:Nat} (h:aBo n w x a c b d g e) (hk:∀k,dO w k->w'.heap[k]? = w.heap[k]?) (hs:w.heap.size<=w'.heap.size):aBo n w' x a c b d g e:=
 ⟨h.ow.same fun k hk'=>hk k (h.ow.dat k hk'),h.num.moveU hk hs,h.den.moveU hk hs⟩
theorem bK.datU {w:World} {base n:Nat} {a:Option Addr} {m c:Nat} {xs:List Int} (h:bK bV.u64 (fun _=>False) w base 177 (.slice a m c) xs) (hn:n<=base):bJ bV.u64 (vB n w) w a m xs:=
 h.read (fun _ _ e=>e.elim) fun k hk=>by
  obtain ⟨cs,f,hc⟩:=h.ty k hk;exact⟨⟨cs,f,hc⟩,aK hn (h.lt k hk).1⟩
def aL6 (x:bY) (w:World) (e:Ending) (w':World):Prop:=
 ∃a c b d g h,e = .returned (iU x a c b d g h)/\dR (dM w.heap.size w') w' x a c b d g h/\aBo w.heap.size w' x a c b d g h/\Below w.heap.size w w'
def aM9 (x:bY) (w:World) (e:Ending) (w':World):Prop:=
 ∃a c b d g h,e = .returned (iU x a c b d g h)/\dR (dM w.heap.size w') w' x a c b d g h/\Below w.heap.size w w'
theorem aFq {S:Nat->Prop} (x:bY) (a b g:Option Addr) (c d e:Nat) (w:World) (hx:dR S w x a c b d g e) (hn1:x.val.num.length<17592186044416) (hn2:x.val.den.length<17592186044416) (hn3:x.args.length<17592186044416) :
  Calls Tryz.prog 70 #[iU x a c b d g e] w fun e w'=>aL6 x w e w':=by
 have hx':=hid hx;have hwf:=hid (show WfI x.args from hx.args.toI.wf);have hop:=hid hx.op;have hso:=hid hx.sort;obtain ⟨op,nm,⟨ng,nu,de⟩,args,so⟩:=x;dsimp only at *;have h0:lM w ((w.alloc (.cells #[.int .i64 op,.string nm,.bool ng,.slice a nu.length c,.slice b de.length d,.slice g args.length e,.int .i64 so] 38)).alloc (.cells #[.int .i64 0,.string ByteArray.empty,.bool false,.slice none 0 0,.slice none 0 0,.slice none 0 0,.int .i64 0] 38)) _ _:=⟨bX w _ _,dG w _ _,cY w _ _⟩;have h0':=hid h0;have hc1:=hid (vN g args.length e args _ (hx.args.toI.below h0.b aB) hn3);clear hx h0;go_enter Tryz.func70,Tryz.ntmps70
 go_wp2_with fail
 refine hc1.out.mono ?_;rintro e1 w1 ⟨g',e',rfl,ho,hb1⟩;obtain ⟨hs1,hc5,hc6⟩:=OwnRow.datF (n:=w.heap.size) ho hwf.out (by simp;omega);have X1:=hid (h0'.out.all hb1);have S1:=hid hs1;have P1:=hid ((bW.of ho).lower (base':=w.heap.size) (by simp;omega));have n5:=aC X1.out.n 5;have f5:=aY X1.out.n 5;simp only [dA,dB,cW] at n5;have HC5:=hid hc5;have HC6:=hid hc6;clear ho hb1 hs1 hc1 h0' hc5 hc6;go_wp2;have X2:=hid (X1.out.setN 5 (.slice g' args.length e'));have S2:=hid (S1.out.move (X1.out.keepN 5 _) (Nat.le_of_eq fD.symm) (w':=w1.setCell ⟨w.heap.size,5,none⟩ (.slice g' args.length e')));have P2:=hid (P1.out.same (w':=w1.setCell ⟨w.heap.size,5,none⟩ (.slice g' args.length e')) fun k hk=>X1.out.keepN 5 _ k (P1.out.dat k hk));generalize hW2:w1.setCell ⟨w.heap.size,5,none⟩ (.slice g' args.length e')=w2 at *;have q3:w2.cell? ⟨w.heap.size,3,none⟩=some (.slice a nu.length c):=aC X2.out.n 3;have q4:w2.cell? ⟨w.heap.size,4,none⟩=some (.slice b de.length d):=aC X2.out.n 4;have hk1:=hid (fun(W:World) (hW:Below w2.heap.size w2 W)=>cV a nu.length c nu W (hx'.out.num.below (X2.out.b.trans (hW.mono X2.out.b.size)) aB) hn1);have hk2:=hid (fun(W:World) (hW:Below w2.heap.size w2 W)=>cV b de.length d de W (hx'.out.den.below (X2.out.b.trans (hW.mono X2.out.b.size)) aB) hn2);have hsz2:=X2.out.b.size;clear hW2 n5 f5;refine aW (S:=fun W=>Below w2.heap.size w2 W) 10 (by kernel_rfl) (by kernel_rfl) (aG w2) (fun _=>?_);refine aE 0 ?_;refine aE 1 ?_;refine cJ 2 (fun W h=>aD h q3) ?_;refine aE 4 ?_;refine aE 5 ?_;refine cJ 6 (fun W h=>aD h q4) ?_;refine aN 3 fun K hK=>?_;go_simp
 go_at_call 120
 refine(hk1.out _ (by assumption)).mono ?_;rintro e3 w3 ⟨a3,c3,rfl,ho3,hb3⟩;have B3:Below w2.heap.size w2 w3:=(aG w2).trans (hb3.mono (aG w2).size);have O3:=hid (ho3.datF (n:=w.heap.size) (by exact hsz2));have U3:=hid (ho3.datU (n:=w.heap.size) (by exact hsz2));have L3:=hid ho3.slice;clear ho3 hb3;dsimp only;refine hK.out _ _ (by(exact B3)) (fun hHeld2=>?_);clear hK K;(try simp only [Act.put,sA,sB,sC]);refine aE 8 ?_;refine aE 9 ?_;refine aN 7 fun K hK=>?_;go_simp
 go_at_call 120
 refine(hk2.out _ B3).mono ?_;rintro e4 w4 ⟨a4,c4,rfl,ho4,hb4⟩;have B4:Below w2.heap.size w2 w4:=B3.trans (hb4.mono B3.size);have O4:=hid (ho4.datF (n:=w.heap.size) (aK hsz2 B3.size));have O3':=hid (O3.out.move (Below.dat hb4) hb4.size);have U4:=hid (ho4.datU (n:=w.heap.size) (aK hsz2 B3.size));have U3':=hid (U3.out.moveU (Below.dat hb4) hb4.size);have L4:=hid ho4.slice;clear ho4 hb4;dsimp only;refine hK.out _ _ (by(exact B4)) (fun hHeld3=>?_);clear hK K;(try simp only [Act.put,sA,sB,sC]);refine bH (by decide +kernel) ?_;simp only [cG,bT];have X4:=hid (X2.out.all B4);have S4:=hid (S2.out.move (Below.dat B4) B4.size);have P4:=hid (P2.out.same fun k hk=>Below.dat B4 k (P2.out.dat k hk));clear B3 B4 q3 q4;have n0:=aC X4.out.n 0;have n1:=aC X4.out.n 1;have n2:=aC X4.out.n 2;have n3:=aC X4.out.n 3;have n4:=aC X4.out.n 4;have n5:=aC X4.out.n 5;have n6:=aC X4.out.n 6;have r0:=aC X4.out.r 0;have r1:=aC X4.out.r 1;have r2:=aC X4.out.r 2;have r3:=aC X4.out.r 3;have r4:=aC X4.out.r 4;have r5:=aC X4.out.r 5;have r6:=aC X4.out.r 6;have f3:=aY X4.out.n 3;have f4:=aY X4.out.n 4;have g0:=aY X4.out.r 0;have g1:=aY X4.out.r 1;have g2:=aY X4.out.r 2;have g3:=aY X4.out.r 3;have g4:=aY X4.out.r 4;have g5:=aY X4.out.r 5;have g6:=aY X4.out.r 6;simp only [List.size_toArray,List.length_cons,List.length_nil,Array.getElem?_setIfInBounds,dA,dB,cW,Nat.reduceEqDiff,if_false,if_true,Nat.reduceLT,Nat.reduceAdd] at n0 n1 n2 n3 n4 n5 n6 r0 r1 r2 r3 r4 r5 r6;go_wp2;refine bodyPost_ret (v:=iU ⟨op,nm,⟨ng,nu,de⟩,args,so⟩ a3 c3 a4 c4 g' e') (by simp [results,Tryz.results70,go_sem, *]) rfl ?_;have Y5:=X4.out.setN 3 (.slice a3 nu.length c3);have Y6:=Y5.setN 4 (.slice a4 de.length c4);have T4:dR (dM w.heap.size w4) w4 ⟨op,nm,⟨ng,nu,de⟩,args,so⟩ a3 c3 a4 c4 g' e':=⟨O3'.out,by obtain ⟨_,_,e,h⟩:=L3.out;cases e;exact h,O4.out,by obtain ⟨_,_,e,h⟩:=L4.out;cases e;exact h,S4.out,⟨HC5.out,HC6.out⟩,hop.out,hso.out⟩;have V4:aBo w.heap.size w4 ⟨op,nm,⟨ng,nu,de⟩,args,so⟩ a3 c3 a4 c4 g' e':=⟨P4.out,U3'.out,U4.out⟩;have T5:=T4.move (X4.out.keepN 3 (.slice a3 nu.length c3)) (Nat.le_of_eq fD.symm);have V5:=V4.move (X4.out.keepN 3 (.slice a3 nu.length c3)) (Nat.le_of_eq fD.symm);have T6:=T5.move (Y5.keepN 4 (.slice a4 de.length c4)) (Nat.le_of_eq fD.symm);have V6:=V5.move (Y5.keepN 4 (.slice a4 de.length c4)) (Nat.le_of_eq fD.symm);have hR:∀(l:List (Nat × Value)) (W:World) (cs zs:Array Value),lM w W cs zs->dR (dM w.heap.size W) W ⟨op,nm,⟨ng,nu,de⟩,args,so⟩ a3 c3 a4 c4 g' e'->aBo w.heap.size W ⟨op,nm,⟨ng,nu,de⟩,args,so⟩ a3 c3 a4 c4 g' e'->∃zs',lM w (l.foldl (fun W iv=>W.setCell ⟨w.heap.size+1,iv.1,none⟩ iv.2) W) cs zs'/\dR (dM w.heap.size (l.foldl (fun W iv=>W.setCell ⟨w.heap.size+1,iv.1,none⟩ iv.2) W)) (l.foldl (fun W iv=>W.setCell ⟨w.heap.size+1,iv.1,none⟩ iv.2) W) ⟨op,nm,⟨ng,nu,de⟩,args,so⟩ a3 c3 a4 c4 g' e'/\aBo w.heap.size (l.foldl (fun W iv=>W.setCell ⟨w.heap.size+1,iv.1,none⟩ iv.2) W) ⟨op,nm,⟨ng,nu,de⟩,args,so⟩ a3 c3 a4 c4 g' e':=by
  intro l
  induction l with
  | nil=>exact fun W cs zs h t v=>⟨zs,h,t,v⟩
  | cons iv l ih=>exact fun W cs zs h t v=>ih _ cs _ (h.setR iv.1 iv.2) (t.move (h.keepR iv.1 iv.2) (Nat.le_of_eq fD.symm)) (v.move (h.keepR iv.1 iv.2) (Nat.le_of_eq fD.symm))
 obtain ⟨zs',Z1,Z2,Z3⟩:=hR [(0,.int .i64 op),(1,.string nm),(2,.bool ng),(3,.slice a3 nu.length c3),(4,.slice a4 de.length c4),(5,.slice g' args.length e'),(6,.int .i64 so)] _ _ _ Y6 T6 V6;exact⟨a3,c3,a4,c4,g',e',rfl,Z2,Z3,Z1.b⟩
theorem aC0 {S:Nat->Prop} (x:bY) (a b g:Option Addr) (c d e:Nat) (w:World) (hx:dR S w x a c b d g e) (hn1:x.val.num.length<17592186044416) (hn2:x.val.den.length<17592186044416) (hn3:x.args.length<17592186044416) :
  Calls Tryz.prog 70 #[iU x a c b d g e] w fun e w'=>aM9 x w e w':=
 (aFq x a b g c d e w hx hn1 hn2 hn3).mono fun _ _ h=>by obtain ⟨a,c,b,d,g,h,h1,h2,_,h4⟩:=h;exact⟨a,c,b,d,g,h,h1,h2,h4⟩
theorem tN (B b:Nat) (bs:List Value) (w:World) (h:IsB B b bs w) :
  Calls Tryz.prog 206 #[.pointer (some ⟨b,0,none⟩)] w fun e w'=>e = .returned (.tuple #[])/\(BAt B b (.pointer (some ⟨b,0,none⟩)) bs w'/\Below B w w'/\∀k,k≠b->w'.heap[k]? = w.heap[k]?):=by
 rcases h with h | h
 ·refine(sN b w h.cell0 h.shape h.frozen0).mono ?_;rintro e w' ⟨rfl,rfl⟩;exact⟨rfl,h.used _,(Below.refl B w).setCell (p:=⟨b,0,none⟩) h.1 _,fun k hk=>Below.heap_setCell _ _ _ _ (fun e=>hk e)⟩
 ·refine(tK b w h.cell0).mono ?_;rintro e w' ⟨rfl,rfl⟩;exact⟨rfl,h,Below.refl B _,fun _ _=>rfl⟩
def aFr (w w':World):Prop:=∀(k:Nat) (cs:Array Value) (t:TypeId) (f:Nat × Nat),w.heap[k]? = some (Obj.cells cs t f)->t≠216->t≠5->w'.heap[k]? = w.heap[k]?
theorem aBp (B b:Nat) (bs:List Value) (s:ByteArray) (w:World) (h:IsB B b bs w) (hlen:bs.length+s.size<=140737488355328) (hBw:B<=w.heap.size) :
  Calls Tryz.prog 175 #[.pointer (some ⟨b,0,none⟩),.string s] w fun e w'=>e = .returned (.tuple #[.int .i64 s.size,.nilIface])/\(BAt B b (.pointer (some ⟨b,0,none⟩)) (bs++Lib.strCells s) w'/\Below B w w'/\aFr w w'):=by
 obtain ⟨i0,hi,hz0,hz1,hz2⟩:=info_parts aIt;go_enter Tryz.func175,Tryz.ntmps175
 go_wp2_with fail
 refine(tN B b bs _ h).mono ?_;rintro e w1 ⟨rfl,h1,hb1,hk1⟩;obtain ⟨hB,v,hbk,hown,hne⟩:=h1;have c0:w1.cell? ⟨b,0,none⟩=some (.pointer (some ⟨b,0,none⟩)):=by rw [Lib.cell_of_heap hbk];rfl
 have c1:w1.cell? ⟨b,1,none⟩=some v:=by rw [Lib.cell_of_heap hbk];rfl
 go_wp2_with (at_builtin;refine Lib.wpList_append_own_string _ rfl _ _ 214 9 rfl B 5 i0 Tryz.underlying214 Tryz.underlying9 hi hz0 hz1 hz2 _ _ _ rfl hown s rfl ?c3 ?c4 ?c5 ?_)
 case c3=>unfold maxLen;omega
 case c4=>omega
 case c5=>have:=hb1.size;omega
 intro v' w2 hown' hgrow _;have hlt:b<w1.heap.size:=by
  rcases Nat.lt_or_ge b w1.heap.size with h' | h'
  ·exact h'
  ·simp [Array.getElem?_eq_none h'] at hbk
 have hb2:w2.heap[b]? = some (.cells #[.pointer (some ⟨b,0,none⟩),v] 216 (0,0)):=by
  rw [hgrow.block b hlt (fun e=>hne e.symm)];exact hbk
 have d0:w2.cell? ⟨b,0,none⟩=some (.pointer (some ⟨b,0,none⟩)):=by rw [Lib.cell_of_heap hb2];rfl
 have d1:w2.cell? ⟨b,1,none⟩=some v:=by rw [Lib.cell_of_heap hb2];rfl
 have f1:w2.frozen? ⟨b,1,none⟩=false:=Lib.frozen_of_heap hb2 1;obtain ⟨ao,n',cap,rfl⟩:∃ao n' cap,v' = .slice ao n' cap:=by
  rcases hown'.2 with ⟨hv,_⟩ | ⟨g,cap,cur,hv,_⟩
  ·exact⟨_,_,_,hv⟩
  ·exact⟨_,_,_,hv⟩
 go_wp2;go_ret2;refine⟨rfl,?_,?_,fun k cs t f hc n1 n2=>?_⟩
 ·exact Lib.BuilderAt.put (T:=216) (e:=5) hB hb2 (bs':=bs++Lib.strCells s) (by simpa [Lib.strCells_length] using hown') (by decide)
 ·exact(hb1.grown hgrow (by have:=hb1.size;omega) (fun k hk=>(hown.lt k hk).1)).setCell (p:=⟨b,1,none⟩) hB _
 ·have hkb:k≠b:=fun e=>by
   subst e;obtain ⟨q,v0,hbk0⟩:∃p v,w.heap[k]? = some (.cells #[p,v] 216 (0,0)):=by
    rcases h with h | h
    ·obtain ⟨_,v,hb,_⟩:=h;exact⟨_,v,hb⟩
    ·obtain ⟨_,v,hb,_⟩:=h;exact⟨_,v,hb⟩
   have e:=hbk0.symm.trans hc;injection e with e
   injection e with _ e2
   exact n1 e2.symm
  have e1:=hk1 k hkb;have hlk:k<w1.heap.size:=by
   rw [hc] at e1;exact(bQ e1).1
  rw [Below.heap_setCell _ _ _ _ (fun e=>hkb e),hgrow.block k hlk (fun e=>?_),e1];exact Lib.ownBlock_ne hown (e1.trans hc) n2 e.symm
def fI (n:Int):ByteArray:=⟨(Lib.itoa n).toArray⟩
theorem zO (n:Int) (hn:fG n) (w:World) (hE:jQ w):Calls Tryz.prog 122 #[.int .i64 n] w fun e w'=>e = .returned (.string (fI n))/\Below w.heap.size w w':=by
 refine(Tryz.strconv_Itoa n hn.1 hn.2 w hE.pow).mono ?_;rintro e w' ⟨rfl,k,os,rfl⟩;exact⟨rfl,Lib.below_grow _ w aB k os⟩
theorem aDt (s:ByteArray) (hs:s.size<=1000000) (w:World) (hE:jQ w):Calls Tryz.prog 176 #[.string s] w fun e w'=>e = .returned (.string (strOfNums (Lib.quoteZ Lib.goPrintTabs s)))/\Below w.heap.size w w':=
 Tryz.strconv_Quote Lib.goPrintTabs s w (by omega) hE.prt hE.utf
theorem vS (n:Nat):fI n=⟨(Lib.decDigits n).toArray⟩:=by unfold fI;rw [Lib.itoa_nonneg]
theorem aDu (n:Nat) (hn:n<100) (w:World):Calls Tryz.prog 209 #[.int .u64 n,.int .i64 10] w fun e w'=>e = .returned (.string (fI n))/\Below w.heap.size w w':=by
 have hni:(n:Int)<100:=by omega
 have hi:=hid (Tryz.internal_strconv_small n hn w);have he:=hid (vS n);go_enter Tryz.func209,Tryz.ntmps209
 go_wp2_with fail
 refine hi.out.mono ?_;rintro e w' ⟨rfl,rfl⟩;go_wp2;go_ret;exact⟨by rw [he.out];rfl,Below.refl _ _⟩
theorem aIw (u:Nat) (hn:100<=u) (hu64:u<18446744073709551616) (w:World) (hE:jQ w):Calls Tryz.prog 209 #[.int .u64 u,.int .i64 10] w fun e w'=>e = .returned (.string (fI u))/\Below w.heap.size w w':=by
 have hu1:1<=u:=by omega
 have hnd20:Lib.nDigits u<=20:=Lib.nDigits_le20 u hu64;have hal:Tryz.prog.arrayLen 262=24:=by kernel_rfl
 have hsl:∀W,(Instr.sliceAt 262 (.pointer (some ⟨w.heap.size,0,none⟩)) none (some (.int .i64 (Lib.nDigits u:Int))) none).run Tryz.prog W = .ok (.slice (some ⟨w.heap.size,0,none⟩) (Lib.nDigits u) 24) W:=fun W=>by
  rw [run_sliceAt_array_h W 262 ⟨w.heap.size,0,none⟩ (by kernel_rfl) .i64 (Lib.nDigits u:Int) (by omega) (by rw [hal];omega)];go_simp
 have hH0:=Lib.holds_zero0 w 262 (Lib.nDigits u) (by omega);have hfmt:=Tryz.internal_strconv_formatBase10 w.heap.size 0 24 u (Array.replicate (Lib.nDigits u) 0) (w.alloc (.cells Lib.zeros24 262)) hH0 (by rw [Array.size_replicate];exact Lib.lt_pow_nDigits u) hu64 (by rw [Array.size_replicate];omega);rw [Array.size_replicate] at hfmt;have HH0:=hid hH0;have hnd:=hid (Tryz.internal_strconv_numDigits u hu1 hu64 (w.alloc (.cells Lib.zeros24 262)) (Lib.tabIs_alloc hE.pow _));have hfmt':=hid hfmt;have he:=hid (vS u);have iu:¬((u:Int)<100):=by omega
 have idn:decide ((u:Int)<100)=false:=by simpa using iu
 clear hH0 hal hfmt;go_enter Tryz.func209,Tryz.ntmps209
 go_wp2_with fail
 refine hnd.out.mono ?_;rintro e w' ⟨rfl,rfl⟩
 go_wp2_with fail
 refine hfmt'.out.mono ?_;rintro e w' ⟨rfl,k,v',dk,rfl,hF⟩;have hcv:=@hid ((convert 214 9 (.slice (some ⟨w.heap.size,0,none⟩) (Lib.nDigits u) 24)).run Tryz.prog ((putRow (fun(b:UInt8)=>Value.int .u8 (b.toNat:Int)) (w.alloc (.cells Lib.zeros24 262)) w.heap.size 0 dk).drewN k) = .ok (.string ⟨(Lib.decDigits u).toArray⟩) ((putRow (fun(b:UInt8)=>Value.int .u8 (b.toNat:Int)) (w.alloc (.cells Lib.zeros24 262)) w.heap.size 0 dk).drewN k)) (by
  have h:=run_convert_bytes_back (P:=Tryz.prog) ((putRow (fun(b:UInt8)=>Value.int .u8 (b.toNat:Int)) (w.alloc (.cells Lib.zeros24 262)) w.heap.size 0 dk).drewN k) 214 9 5 ⟨w.heap.size,0,none⟩ 24 (Lib.decDigits u) Tryz.underlying214 Tryz.underlying5 Tryz.underlying9 (fun j hj=>by
   rw [Lib.row_is_numeral hF j hj,Lib.add_plain,World.cell?_drewN];exact cell?_putRow (fun(b:UInt8)=>Value.int .u8 (b.toNat:Int)) _ w.heap.size 0 _ dk HH0.out (by rw [hF.size,Array.size_replicate]) j (by rw [hF.size];rw [Lib.decDigits_length] at hj;exact hj))
  rw [Lib.decDigits_length] at h;exact h)
 have hB:=hid (show Below w.heap.size w ((putRow (fun(b:UInt8)=>Value.int .u8 (b.toNat:Int)) (w.alloc (.cells Lib.zeros24 262)) w.heap.size 0 dk).drewN k) from by
  obtain ⟨os,eo⟩:=Lib.fin_at w (.cells Lib.zeros24 262) dk k 0;rw [eo];exact Lib.below_grow _ w aB k os)
 clear hF;generalize (putRow (fun(b:UInt8)=>Value.int .u8 (b.toNat:Int)) (w.alloc (.cells Lib.zeros24 262)) w.heap.size 0 dk).drewN k=w2 at *;have hcv':=hcv.out;go_wp2;go_ret;exact⟨by rw [he.out];rfl,hB.out⟩
theorem aKv (n:Nat) (hn:n<18446744073709551616) (w:World) (hE:jQ w):Calls Tryz.prog 209 #[.int .u64 n,.int .i64 10] w fun e w'=>e = .returned (.string (fI n))/\Below w.heap.size w w':=by
 by_cases h:n<100
 ·exact aDu n h w
 ·exact aIw n (by omega) hn w hE
theorem aIx (n:Nat) (hn:n<18446744073709551616) (w:World) (hE:jQ w):Calls Tryz.prog 178 #[.int .u64 n,.int .i64 10] w fun e w'=>e = .returned (.string (fI n))/\Below w.heap.size w w':=by
 have hi:=hid (aKv n hn w hE);clear hE;go_enter Tryz.func178,Tryz.ntmps178
 go_wp2_with fail
 refine hi.out.mono ?_;rintro e w' ⟨rfl,hb⟩;have hb':=hid hb;clear hb;go_wp2;go_ret;exact⟨rfl,hb'.out⟩
end Go.Proofs.YtgoojkiccdjplaaGreatDoor
