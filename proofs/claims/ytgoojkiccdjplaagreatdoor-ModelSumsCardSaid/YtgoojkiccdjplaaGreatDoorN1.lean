/-
  Parts of this claim's texts, one behind the other: V O G SA SB SC. No condition.
-/
import Derived.WalkKit
import Derived.WalkSpells
import Derived.WalkLawsBesides
import Derived.Lib.Hide
import Derived.Lib.RowBridge
import Derived.Sort.Grow
import Derived.Deep.Draws
import Derived.StillTailTactics
import Derived.Deep.RegionHeld3
import Derived.Deep.AppendLies
import Derived.ProofKit
import Derived.OpenShut
import Derived.ShutString
import Derived.ChangeOld
import Derived.Deep.Grids
import Derived.ArgAppend
import Derived.Maps.AppendAt
import Derived.Test.YtgoojkiccdjplaaGreatDoorRows
import Derived.Test.YtgoojkiccdjplaaGreatDoorN0
import Derived.Deep.QuietTactic
import Derived.BigQuiet
set_option linter.unusedVariables false
set_option linter.unusedSimpArgs false
set_option maxRecDepth 100000
set_option maxHeartbeats 16000000
namespace Go.RowKit
theorem Below.drewN {B:Nat} {a w:World} (h:Below B a w) (q:Nat):Below B a (w.drewN q):=⟨h.os,h.tape,h.output,h.size,h.block⟩
end Go.RowKit
namespace Go.Proofs.YtgoojkiccdjplaaGreatDoor
open Go.RowKit Go.Sort Go.Lib
theorem sA {α:Type _} (l:List α) (i:Nat) (a:α):l.toArray.setIfInBounds i a=(l.set i a).toArray:=List.setIfInBounds_toArray l i a
theorem sB {α:Type _} {x:α} {xs:List α} {a:α}:(x :: xs).set 0 a=a :: xs:=rfl
theorem sC {α:Type _} {x:α} {xs:List α} {i:Nat} {a:α}:(x :: xs).set (i+1) a=x :: xs.set i a:=rfl
theorem aB {n:Nat}:n<=n:=Nat.le_refl n
theorem aV {n:Nat}:0<=n:=Nat.zero_le n
theorem aK {a b c:Nat} (h:a<=b) (h':b<=c):a<=c:=Nat.le_trans h h'
theorem bN {a b c:Nat} (h:a<b) (h':b<=c):a<c:=Nat.lt_of_lt_of_le h h'
theorem bQ {α:Type _} {xs:Array α} {i:Nat} {x:α} (h:xs[i]? = some x):∃h:i<xs.size,xs[i]=x:=Array.getElem?_eq_some_iff.1 h
theorem dA {α:Type _} {l:List α} {i:Nat}:l.toArray[i]? = l[i]?:=List.getElem?_toArray
theorem dB {α:Type _} {a:α} {l:List α} {i:Nat}:(a :: l)[i+1]? = l[i]?:=rfl
theorem cW {α:Type _} {a:α} {l:List α}:(a :: l)[0]? = some a:=rfl
theorem cG {α:Type _} {x:α} {xs:List α} {i:Nat}:(x :: xs).drop (i+1)=xs.drop i:=rfl
theorem bT {α:Type _} {l:List α}:l.drop 0=l:=rfl
theorem aI {w w' w'':World} (h:Hid (Below w.heap.size w w')) (k:Below w'.heap.size w' w''):Below w.heap.size w w'':=h.out.trans (k.mono h.out.size)
theorem aJ {w w':World} {q:Nat} {o:Obj} (h:Below w.heap.size w w') (k:w.heap[q]? = some o):w'.heap[q]? = some o:=(h.block _ (Array.getElem?_eq_some_iff.1 k).1).trans k
theorem bD {w:World} {o:Obj}:Below w.heap.size w (w.alloc o):=(Below.refl _ _).alloc (Nat.le_refl _) _
theorem gI {w:World} {p:Nat} {v0 v1:Value} {l:List Value} {t:TypeId} {f:Nat × Nat} (h:w.heap[p]? = some (.cells (v0 :: v1 :: l).toArray t f)):w.cell? ⟨p,0,none⟩=some v0/\w.cell? ⟨p,1,none⟩=some v1:=⟨by simp [World.cell?,h],by simp [World.cell?,h]⟩
theorem gN {w:World} {p:Nat} {cs:Array Value} {t:TypeId} (h:w.heap[p]? = some (.cells cs t (0,0))):w.frozen? ⟨p,0,none⟩=false/\w.frozen? ⟨p,1,none⟩=false:=⟨by simp [World.frozen?,h],by simp [World.frozen?,h]⟩
theorem dF {w:World} {p:Nat} {v0 v1 v2:Value} {l:List Value} {t:TypeId} {f:Nat × Nat} (h:w.heap[p]? = some (.cells (v0 :: v1 :: v2 :: l).toArray t f)):w.cell? ⟨p,0,none⟩=some v0/\w.cell? ⟨p,1,none⟩=some v1/\w.cell? ⟨p,2,none⟩=some v2:=⟨by simp [World.cell?,h],by simp [World.cell?,h],by simp [World.cell?,h]⟩
theorem dT {w:World} {p:Nat} {cs:Array Value} {t:TypeId} (h:w.heap[p]? = some (.cells cs t (0,0))):w.frozen? ⟨p,0,none⟩=false/\w.frozen? ⟨p,1,none⟩=false/\w.frozen? ⟨p,2,none⟩=false:=⟨by simp [World.frozen?,h],by simp [World.frozen?,h],by simp [World.frozen?,h]⟩
theorem aM4 {w:World} {p:Nat} {v0 v1 v2 v3:Value} {l:List Value} {t:TypeId} {f:Nat × Nat} (h:w.heap[p]? = some (.cells (v0 :: v1 :: v2 :: v3 :: l).toArray t f)):w.cell? ⟨p,0,none⟩=some v0/\w.cell? ⟨p,1,none⟩=some v1/\w.cell? ⟨p,2,none⟩=some v2/\w.cell? ⟨p,3,none⟩=some v3:=⟨by simp [World.cell?,h],by simp [World.cell?,h],by simp [World.cell?,h],by simp [World.cell?,h]⟩
theorem aM5 {w:World} {p:Nat} {cs:Array Value} {t:TypeId} (h:w.heap[p]? = some (.cells cs t (0,0))):w.frozen? ⟨p,0,none⟩=false/\w.frozen? ⟨p,1,none⟩=false/\w.frozen? ⟨p,2,none⟩=false/\w.frozen? ⟨p,3,none⟩=false:=⟨by simp [World.frozen?,h],by simp [World.frozen?,h],by simp [World.frozen?,h],by simp [World.frozen?,h]⟩
theorem aM6 {w:World} {p:Nat} {v0 v1 v2 v3 v4:Value} {l:List Value} {t:TypeId} {f:Nat × Nat} (h:w.heap[p]? = some (.cells (v0 :: v1 :: v2 :: v3 :: v4 :: l).toArray t f)):w.cell? ⟨p,0,none⟩=some v0/\w.cell? ⟨p,1,none⟩=some v1/\w.cell? ⟨p,2,none⟩=some v2/\w.cell? ⟨p,3,none⟩=some v3/\w.cell? ⟨p,4,none⟩=some v4:=⟨by simp [World.cell?,h],by simp [World.cell?,h],by simp [World.cell?,h],by simp [World.cell?,h],by simp [World.cell?,h]⟩
theorem aM7 {w:World} {p:Nat} {cs:Array Value} {t:TypeId} (h:w.heap[p]? = some (.cells cs t (0,0))):w.frozen? ⟨p,0,none⟩=false/\w.frozen? ⟨p,1,none⟩=false/\w.frozen? ⟨p,2,none⟩=false/\w.frozen? ⟨p,3,none⟩=false/\w.frozen? ⟨p,4,none⟩=false:=⟨by simp [World.frozen?,h],by simp [World.frozen?,h],by simp [World.frozen?,h],by simp [World.frozen?,h],by simp [World.frozen?,h]⟩
theorem dP {w:World} {p:Nat} {v0 v1 v2 v3 v4 v5:Value} {l:List Value} {t:TypeId} {f:Nat × Nat} (h:w.heap[p]? = some (.cells (v0 :: v1 :: v2 :: v3 :: v4 :: v5 :: l).toArray t f)):w.cell? ⟨p,0,none⟩=some v0/\w.cell? ⟨p,1,none⟩=some v1/\w.cell? ⟨p,2,none⟩=some v2/\w.cell? ⟨p,3,none⟩=some v3/\w.cell? ⟨p,4,none⟩=some v4/\w.cell? ⟨p,5,none⟩=some v5:=⟨by simp [World.cell?,h],by simp [World.cell?,h],by simp [World.cell?,h],by simp [World.cell?,h],by simp [World.cell?,h],by simp [World.cell?,h]⟩
theorem fU {w:World} {p:Nat} {cs:Array Value} {t:TypeId} (h:w.heap[p]? = some (.cells cs t (0,0))):w.frozen? ⟨p,0,none⟩=false/\w.frozen? ⟨p,1,none⟩=false/\w.frozen? ⟨p,2,none⟩=false/\w.frozen? ⟨p,3,none⟩=false/\w.frozen? ⟨p,4,none⟩=false/\w.frozen? ⟨p,5,none⟩=false:=⟨by simp [World.frozen?,h],by simp [World.frozen?,h],by simp [World.frozen?,h],by simp [World.frozen?,h],by simp [World.frozen?,h],by simp [World.frozen?,h]⟩
theorem aBf {w:World} {p:Nat} {v0 v1 v2 v3 v4 v5 v6:Value} {l:List Value} {t:TypeId} {f:Nat × Nat} (h:w.heap[p]? = some (.cells (v0 :: v1 :: v2 :: v3 :: v4 :: v5 :: v6 :: l).toArray t f)):w.cell? ⟨p,0,none⟩=some v0/\w.cell? ⟨p,1,none⟩=some v1/\w.cell? ⟨p,2,none⟩=some v2/\w.cell? ⟨p,3,none⟩=some v3/\w.cell? ⟨p,4,none⟩=some v4/\w.cell? ⟨p,5,none⟩=some v5/\w.cell? ⟨p,6,none⟩=some v6:=⟨by simp [World.cell?,h],by simp [World.cell?,h],by simp [World.cell?,h],by simp [World.cell?,h],by simp [World.cell?,h],by simp [World.cell?,h],by simp [World.cell?,h]⟩
theorem aKl {w:World} {p:Nat} {cs:Array Value} {t:TypeId} (h:w.heap[p]? = some (.cells cs t (0,0))):w.frozen? ⟨p,0,none⟩=false/\w.frozen? ⟨p,1,none⟩=false/\w.frozen? ⟨p,2,none⟩=false/\w.frozen? ⟨p,3,none⟩=false/\w.frozen? ⟨p,4,none⟩=false/\w.frozen? ⟨p,5,none⟩=false/\w.frozen? ⟨p,6,none⟩=false:=⟨by simp [World.frozen?,h],by simp [World.frozen?,h],by simp [World.frozen?,h],by simp [World.frozen?,h],by simp [World.frozen?,h],by simp [World.frozen?,h],by simp [World.frozen?,h]⟩
def nth (xs:List Int) (j:Nat):Int:=xs.getD j 0
theorem cK {xs:List Int} {j:Nat} (h:j<xs.length):nth xs j=xs[j]:=by simp [nth,List.getD,h]
theorem fF {xs:List Int} {j:Nat} (h:j<xs.length):nth xs j∈xs:=by rw [cK h];exact List.getElem_mem h
theorem wV {xs ys:List Int} (h:xs.length=ys.length) (e:∀j,j<xs.length->nth xs j=nth ys j):xs=ys:=by
 apply List.ext_getElem h;intro i h1 h2;have:=e i h1
 rwa [cK h1,cK h2] at this
structure jP (w:World) (a:Option Addr) (n:Nat) (xs:List Int):Prop where
 len:xs.length=n
 wf:∀x∈xs,-9223372036854775808<=x/\x<=9223372036854775807
 cells:0<n->∃b o,a=some ⟨b,o,none⟩/\b<w.heap.size/\∀j,j<n->w.cell? ⟨b,o+j,none⟩=some (.int .i64 (nth xs j))
theorem jP.below {w w':World} {a:Option Addr} {n B:Nat} {xs:List Int} (h:jP w a n xs) (hb:Below B w w') (hB:w.heap.size<=B):jP w' a n xs:=by
 refine⟨h.len,h.wf,fun hn=>?_⟩;obtain ⟨b,o,ha,hlt,hc⟩:=h.cells hn;exact⟨b,o,ha,bN hlt hb.size,fun j hj=>by rw [hb.cell (p:=⟨b,o+j,none⟩) (bN hlt hB)];exact hc j hj⟩
theorem jP.drew {w:World} {a:Option Addr} {n:Nat} {xs:List Int} (h:jP w a n xs):jP w.drew a n xs:=⟨h.len,h.wf,h.cells⟩
theorem jP.at {w:World} {a:Option Addr} {n:Nat} {xs:List Int} (h:jP w a n xs) (k:Nat) (hk:k<n):∃b o,a=some ⟨b,o,none⟩/\w.cell? ⟨b,o+k,none⟩=some (.int .i64 (nth xs k)):=by
 obtain ⟨b,o,ha,_,hc⟩:=h.cells (by omega);exact⟨b,o,ha,hc k hk⟩
theorem jP.own {w:World} {base n:Nat} {e:TypeId} {a:Option Addr} {m c:Nat} {xs:List Int} (h:w.ownsRow base e 1 (.slice a m c) n (xs.map (Value.int .i64))) (hwf:∀x∈xs,-9223372036854775808<=x/\x<=9223372036854775807):m=n/\jP w a n xs/\(∀b,a=some b->base<=b.block/\b.block<w.heap.size):=by
 obtain ⟨hl,h2⟩:=h;have hl':xs.length=n:=by simpa using hl
 rcases h2 with ⟨hv,rfl⟩ | ⟨g,cap,cur,hv,hg,hh,h1,h2,h3,h4⟩
 ·cases hv;exact⟨rfl,⟨hl',hwf,by omega⟩,by simp⟩
 ·cases hv;have hlt:=(bQ hh).1;refine⟨rfl,⟨hl',hwf,fun hn=>⟨g,0,rfl,hlt,fun j hj=>?_⟩⟩,by rintro b ⟨⟩;exact⟨hg,hlt⟩⟩;have e1:(cur.toList.take (n * 1))[j]? = (xs.map (Value.int .i64))[j]?:=by rw [h4]
  rw [List.getElem?_take_of_lt (by omega)] at e1;simp only [World.cell?,hh,Nat.zero_add,Option.isSome_none,Bool.false_eq_true,if_false];rw [<-Array.getElem?_toList,e1];simp [nth,List.getD,show j<xs.length by omega]
theorem jP.lit (xs:List Int) (e:TypeId) (w:World) (hwf:∀x∈xs,-9223372036854775808<=x/\x<=9223372036854775807):jP (w.alloc (.cells (xs.map (Value.int .i64)).toArray e)) (some ⟨w.heap.size,0,none⟩) xs.length xs:=by
 refine⟨rfl,hwf,fun _=>⟨w.heap.size,0,rfl,by simp,fun j hj=>?_⟩⟩;simp [World.cell?_alloc_new,nth,List.getD,hj]
theorem qA {P:Program} {id:Nat} {Q:Exit->Act->World->Prop} {a:Act} {w:World} {l:List Oper} (n:Nat) (hm:P.follows .mixedOrders=true) (hB:Region.lexTailB .any l.toArray n=true)
  (h:∀W,W=w.drew->wpStill P l.toArray W (fun a'=>wpList P l.toArray Q (l.drop n) a' W) (l.take n) a):(Code.region id l.toArray true).wp P Q a w:=
 wp_region_still_tail n hm hB (h _ rfl)
end Go.Proofs.YtgoojkiccdjplaaGreatDoor
namespace Go.Proofs.YtgoojkiccdjplaaGreatDoor
open Go.RowKit Go.Lib
def bW (w:World) (base:Nat) (e:TypeId) (size:Nat) (v:Value) (n:Nat) (xs:List Value):Prop:=
 xs.length=n * size /\
 (
  (v = .slice none 0 0/\n=0) \/
  ∃g cap cur,v = .slice (some ⟨g,0,none⟩) n cap/\base<=g/\w.heap[g]? = some (.cells cur e (0,0))/\n<=cap/\cap<=maxLen/\cap * size<=cur.size/\cur.toList.take (n * size)=xs)
section
variable {w w' : World} {base : Nat} {e : TypeId} {size n : Nat} {v : Value} {xs : List Value}
theorem bW.of (h:w.ownsRow base e size v n xs):bW w base e size v n xs:=by
 refine⟨h.1,?_⟩;rcases h.2 with hn | ⟨g,cap,cur,h1,h2,h3,h4,h5,h6,h7⟩
 ·exact .inl hn
 ·exact .inr ⟨g,cap,cur,h1,h2,h3,h4,h5,Nat.le_of_eq h6.symm,h7⟩
theorem bW.nil (w:World) (base:Nat) (e:TypeId) (size:Nat):bW w base e size (.slice none 0 0) 0 []:=⟨by simp,.inl ⟨rfl,rfl⟩⟩
theorem bW.slice (h:bW w base e size v n xs):∃a c,v = .slice a n c/\n<=c/\c<=maxLen:=by
 rcases h.2 with ⟨rfl,rfl⟩ | ⟨g,cap,cur,rfl,_,_,h1,h2,_⟩
 ·exact⟨none,0,rfl,aB,aV⟩
 ·exact⟨_,cap,rfl,h1,h2⟩
theorem bW.lt (h:bW w base e size v n xs):∀k,v.ownBlock=some k->base<=k/\k<w.heap.size:=by
 intro k hk;rcases h.2 with ⟨rfl,_⟩ | ⟨g,cap,cur,rfl,hb,hg,_⟩
 ·simp [Value.ownBlock] at hk
 ·simp [Value.ownBlock] at hk;subst hk;exact⟨hb,(bQ hg).1⟩
theorem bW.ty (h:bW w base e size v n xs):∀k,v.ownBlock=some k->∃cs f,w.heap[k]? = some (.cells cs e f):=by
 intro k hk;rcases h.2 with ⟨rfl,_⟩ | ⟨g,cap,cur,rfl,hb,hg,_⟩
 ·simp [Value.ownBlock] at hk
 ·simp [Value.ownBlock] at hk;subst hk;exact⟨_,_,hg⟩
theorem bW.same (h:bW w base e size v n xs) (hb:∀k,v.ownBlock=some k->w'.heap[k]? = w.heap[k]?):bW w' base e size v n xs:=by
 refine⟨h.1,?_⟩;rcases h.2 with hn | ⟨g,cap,cur,rfl,h1,h2,h3⟩
 ·exact .inl hn
 ·exact .inr ⟨g,cap,cur,rfl,h1,by rw [hb g rfl];exact h2,h3⟩
theorem bW.alloc (h:bW w base e size v n xs) (o:Obj):bW (w.alloc o) base e size v n xs:=h.same fun k hk=>Below.heap_alloc w o k (h.lt k hk).2
theorem bW.cells (h:bW w base e size v n xs) {g:Nat} (hg:v.ownBlock=some g):∀j u,xs[j]? = some u->w.cell? ⟨g,j,none⟩=some u:=by
 intro j u hu;rcases h.2 with ⟨rfl,_⟩ | ⟨g',cap,cur,rfl,_,hgg,_,_,_,htake⟩
 ·simp [Value.ownBlock] at hg
 ·simp [Value.ownBlock] at hg;subst hg;have hj:j<xs.length:=(List.getElem?_eq_some_iff.1 hu).1;rw [<-htake] at hu;rw [List.getElem?_take_of_lt (by have:=h.1;omega)] at hu;simp only [World.cell?,hgg,Option.isSome_none,Bool.false_eq_true,if_false];rw [<-Array.getElem?_toList];exact hu
theorem bW.form (h:bW w base e size v n xs) (hn:0<n):∃g cap,v = .slice (some ⟨g,0,none⟩) n cap/\base<=g/\g<w.heap.size:=by
 rcases h.2 with ⟨_,h0⟩ | ⟨g,cap,cur,hv,hb,hg,_⟩
 ·omega
 ·exact⟨g,cap,hv,hb,(bQ hg).1⟩
def Src (w:World) (size:Nat) (A:Option Addr) (m:Nat) (news:List Value):Prop:=
 news.length=m * size/\(0<m->∃ad,A=some ad/\∀j u,news[j]? = some u->w.cell? (ad.add j)=some u)
theorem Src.nothing {size:Nat} {A:Option Addr}:Src w size A 0 []:=⟨by simp,fun h=>absurd h (by omega)⟩
theorem Src.one {size b:Nat} {news:List Value} (hl:news.length=size) (h:∀j u,news[j]? = some u->w.cell? ⟨b,j,none⟩=some u):Src w size (some ⟨b,0,none⟩) 1 news:=
 ⟨by omega,fun _=>⟨_,rfl,fun j u hu=>by rw [Addr.add_lit,Nat.zero_add];exact h j u hu⟩⟩
variable {P : Program}
theorem wW (t ty:TypeId) (i:TypeInfo) (z:Value) (bytes:Nat) (ht:P.underlying t=some (.slice e)) (hi:P.info? e=some i) (hz:i.zero=some z)
  (hsize:i.size=size) (hby:i.bytes=bytes) (hzs:z.cells.size=size) (hsz:0<size) (hown:bW w base e size v n xs)
  (A:Option Addr) (m c:Nat) (news:List Value) (hs:Src w size A m news) (h1:∀u∈news,u.oneCell'=true) (h63:n+m<=maxLen) (hbytes:(n+m) * bytes<=140737488355328) (hbase:base<=w.heap.size) :
  ∃v' w',(Builtin.append_ #[t,t] ty #[v,.slice A m c]).run P w = .ok v' w'/\bW w' base e size v' (n+m) (xs++news)/\w.grownBy w' v.ownBlock/\(v'.ownBlock=v.ownBlock\/∀k,v'.ownBlock=some k->w.heap.size<=k):=by
 rcases Nat.eq_zero_or_pos m with rfl | hm
 ·have hn:news = []:=List.eq_nil_of_length_eq_zero (by simpa using hs.1);subst hn;refine⟨v,w,?_,by simpa using hown,⟨rfl,rfl,rfl,aB,fun _ _ _=>rfl⟩,.inl rfl⟩;rcases hown.2 with ⟨rfl,rfl⟩ | ⟨g,cap,cur,rfl,_,_,hnc,_⟩
  ·cases A <;> simp [Builtin.append_,run_underlying ht,sizeOf,typeInfo,hi,Builtin.lenOf,Builtin.firstCells,loadCells,loadCellsFrom]
  ·cases A <;> simp [Builtin.append_,run_underlying ht,sizeOf,typeInfo,hi,Builtin.lenOf,Builtin.firstCells,loadCells,loadCellsFrom,hnc,storeCells]
 obtain ⟨ad,rfl,hnews⟩:=hs.2 hm;have hl:=hs.1;rcases hown.2 with ⟨rfl,rfl⟩ | ⟨g,cap,cur,rfl,hbg,hg,hnc,hcm,hcs,htake⟩
 ·have hx:xs = []:=List.eq_nil_of_length_eq_zero (by simpa using hown.1);subst hx;obtain ⟨v',w',hr,h2,h3,h4⟩:=run_append_own_at (P:=P) w base t ty e i z size bytes ht hi hz hsize hby hzs hsz _ 0 [] (World.ownsRow_nil w base e size) ad m c news hl hnews h1 h63 hbytes hbase;refine⟨v',w',hr,.of h2,h3,?_⟩;rcases h4.2 with h5 | h5
  ·exact .inl h5
  ·exact .inr fun k hk=>by rw [h5] at hk;injection hk with hk;omega
 ·subst hsize;by_cases hroom:n+m<=cap
  ·have hfit:n * i.size+news.length<=cur.size:=by rw [hl,<-Nat.add_mul];exact aK (Nat.mul_le_mul_right _ hroom) hcs
   have hr:=run_append_room (P:=P) w t ty e i ht hi g n cap cur hg ad m c news hl hnews h1 hroom hfit;have hlen:(xs++news).length=(n+m) * i.size:=by rw [List.length_append,hown.1,hl,Nat.add_mul]
   refine⟨_,_,hr,⟨hlen,.inr ⟨g,cap,_,rfl,hbg,setRow_heap w g cur _ e _ hg,hroom,hcm,?_,?_⟩⟩,⟨rfl,rfl,rfl,by simp,fun k _ hk=>setRow_other w g k _ (fun e=>hk (by simp [Value.ownBlock,e]))⟩,.inl rfl⟩
   ·simp only [List.size_toArray,List.length_append,List.length_take,List.length_drop,Array.length_toList];omega
   ·rw [htake,<-hlen];exact List.take_left
  ·obtain ⟨v',w',hr,h2,h3⟩:=run_append_arg_grows (P:=P) w t ty e i z i.size bytes ht hi hz rfl hby hzs hsz ⟨g,0,none⟩ n cap xs hown.1 (fun j u hu=>by rw [Addr.add_lit,Nat.zero_add];exact hown.cells (g:=g) rfl j u hu) ad m c news hl hnews (by omega) h63 hbytes;have h4:=bW.of h2;refine⟨v',w',hr,⟨h4.1,?_⟩,⟨h3.os,h3.tape,h3.output,h3.size,fun k hk _=>h3.block k hk (by simp)⟩,.inr fun k hk=>(h4.lt k hk).1⟩;rcases h4.2 with hn | ⟨g',cap',cur',q1,q2,q3⟩
   ·exact .inl hn
   ·exact .inr ⟨g',cap',cur',q1,aK hbase q2,q3⟩
variable {t : TypeId} {i : TypeInfo} {z : Value} {bytes m c : Nat} {A : Option Addr} {news : List Value} {ops : Array Oper} {o : Oper} {a : Act} {Q : Exit -> Act -> World -> Prop}
theorem rZ {K:Act->World->Prop} (s x:Operand) (ho:o.op = .call { callee:=.builtin .append,args:=#[s,x],argTypes:=#[t,t] })
  (ht:P.underlying t=some (.slice e)) (hi:P.info? e=some i) (hz:i.zero=some z) (hsize:i.size=size) (hby:i.bytes=bytes) (hzs:z.cells.size=size) (hsz:0<size)
  (hs:a.eval s=v) (hx:a.eval x = .slice A m c) (hown:bW w base e size v n xs) (hr:Src w size A m news) (h1:∀u∈news,u.oneCell'=true) (h63:n+m<=maxLen) (hbytes:(n+m) * bytes<=140737488355328) (hbase:base<=w.heap.size)
  (h:∀v' w',bW w' base e size v' (n+m) (xs++news)->w.grownBy w' v.ownBlock->(v'.ownBlock=v.ownBlock\/∀k,v'.ownBlock=some k->w.heap.size<=k)->K (a.put o.dst v') w'):o.wp P a w K Q:=by
 obtain ⟨v',w',hrun,h2,h3,h4⟩:=wW (P:=P) t o.type i z bytes ht hi hz hsize hby hzs hsz hown A m c news hr h1 h63 hbytes hbase;unfold Oper.wp execOp;simp only [ho,resolve,invoke,builtin,Sem.run_bind,Sem.run_pure,Result.andThen_ok,List.map_toArray,List.map_cons,List.map_nil,hs,hx,hrun];exact h v' w' h2 h3 h4
theorem eB {rest:List Oper} (hgd:o.guard=none) (s x:Operand) (ho:o.op = .call { callee:=.builtin .append,args:=#[s,x],argTypes:=#[t,t] })
  (ht:P.underlying t=some (.slice e)) (hi:P.info? e=some i) (hz:i.zero=some z) (hsize:i.size=size) (hby:i.bytes=bytes) (hzs:z.cells.size=size) (hsz:0<size)
  (hs:a.eval s=v) (hx:a.eval x = .slice A m c) (hown:bW w base e size v n xs) (hr:Src w size A m news) (h1:∀u∈news,u.oneCell'=true) (h63:n+m<=maxLen) (hbytes:(n+m) * bytes<=140737488355328) (hbase:base<=w.heap.size)
  (h:∀v' w',bW w' base e size v' (n+m) (xs++news)->w.grownBy w' v.ownBlock->(v'.ownBlock=v.ownBlock\/∀k,v'.ownBlock=some k->w.heap.size<=k)->wpList P ops Q rest (a.put o.dst v') w'):wpList P ops Q (o :: rest) a w:=
 wpList_plain hgd fun _ hK=>rZ s x ho ht hi hz hsize hby hzs hsz hs hx hown hr h1 h63 hbytes hbase fun v' w' h2 h3 h4=>hK _ _ (h v' w' h2 h3 h4)
theorem cH {K:Act->World->Prop} {E:Prop} (hgd:o.guard=none) (s x:Operand) (ho:o.op = .call { callee:=.builtin .append,args:=#[s,x],argTypes:=#[t,t] })
  (ht:P.underlying t=some (.slice e)) (hi:P.info? e=some i) (hz:i.zero=some z) (hsize:i.size=size) (hby:i.bytes=bytes) (hzs:z.cells.size=size) (hsz:0<size)
  (hs:a.eval s=v) (hx:a.eval x = .slice A m c) (hown:bW w base e size v n xs) (hr:Src w size A m news) (h1:∀u∈news,u.oneCell'=true) (h63:n+m<=maxLen) (hbytes:(n+m) * bytes<=140737488355328) (hbase:base<=w.heap.size)
  (h:∀v' w',bW w' base e size v' (n+m) (xs++news)->w.grownBy w' v.ownBlock->(v'.ownBlock=v.ownBlock\/∀k,v'.ownBlock=some k->w.heap.size<=k)->K (a.put o.dst v') w'):if Region.wanted o (yielded ops a.tmps)=true then Oper.wp P o a w K Q else E:=by
 have hw:Region.wanted o (yielded ops a.tmps)=true:=by simp [Region.wanted,hgd]
 rw [if_pos hw];exact rZ s x ho ht hi hz hsize hby hzs hsz hs hx hown hr h1 h63 hbytes hbase h
end
def dQ (w:World) (p k:Nat):Prop:=k=p\/∃cs t f,w.heap[p]? = some (.cells cs t f)/\∃v∈cs,v.ownBlock=some k
structure eX (p:Nat) (w w':World):Prop where
 os:w'.os=w.os
 tape:w'.tape=w.tape
 output:w'.output=w.output
 size:w.heap.size<=w'.heap.size
 block:∀k,k<w.heap.size->¬dQ w p k->w'.heap[k]? = w.heap[k]? /\ ¬dQ w' p k
section
variable {p q : Nat} {w w' w'' : World}
theorem dQ.same (h:w'.heap[p]? = w.heap[p]?) {k:Nat}:dQ w' p k↔dQ w p k:=by unfold dQ;rw [h]
theorem eX.trans (h:eX p w w') (k:eX p w' w''):eX p w w'':=
 ⟨k.os.trans h.os,k.tape.trans h.tape,k.output.trans h.output,aK h.size k.size,fun i hi hn=>by
  obtain ⟨e1,n1⟩:=h.block i hi hn;obtain ⟨e2,n2⟩:=k.block i (bN hi h.size) n1;exact⟨e2.trans e1,n2⟩⟩
theorem eX.of_below (hp:p<w.heap.size) (h:Below w.heap.size w w'):eX p w w':=
 ⟨h.os,h.tape,h.output,h.size,fun k hk hn=>⟨h.block k hk,fun e=>hn ((dQ.same (h.block p hp)).1 e)⟩⟩
theorem eX.below {B:Nat} (h:eX p w w') (hB:B<=w.heap.size) (ho:∀k,dQ w p k->B<=k):Below B w w':=
 ⟨h.os,h.tape,h.output,h.size,fun k hk=>(h.block k (by omega) (fun e=>by have:=ho k e;omega)).1⟩
def Apart (w:World) (p q:Nat):Prop:=∀k,dQ w q k->k<w.heap.size/\¬dQ w p k
theorem Apart.keep (h:Apart w p q) (hs:eX p w w'):(∀k,dQ w q k->w'.heap[k]? = w.heap[k]?)/\Apart w' p q:=by
 have h1:∀k,dQ w q k->w'.heap[k]? = w.heap[k]?:=fun k hk=>(hs.block k (h k hk).1 (h k hk).2).1
 have hq:=h1 q (.inl rfl);exact⟨h1,fun k hk=>by
  have hk':=(dQ.same hq).1 hk;exact⟨bN (h k hk').1 hs.size,(hs.block k (h k hk').1 (h k hk').2).2⟩⟩
end
structure bV (α:Type) where
 k:Nat
 rd:(Nat->Prop)->World->α->List Value->Prop
 len:∀ {S w x cs},rd S w x cs->cs.length=k
 one:∀ {S w x cs},rd S w x cs->∀u∈cs,u.oneCell'=true
 keep:∀ {S w w' x cs},rd S w x cs->(∀b,b<w.heap.size->S b->w'.heap[b]? = w.heap[b]?)->w.heap.size<=w'.heap.size->rd S w' x cs
 mono:∀ {S S':Nat->Prop} {w x cs},rd S w x cs->(∀b,b<w.heap.size->S b->S' b)->rd S' w x cs
def bV.int:bV Int where
 k:=1
 rd _ _ x cs:=cs = [.int .i64 x] /\ -9223372036854775808<=x/\x<=9223372036854775807
 len h:=by rw [h.1];rfl
 one h:=by rw [h.1];intro u hu;simp at hu;subst hu;rfl
 keep h _ _:=h
 mono h _:=h
def bV.bool:bV Bool where
 k:=1
 rd _ _ x cs:=cs = [.bool x]
 len h:=by rw [h];rfl
 one h:=by rw [h];intro u hu;simp at hu;subst hu;rfl
 keep h _ _:=h
 mono h _:=h
def bV.str:bV ByteArray where
 k:=1
 rd _ _ x cs:=cs = [.string x]
 len h:=by rw [h];rfl
 one h:=by rw [h];intro u hu;simp at hu;subst hu;rfl
 keep h _ _:=h
 mono h _:=h
variable {α β : Type}
def bV.prod (R:bV α) (T:bV β):bV (α × β) where
 k:=R.k+T.k
 rd S w x cs:=∃c d,cs=c++d/\R.rd S w x.1 c/\T.rd S w x.2 d
 len h:=by obtain ⟨c,d,rfl,h1,h2⟩:=h;rw [List.length_append,R.len h1,T.len h2]
 one h:=by
  obtain ⟨c,d,rfl,h1,h2⟩:=h;intro u hu;rcases List.mem_append.1 hu with hu | hu
  ·exact R.one h1 u hu
  ·exact T.one h2 u hu
 keep h hk hs:=by obtain ⟨c,d,rfl,h1,h2⟩:=h;exact⟨c,d,rfl,R.keep h1 hk hs,T.keep h2 hk hs⟩
 mono h hk:=by obtain ⟨c,d,rfl,h1,h2⟩:=h;exact⟨c,d,rfl,R.mono h1 hk,T.mono h2 hk⟩
def bV.map (f:β->α) (R:bV α):bV β where
 k:=R.k
 rd S w x cs:=R.rd S w (f x) cs
 len h:=R.len h
 one h:=R.one h
 keep h:=R.keep h
 mono h:=R.mono h
def bJ (R:bV α) (S:Nat->Prop) (w:World) (a:Option Addr) (n:Nat) (xs:List α):Prop:=
 xs.length=n/\(0<n->∃b o,a=some ⟨b,o,none⟩/\b<w.heap.size/\S b/\∀j x,xs[j]? = some x->∃cs,R.rd S w x cs/\∀i u,cs[i]? = some u->w.cell? ⟨b,o+j * R.k+i,none⟩=some u)
section
variable {R : bV α} {S S' : Nat -> Prop} {w w' : World} {a : Option Addr} {n : Nat} {xs : List α}
theorem bJ.nil (R:bV α) (S:Nat->Prop) (w:World) (a:Option Addr):bJ R S w a 0 []:=⟨rfl,fun h=>absurd h (by omega)⟩
theorem bJ.keep (h:bJ R S w a n xs) (hk:∀b,b<w.heap.size->S b->w'.heap[b]? = w.heap[b]?) (hs:w.heap.size<=w'.heap.size):bJ R S w' a n xs:=
 ⟨h.1,fun hn=>by
  obtain ⟨b,o,ha,hlt,hS,hc⟩:=h.2 hn;refine⟨b,o,ha,bN hlt hs,hS,fun j x hx=>?_⟩;obtain ⟨cs,h1,h2⟩:=hc j x hx;exact⟨cs,R.keep h1 hk hs,fun i u hu=>by rw [World.cell?_of_block (w:=w) (a:=⟨b,o+j * R.k+i,none⟩) (hk b hlt hS)];exact h2 i u hu⟩⟩
theorem bJ.mono (h:bJ R S w a n xs) (hk:∀b,b<w.heap.size->S b->S' b):bJ R S' w a n xs:=
 ⟨h.1,fun hn=>by
  obtain ⟨b,o,ha,hlt,hS,hc⟩:=h.2 hn;refine⟨b,o,ha,hlt,hk b hlt hS,fun j x hx=>?_⟩;obtain ⟨cs,h1,h2⟩:=hc j x hx;exact⟨cs,R.mono h1 hk,h2⟩⟩
theorem bJ.below {B:Nat} (h:bJ R S w a n xs) (hb:Below B w w') (hB:w.heap.size<=B):bJ R S w' a n xs:=h.keep (fun b hlt _=>hb.block b (bN hlt hB)) hb.size
theorem bJ.at (h:bJ R S w a n xs) {j:Nat} {x:α} (hx:xs[j]? = some x):∃b o cs,a=some ⟨b,o,none⟩/\S b/\R.rd S w x cs/\∀i u,cs[i]? = some u->w.cell? ⟨b,o+j * R.k+i,none⟩=some u:=by
 have hj:j<xs.length:=(List.getElem?_eq_some_iff.1 hx).1;obtain ⟨b,o,ha,_,hS,hc⟩:=h.2 (by have:=h.1;omega);obtain ⟨cs,h1,h2⟩:=hc j x hx;exact⟨b,o,cs,ha,hS,h1,h2⟩
end
def bV.slice (R:bV α):bV (List α) where
 k:=1
 rd S w xs cs:=∃a n c,cs = [.slice a n c]/\n<=c/\c<=maxLen/\bJ R S w a n xs
 len h:=by obtain ⟨a,n,c,rfl,_⟩:=h;rfl
 one h:=by obtain ⟨a,n,c,rfl,_⟩:=h;intro u hu;simp at hu;subst hu;rfl
 keep h hk hs:=by obtain ⟨a,n,c,rfl,h1,h2,h3⟩:=h;exact⟨a,n,c,rfl,h1,h2,h3.keep hk hs⟩
 mono h hk:=by obtain ⟨a,n,c,rfl,h1,h2,h3⟩:=h;exact⟨a,n,c,rfl,h1,h2,h3.mono hk⟩
theorem bJ.toI {S:Nat->Prop} {w:World} {a:Option Addr} {n:Nat} {xs:List Int} (h:bJ bV.int S w a n xs):jP w a n xs:=by
 refine⟨h.1,fun x hx=>?_,fun hn=>?_⟩
 ·obtain ⟨j,hj,rfl⟩:=List.getElem_of_mem hx;obtain ⟨b,o,cs,_,_,h1,_⟩:=h.at (List.getElem?_eq_getElem hj);exact h1.2
 ·obtain ⟨b,o,ha,hlt,hS,hc⟩:=h.2 hn;refine⟨b,o,ha,hlt,fun j hj=>?_⟩;have hjx:j<xs.length:=by have:=h.1;omega
  obtain ⟨cs,h1,h2⟩:=hc j _ (List.getElem?_eq_getElem hjx);have h3:=h2 0 (.int .i64 xs[j]) (by rw [h1.1];rfl);rw [cK hjx]
  simpa [bV.int] using h3
theorem bJ.ofI {S:Nat->Prop} {w:World} {a:Option Addr} {n:Nat} {xs:List Int} (h:jP w a n xs) (hS:∀x,0<n->a=some x->S x.block):bJ bV.int S w a n xs:=by
 refine⟨h.len,fun hn=>?_⟩;obtain ⟨b,o,ha,hlt,hc⟩:=h.cells hn;refine⟨b,o,ha,hlt,hS _ hn ha,fun j x hx=>?_⟩;have hj:j<xs.length:=(List.getElem?_eq_some_iff.1 hx).1;refine⟨[.int .i64 x],⟨rfl,h.wf x (List.mem_of_getElem? hx)⟩,fun i u hu=>?_⟩
 match i with
 |
  0=>
  simp at hu;subst hu;have:=hc j (by have:=h.len;omega);rw [cK hj] at this;simp [bV.int];rw [this]
  congr 1
  congr 1
  have:=List.getElem?_eq_getElem hj;rw [hx] at this;injection this with this
  exact this.symm
 | i+1=>simp at hu
def bK (R:bV α) (S:Nat->Prop) (w:World) (base:Nat) (e:TypeId) (v:Value) (xs:List α):Prop:=
 ∃css:List (List Value),bW w base e R.k v xs.length css.flatten/\css.length=xs.length/\∀(j:Nat) (x:α),xs[j]? = some x->∃cs,css[j]? = some cs/\R.rd S w x cs
theorem mA {k:Nat}:∀ {css:List (List Value)} (_:∀cs∈css,cs.length=k) {j:Nat} {cs:List Value} (_:css[j]? = some cs) {i:Nat} {u:Value} (_:cs[i]? = some u),css.flatten[j * k+i]? = some u
 |
  c :: css,hl,0,cs,h,i,u,hu=>by
  simp at h;subst h;rw [List.flatten_cons,Nat.zero_mul,Nat.zero_add,List.getElem?_append_left (List.getElem?_eq_some_iff.1 hu).1];exact hu
 |
  c :: css,hl,j+1,cs,h,i,u,hu=>by
  have hc:=hl c (by simp);rw [List.flatten_cons,List.getElem?_append_right (by rw [hc,Nat.succ_mul];omega),hc,show(j+1) * k+i - k=j * k+i by rw [Nat.succ_mul];omega];exact mA (fun cs h=>hl cs (by simp [h])) (by simpa using h) hu
section
variable {R : bV α} {S S' : Nat -> Prop} {w w' : World} {base : Nat} {e : TypeId} {v v' : Value} {xs : List α}
theorem bK.nil (R:bV α) (S:Nat->Prop) (w:World) (base:Nat) (e:TypeId):bK R S w base e (.slice none 0 0) []:=⟨[],bW.nil _ _ _ _,rfl,fun j x h=>by simp at h⟩
theorem bK.keep (h:bK R S w base e v xs) (hk:∀b,b<w.heap.size->S b->w'.heap[b]? = w.heap[b]?) (hv:∀k,v.ownBlock=some k->w'.heap[k]? = w.heap[k]?) (hs:w.heap.size<=w'.heap.size):bK R S w' base e v xs:=by
 obtain ⟨css,h1,h2,h3⟩:=h;refine⟨css,h1.same hv,h2,fun j x hx=>?_⟩;obtain ⟨cs,h4,h5⟩:=h3 j x hx;exact⟨cs,h4,R.keep h5 hk hs⟩
theorem bK.below {B:Nat} (h:bK R S w base e v xs) (hb:Below B w w') (hB:w.heap.size<=B):bK R S w' base e v xs:=
 h.keep (fun b hlt _=>hb.block b (bN hlt hB)) (fun k hk=>by obtain ⟨css,h1,_⟩:=h;exact hb.block k (bN (h1.lt k hk).2 hB)) hb.size
theorem bK.mono (h:bK R S w base e v xs) (hk:∀b,b<w.heap.size->S b->S' b):bK R S' w base e v xs:=by
 obtain ⟨css,h1,h2,h3⟩:=h;refine⟨css,h1,h2,fun j x hx=>?_⟩;obtain ⟨cs,h4,h5⟩:=h3 j x hx;exact⟨cs,h4,R.mono h5 hk⟩
theorem bK.lens {css:List (List Value)} (h2:css.length=xs.length) (h3:∀(j:Nat) (x:α),xs[j]? = some x->∃cs,css[j]? = some cs/\R.rd S w x cs):∀cs∈css,cs.length=R.k:=fun cs hc=>by
 obtain ⟨j,hj,rfl⟩:=List.getElem_of_mem hc;obtain ⟨cs,h4,h5⟩:=h3 j _ (List.getElem?_eq_getElem (by omega:j<xs.length));rw [List.getElem?_eq_getElem hj] at h4;injection h4 with h4
 rw [h4];exact R.len h5
theorem bK.slice (h:bK R S w base e v xs):∃a c,v = .slice a xs.length c/\xs.length<=c/\c<=maxLen:=by obtain ⟨css,h1,_⟩:=h;exact h1.slice
theorem bK.lt (h:bK R S w base e v xs):∀k,v.ownBlock=some k->base<=k/\k<w.heap.size:=by obtain ⟨css,h1,_⟩:=h;exact h1.lt
theorem bK.ty (h:bK R S w base e v xs):∀k,v.ownBlock=some k->∃cs f,w.heap[k]? = some (.cells cs e f):=by obtain ⟨css,h1,_⟩:=h;exact h1.ty
theorem bK.read {a:Option Addr} {n c:Nat} (h:bK R S w base e (.slice a n c) xs) (hS:∀b,b<w.heap.size->S b->S' b) (ho:∀b,Value.ownBlock (.slice a n c)=some b->S' b):bJ R S' w a n xs:=by
 obtain ⟨css,h1,h2,h3⟩:=h;obtain ⟨a',c',hv,_⟩:=h1.slice;cases hv;refine⟨rfl,fun hn=>?_⟩;obtain ⟨g,cap,hv,_,hlt⟩:=h1.form hn;cases hv;refine⟨g,0,rfl,hlt,ho g rfl,fun j x hx=>?_⟩;obtain ⟨cs,h4,h5⟩:=h3 j x hx;refine⟨cs,R.mono h5 hS,fun i u hu=>?_⟩;rw [Nat.zero_add];exact h1.cells (g:=g) rfl _ u (mA (bK.lens h2 h3) h4 hu)
theorem bK.push {x:α} {cs:List Value} {css:List (List Value)} (h2:css.length=xs.length) (h3:∀(j:Nat) (x:α),xs[j]? = some x->∃cs,css[j]? = some cs/\R.rd S w x cs) (hx:R.rd S w x cs)
  (ho:bW w' base e R.k v' (xs.length+1) (css.flatten++cs)) (hk:∀b,b<w.heap.size->S b->w'.heap[b]? = w.heap[b]?) (hs:w.heap.size<=w'.heap.size):bK R S w' base e v' (xs ++ [x]):=by
 refine⟨css ++ [cs],by simpa using ho,by simp [h2],fun j y hy=>?_⟩;by_cases hj:j<xs.length
 ·rw [List.getElem?_append_left hj] at hy;obtain ⟨ds,h4,h5⟩:=h3 j y hy;exact⟨ds,by rw [List.getElem?_append_left (by omega)];exact h4,R.keep h5 hk hs⟩
 ·have hl:=(List.getElem?_eq_some_iff.1 hy).1;rw [List.length_append,List.length_singleton] at hl;obtain rfl:j=xs.length:=by omega
  rw [List.getElem?_append_right aB] at hy;simp at hy;subst hy;exact⟨cs,by rw [<-h2];simp,R.keep hx hk hs⟩
end
def Env (w:World):Prop:=Lib.TabIs Tryz.prog w "strings.asciiSpace" .u8 Lib.asciiSpaceTab
theorem yQ:Tryz.prog.globalNamed "strings.asciiSpace" = some 0:=by kernel_rfl
theorem Env.same {w w':World} (h:Env w) (hb:w'.heap[0]? = w.heap[0]?):Env w':=by
 unfold Env Lib.TabIs World.var? at *;rw [yQ] at *;simp only [Option.bind_some] at *;rw [hb];exact h
theorem Env.pos {w:World} (h:Env w):0<w.heap.size:=by
 unfold Env Lib.TabIs World.var? at h;rw [yQ] at h;simp only [Option.bind_some] at h;rcases Nat.eq_zero_or_pos w.heap.size with h0 | h0
 ·rw [Array.getElem?_eq_none (by omega)] at h;cases h
 ·exact h0
theorem Env.below {B:Nat} {w w':World} (h:Env w) (hb:Below B w w') (hB:0<B):Env w':=h.same (hb.block 0 hB)
theorem Env.all {w w':World} (h:Env w) (hb:Below w.heap.size w w'):Env w':=h.below hb h.pos
theorem aQ {a b:Bool} (h:a=b):Ending.returned (.bool a) = .returned (.bool b):=by rw [h]
theorem jL {k:IntKind} {a b:Int} (h:a=b):Ending.returned (.int k a) = .returned (.int k b):=by rw [h]
def wY:List UInt8:=[116,114,117,101,32,102,97,108,115,101,32,110,111,116,32,97,110,100,32,111,114,32,61,62,32,120,111,114,32,61,32,100,105,115,116,105,110,99,116,32,105,116,101,32,108,101,116,32,43,32,45,32,42,32,47,32,60,61,32,60,32,62,61,32,62,32,66,111,111,108,32,82,101,97,108,32,95,32,33,32,97,115,32,101,120,105,115,116,115,32,102,111,114,97,108,108,32,112,97,114]
def yR:List (List UInt8):=[[116,114,117,101],[102,97,108,115,101],[110,111,116],[97,110,100],[111,114],[61,62],[120,111,114],[61],[100,105,115,116,105,110,99,116],[105,116,101],[108,101,116],[43],[45],[42],[47],[60,61],[60],[62,61],[62],[66,111,111,108],[82,101,97,108],[95],[33],[97,115],[101,120,105,115,116,115],[102,111,114,97,108,108],[112,97,114]]
def dJ:List ByteArray:=yR.map fun l=>⟨l.toArray⟩
theorem aBg:Lib.fields wY=yR:=by decide +kernel
theorem aDo:wY.all (fun b=>b.toNat<128)=true:=by decide +kernel
theorem aBh (s:ByteArray) (w:World) (hE:Env w) (hs:s.data.toList=wY):Calls Tryz.prog 188 #[.string s] w fun e w'=>e = .returned (.slice (some ⟨w.heap.size,0,none⟩) 27 27)/\w'=w.alloc (.cells (dJ.map Value.string).toArray 9):=by
 have hsz:s.size<4294967281:=by
  have h1:s.size=s.data.toList.length:=by simp
  rw [h1,hs];decide
 refine(Tryz.strings_Fields_laid s w hsz (fun j b hb=>?_) hE).mono fun e w' ⟨h1,h2⟩=>?_
 ·rw [hs] at hb;have:=List.all_eq_true.1 aDo b (List.mem_of_getElem? hb)
  simpa using this
 ·rw [hs,aBg] at h1 h2;refine⟨h1,h2.trans ?_⟩;unfold dJ;rw [List.map_map];rfl
def qB (s:ByteArray):Bool:=Lib.containsS dJ s
theorem wZ (s:ByteArray) (w:World) (hE:Env w):Calls Tryz.prog 153 #[.string s] w fun e w'=>e = .returned (.bool (qB s))/\Below w.heap.size w w':=by
 have hE':=hid hE;have hl:dJ.length=27:=by decide
 have hl':=hid hl;have hd:=@hid (qB s=Lib.containsS (dJ.take 27) s) (by unfold qB;rw [<-hl,List.take_length]);clear hE hl;go_enter Tryz.func153,Tryz.ntmps153
 go_wp2_with fail
 refine(aBh _ w hE'.out (by kernel_rfl)).mono ?_;rintro e w' ⟨rfl,rfl⟩
 go_wp2_with fail
 refine(Tryz.slices_Contains_string w.heap.size 0 27 27 dJ s _ (by rw [hl'.out];omega) (by omega) (fun j hj=>?_)).mono ?_
 ·rw [World.cell?_alloc_new];simp [List.getD,hj]
 rintro e w' ⟨rfl,rfl⟩;rw [<-hd.out];go_wp2;go_ret;exact⟨rfl,bD⟩
def iT (s:ByteArray):Bool:=!s.toList.isEmpty && (decide (s.size<=200) && !qB s)
theorem aCy (s:ByteArray) (w:World) (hE:Env w):Calls Tryz.prog 105 #[.string s] w fun e w'=>e = .returned (.bool (iT s))/\Below w.heap.size w w':=by
 have hd:=@hid (iT s=(!s.toList.isEmpty && (decide (s.size<=200) && !qB s))) rfl;have hr:=hid (wZ s w hE);clear hE;cases h0:s.toList.isEmpty
 case true=>
  have hv:=@hid (false=iT s) (by rw [hd.out,h0];rfl);have e1:s.toList = []:=by simpa using h0
  clear h0;go_enter Tryz.func105,Tryz.ntmps105
  go_wp2;go_ret;exact⟨aQ hv.out,Below.refl _ _⟩
 case false=>
  by_cases h2:s.size<=200
  ·have hv:=@hid (iT s = !qB s) (by rw [hd.out,h0];simp [h2]);have e2:(!s.toList.isEmpty)=true:=by rw [h0];rfl
   have h2i:(s.size:Int)<=200:=by omega
   go_enter Tryz.func105,Tryz.ntmps105
   go_wp2_with fail
   refine hr.out.mono ?_;rintro e w1 ⟨rfl,hb⟩;have hb':=hid hb;clear hb;go_wp2;go_ret;exact⟨aQ hv.out.symm,hb'.out⟩
  ·have hv:=@hid (false=iT s) (by rw [hd.out,h0];simp [h2]);have e2:(!s.toList.isEmpty)=true:=by rw [h0];rfl
   have h2':decide (s.size<=200)=false:=by simpa using h2
   go_enter Tryz.func105,Tryz.ntmps105
   go_wp2;go_ret;exact⟨aQ hv.out,Below.refl _ _⟩
structure gX where
 name:ByteArray
 args:List Int
 res:Int
def kP:bV gX:=bV.map (fun f=>(f.name,f.args,f.res)) (.prod .str (.prod (.slice .int) .int))
def aIn:bV (Nat × Nat):=bV.map (fun m=>((m.1:Int),(m.2:Int))) (.prod .int .int)
theorem aKm:kP.k=3:=rfl
theorem aKn:bV.str.k=1:=rfl
def fG (x:Int):Prop:=-9223372036854775808<=x/\x<=9223372036854775807
theorem kZ {S:Nat->Prop} {w:World} {f:gX} {cs:List Value}:kP.rd S w f cs↔∃a n c,cs = [.string f.name,.slice a n c,.int .i64 f.res]/\n<=c/\c<=maxLen/\bJ bV.int S w a n f.args/\fG f.res:=by
 constructor
 ·rintro ⟨c,d,rfl,h1,c',d',rfl,⟨a,n,cc,h2,h3,h4,h5⟩,h6,h7⟩;have h1':c = [.string f.name]:=h1;have h6':d' = [.int .i64 f.res]:=h6;subst h1' h2 h6';exact⟨a,n,cc,rfl,h3,h4,h5,h7⟩
 ·rintro ⟨a,n,c,rfl,h3,h4,h5,h6⟩;exact⟨[.string f.name],_,rfl,rfl,[.slice a n c],_,rfl,⟨a,n,c,rfl,h3,h4,h5⟩,rfl,h6⟩
def fZ (X:Nat->Prop) (w:World) (k:Nat):Prop:=¬X k/\∃cs f,w.heap[k]? = some (.cells cs 3 f)
theorem fZ.lt {X:Nat->Prop} {w:World} {k:Nat} (h:fZ X w k):k<w.heap.size:=by obtain ⟨_,cs,f,h⟩:=h;exact(bQ h).1
structure fA where
 sorts:List ByteArray
 funs:List gX
 marks:List (Nat × Nat)
structure gJ (X:Nat->Prop) (B p:Nat) (T:fA) (w:World):Prop where
 bp:B<=p
 xlt:∀k,X k->k<w.heap.size
 blk:∃v1 v2 v3,w.heap[p]? = some (.cells #[v1,v2,v3] 168 (0,0))/\bK bV.str (fun _=>False) w B 9 v1 T.sorts/\bK kP (fZ X w) w B 114 v2 T.funs/\bK aIn (fun _=>False) w B 330 v3 T.marks
abbrev TabIs:=gJ fun _=>False
section
variable {X : Nat -> Prop} {B p : Nat} {T : fA} {w w' W : World}
theorem gJ.plt (h:gJ X B p T w):p<w.heap.size:=by obtain ⟨v1,v2,v3,hb,_⟩:=h.blk;exact(bQ hb).1
theorem oN {t:TypeId} {f:Nat × Nat} {v1 v2 v3:Value} (hb:w.heap[p]? = some (.cells #[v1,v2,v3] t f)) {k:Nat}:dQ w p k↔k=p\/v1.ownBlock=some k\/v2.ownBlock=some k\/v3.ownBlock=some k:=by
 unfold dQ;constructor
 ·rintro (h | ⟨cs,t',f',h,v,hv,hk⟩)
  ·exact .inl h
  ·rw [hb] at h;cases h;simp at hv;rcases hv with rfl | rfl | rfl
   ·exact .inr (.inl hk)
   ·exact .inr (.inr (.inl hk))
   ·exact .inr (.inr (.inr hk))
 ·rintro (h | h | h | h)
  ·exact .inl h
  ·exact .inr ⟨_,_,_,hb,v1,by simp,h⟩
  ·exact .inr ⟨_,_,_,hb,v2,by simp,h⟩
  ·exact .inr ⟨_,_,_,hb,v3,by simp,h⟩
theorem gJ.ownB (h:gJ X B p T w) {k:Nat} (hk:dQ w p k):B<=k/\k<w.heap.size:=by
 obtain ⟨v1,v2,v3,hb,h1,h2,h3⟩:=h.blk;rcases (oN hb).1 hk with rfl | hk | hk | hk
 ·exact⟨h.bp,h.plt⟩
 ·exact h1.lt k hk
 ·exact h2.lt k hk
 ·exact h3.lt k hk
theorem cQ {k:Nat} {t t':TypeId} (hne:t≠t') (h:∃cs f,w.heap[k]? = some (.cells cs t f)) (h':∃cs f,w.heap[k]? = some (.cells cs t' f)):False:=by
 obtain ⟨cs,f,h⟩:=h;obtain ⟨cs',f',h'⟩:=h';rw [h] at h';injection h' with h'
 injection h' with _ h'
 exact hne h'
theorem gJ.ownI (h:gJ X B p T w) {k:Nat} (hk:dQ w p k):¬fZ X w k:=fun hi=>by
 obtain ⟨v1,v2,v3,hb,h1,h2,h3⟩:=h.blk;rcases (oN hb).1 hk with rfl | hk | hk | hk
 ·exact cQ (by decide) ⟨_,_,hb⟩ hi.2
 ·exact cQ (by decide) (h1.ty k hk) hi.2
 ·exact cQ (by decide) (h2.ty k hk) hi.2
 ·exact cQ (by decide) (h3.ty k hk) hi.2
theorem fZ.same {k:Nat} (h:fZ X w k) (hb:w'.heap[k]? = w.heap[k]?):fZ X w' k:=by obtain ⟨hx,cs,f,h⟩:=h;exact⟨hx,cs,f,hb.trans h⟩
theorem bK.keepI {v:Value} {fs:List gX} (h:bK kP (fZ X w) w B 114 v fs) (hi:∀k,fZ X w k->w'.heap[k]? = w.heap[k]?) (hv:∀k,v.ownBlock=some k->w'.heap[k]? = w.heap[k]?) (hs:w.heap.size<=w'.heap.size):bK kP (fZ X w') w' B 114 v fs:=
 (h.keep (fun b _ hb=>hi b hb) hv hs).mono fun b _ hb=>hb.same (hi b hb)
theorem gJ.keep (h:gJ X B p T w) (hk:∀k,dQ w p k->w'.heap[k]? = w.heap[k]?) (hi:∀k,fZ X w k->w'.heap[k]? = w.heap[k]?) (hs:w.heap.size<=w'.heap.size):gJ X B p T w':=by
 obtain ⟨v1,v2,v3,hb,h1,h2,h3⟩:=h.blk;refine⟨h.bp,fun k hx=>bN (h.xlt k hx) hs,v1,v2,v3,(hk p (.inl rfl)).trans hb,h1.keep (fun _ _ h=>h.elim) (fun k e=>hk k ((oN hb).2 (.inr (.inl e)))) hs,h2.keepI hi (fun k e=>hk k ((oN hb).2 (.inr (.inr (.inl e))))) hs,h3.keep (fun _ _ h=>h.elim) (fun k e=>hk k ((oN hb).2 (.inr (.inr (.inr e))))) hs⟩
theorem gJ.all (h:gJ X B p T w) (hb:Below w.heap.size w w'):gJ X B p T w':=h.keep (fun k hk=>hb.block k (h.ownB hk).2) (fun k hk=>hb.block k hk.lt) hb.size
theorem gJ.stepBelow (h:gJ X B p T w) (hs:eX p w w'):Below B w w':=hs.below (aK h.bp (Nat.le_of_lt h.plt)) fun _ hk=>(h.ownB hk).1
end
section
variable {w W : World} {p i : Nat} {cs : Array Value} {t : TypeId} {v v' : Value}
theorem qC (hb:w.heap[p]? = some (.cells cs t (0,0))) (hi:cs[i]? = some v) (hg:w.grownBy W v.ownBlock) (hp:v.ownBlock≠some p) (hloc:v'.ownBlock=v.ownBlock\/∀k,v'.ownBlock=some k->w.heap.size<=k) :
  eX p w (W.setCell ⟨p,i,none⟩ v')/\(W.setCell ⟨p,i,none⟩ v').heap[p]? = some (.cells (cs.setIfInBounds i v') t (0,0))/\∀k,k≠p->(W.setCell ⟨p,i,none⟩ v').heap[k]? = W.heap[k]?:=by
 have hlt:=(bQ hb).1;have hbW:W.heap[p]? = some (.cells cs t (0,0)):=(hg.block p hlt (Ne.symm hp)).trans hb;have h1:(W.setCell ⟨p,i,none⟩ v').heap[p]? = some (.cells (cs.setIfInBounds i v') t (0,0)):=by
  unfold World.setCell;rw [Array.getElem?_modify,if_pos rfl,hbW];rfl
 have h2:∀k,k≠p->(W.setCell ⟨p,i,none⟩ v').heap[k]? = W.heap[k]?:=fun k hk=>Below.heap_setCell _ _ _ _ (fun e=>hk e)
 have hil:i<cs.size:=(bQ hi).1;refine⟨⟨hg.os,hg.tape,hg.output,by simpa [World.setCell] using hg.size,fun k hk hn=>?_⟩,h1,h2⟩;have hkp:k≠p:=fun e=>hn (.inl e)
 have hkv:v.ownBlock≠some k:=fun e=>hn (.inr ⟨_,_,_,hb,v,by rw [Array.mem_iff_getElem?];exact⟨i,hi⟩,e⟩)
 refine⟨(h2 k hkp).trans (hg.block k hk (Ne.symm hkv)),?_⟩;rintro (e | ⟨cs',t',f',e,u,hu,hk2⟩)
 ·exact hkp e
 ·rw [h1] at e;cases e;rw [Array.mem_iff_getElem?] at hu;obtain ⟨j,hj⟩:=hu;rw [Array.getElem?_setIfInBounds] at hj;by_cases hij:i=j
  ·subst hij;rw [if_pos rfl,if_pos hil] at hj;cases hj;rcases hloc with e | e
   ·exact hkv (by rw [<-e];exact hk2)
   ·have:=e k hk2;omega
  ·rw [if_neg hij] at hj;exact hn (.inr ⟨_,_,_,hb,u,by rw [Array.mem_iff_getElem?];exact⟨j,hj⟩,hk2⟩)
end
section
variable {X : Nat -> Prop} {B p : Nat} {T : fA} {w W : World} {v1 v2 v3 v' : Value}
theorem eP {α β:Type} {R:bV α} {Q:bV β} {S S':Nat->Prop} {e e':TypeId} {v v':Value} {xs:List α} {ys:List β} {B B':Nat} (h:bK R S w B e v xs) (h':bK Q S' w B' e' v' ys) (hne:e≠e') {k:Nat} (hk:v.ownBlock=some k):v'.ownBlock≠some k:=
 fun e2=>cQ hne (h.ty k hk) (h'.ty k e2)
theorem gJ.setSorts (h:gJ X B p T w) (hb:w.heap[p]? = some (.cells #[v1,v2,v3] 168 (0,0))) (hg:w.grownBy W v1.ownBlock) (hloc:v'.ownBlock=v1.ownBlock\/∀k,v'.ownBlock=some k->w.heap.size<=k) {l:List ByteArray} (ho:bK bV.str (fun _=>False) W B 9 v' l) :
  gJ X B p { T with sorts:=l } (W.setCell ⟨p,0,none⟩ v')/\eX p w (W.setCell ⟨p,0,none⟩ v'):=by
 obtain ⟨u1,u2,u3,hb',h1,h2,h3⟩:=h.blk;rw [hb] at hb';cases hb';have hp1:v1.ownBlock≠some p:=fun e=>cQ (by decide) (h1.ty p e) ⟨_,_,hb⟩
 have hp2:v2.ownBlock≠some p:=fun e=>cQ (by decide) (h2.ty p e) ⟨_,_,hb⟩
 have hp3:v3.ownBlock≠some p:=fun e=>cQ (by decide) (h3.ty p e) ⟨_,_,hb⟩
 obtain ⟨s1,s2,s3⟩:=qC (v':=v') hb (i:=0) rfl hg hp1 hloc;have hpW:W.heap[p]? = w.heap[p]?:=hg.block p h.plt (Ne.symm hp1);have hp':v'.ownBlock≠some p:=fun e=>cQ (by decide) (ho.ty p e) ⟨_,_,hpW.trans hb⟩
 have hsz:(W.setCell ⟨p,0,none⟩ v').heap.size=W.heap.size:=by simp [World.setCell]
 refine⟨⟨h.bp,fun k hx=>bN (h.xlt k hx) (aK hg.size (Nat.le_of_eq hsz.symm)),v',v2,v3,s2,ho.keep (fun _ _ h=>h.elim) (fun k hk=>s3 k fun e=>hp' (by rw [<-e];exact hk)) (Nat.le_of_eq hsz.symm),h2.keepI (fun k hk=>?_) (fun k hk=>?_) (by rw [hsz];exact hg.size),h3.keep (fun _ _ h=>h.elim) (fun k hk=>?_) (by rw [hsz];exact hg.size)⟩,s1⟩
 ·rw [s3 k fun e=>by subst e;exact cQ (by decide) ⟨_,_,hb⟩ hk.2];exact hg.block k hk.lt fun e=>cQ (by decide) (h1.ty k e.symm) hk.2
 ·rw [s3 k fun e=>hp2 (by rw [<-e];exact hk)];exact hg.block k (h2.lt k hk).2 fun e=>eP h2 h1 (by decide) hk e.symm
 ·rw [s3 k fun e=>hp3 (by rw [<-e];exact hk)];exact hg.block k (h3.lt k hk).2 fun e=>eP h3 h1 (by decide) hk e.symm
theorem gJ.setFuns (h:gJ X B p T w) (hb:w.heap[p]? = some (.cells #[v1,v2,v3] 168 (0,0))) (hg:w.grownBy W v2.ownBlock) (hloc:v'.ownBlock=v2.ownBlock\/∀k,v'.ownBlock=some k->w.heap.size<=k) {l:List gX} (ho:bK kP (fZ X W) W B 114 v' l) :
  gJ X B p { T with funs:=l } (W.setCell ⟨p,1,none⟩ v')/\eX p w (W.setCell ⟨p,1,none⟩ v'):=by
 obtain ⟨u1,u2,u3,hb',h1,h2,h3⟩:=h.blk;rw [hb] at hb';cases hb';have hp1:v1.ownBlock≠some p:=fun e=>cQ (by decide) (h1.ty p e) ⟨_,_,hb⟩
 have hp2:v2.ownBlock≠some p:=fun e=>cQ (by decide) (h2.ty p e) ⟨_,_,hb⟩
 have hp3:v3.ownBlock≠some p:=fun e=>cQ (by decide) (h3.ty p e) ⟨_,_,hb⟩
 obtain ⟨s1,s2,s3⟩:=qC (v':=v') hb (i:=1) rfl hg hp2 hloc;have hpW:W.heap[p]? = w.heap[p]?:=hg.block p h.plt (Ne.symm hp2);have hp':v'.ownBlock≠some p:=fun e=>cQ (by decide) (ho.ty p e) ⟨_,_,hpW.trans hb⟩
 have hsz:(W.setCell ⟨p,1,none⟩ v').heap.size=W.heap.size:=by simp [World.setCell]
 refine⟨⟨h.bp,fun k hx=>bN (h.xlt k hx) (aK hg.size (Nat.le_of_eq hsz.symm)),v1,v',v3,s2,h1.keep (fun _ _ h=>h.elim) (fun k hk=>?_) (by rw [hsz];exact hg.size),ho.keepI (fun k hk=>s3 k fun e=>?_) (fun k hk=>s3 k fun e=>hp' (by rw [<-e];exact hk)) (Nat.le_of_eq hsz.symm),h3.keep (fun _ _ h=>h.elim) (fun k hk=>?_) (by rw [hsz];exact hg.size)⟩,s1⟩
 ·rw [s3 k fun e=>hp1 (by rw [<-e];exact hk)];exact hg.block k (h1.lt k hk).2 fun e=>eP h1 h2 (by decide) hk e.symm
 ·subst e;exact cQ (by decide) ⟨_,_,hpW.trans hb⟩ hk.2
 ·rw [s3 k fun e=>hp3 (by rw [<-e];exact hk)];exact hg.block k (h3.lt k hk).2 fun e=>eP h3 h2 (by decide) hk e.symm
end
variable {X : Nat -> Prop}
theorem tF:(Tryz.prog.info? 3).map (fun i=>(i.zero,i.size,i.bytes))=some (some (.int .i64 0),1,8):=by kernel_rfl
theorem yS:(Tryz.prog.info? 9).map (fun i=>(i.zero,i.size,i.bytes))=some (some (.string ByteArray.empty),1,16):=by kernel_rfl
theorem yT:(Tryz.prog.info? 114).map (fun i=>(i.zero,i.size,i.bytes))=some (some (.agg #[.string ByteArray.empty,.slice none 0 0,.int .i64 0]),3,48):=by kernel_rfl
theorem aC {w:World} {p:Nat} {cs:Array Value} {t:TypeId} {f:Nat × Nat} (hb:w.heap[p]? = some (.cells cs t f)) (j:Nat):w.cell? ⟨p,j,none⟩=cs[j]?:=by simp [World.cell?,hb]
theorem aY {w:World} {p:Nat} {cs:Array Value} {t:TypeId} (hb:w.heap[p]? = some (.cells cs t (0,0))) (j:Nat):w.frozen? ⟨p,j,none⟩=false:=by simp [World.frozen?,hb]
theorem bU {w W:World} {o:Obj} {row:Option Nat} (h:(w.alloc o).grownBy W row):w.grownBy W row:=
 ⟨h.os,h.tape,h.output,aK (by simp) h.size,fun k hk hne=>(h.block k (by simp;omega) hne).trans (Below.heap_alloc w o k hk)⟩
theorem bJ.strs {S:Nat->Prop} {w:World} {a:Option Addr} {n:Nat} {zs:List ByteArray} (h:bJ bV.str S w a n zs) (hn:0<n):∃b o,a=some ⟨b,o,none⟩/\∀j,j<zs.length->w.cell? ⟨b,o+j,none⟩=some (.string (zs.getD j ByteArray.empty)):=by
 obtain ⟨b,o,ha,_,_,hc⟩:=h.2 hn;refine⟨b,o,ha,fun j hj=>?_⟩;obtain ⟨cs,h1,h2⟩:=hc j _ (List.getElem?_eq_getElem hj);have h3:=h2 0 (.string zs[j]) (by rw [show cs = [.string zs[j]] from h1];rfl);rw [aKn] at h3
 simpa [List.getD,hj] using h3
theorem uV {S:Nat->Prop} (a:Option Addr) (n c:Nat) (zs:List ByteArray) (x:ByteArray) (w:World) (h:bJ bV.str S w a n zs) (hn:n<=9223372036854775807) :
  Calls Tryz.prog 106 #[.slice a n c,.string x] w fun e w'=>e = .returned (.bool (Lib.containsS zs x))/\w=w':=by
 rcases Nat.eq_zero_or_pos n with h0 | h0
 ·subst h0;have hz:zs = []:=List.eq_nil_of_length_eq_zero h.1;subst hz;exact(Tryz.slices_Contains_string_empty a c x w).mono fun e w' ⟨h1,h2⟩=>⟨h1,h2.symm⟩
 ·obtain ⟨b,o,rfl,hc⟩:=h.strs h0;refine(Tryz.slices_Contains_string b o n c zs x w (Nat.le_of_eq h.1.symm) hn hc).mono fun e w' ⟨h1,h2⟩=>⟨?_,h2.symm⟩
  rw [<-h.1,List.take_length] at h1;exact h1
theorem aFb (w:World):Calls Tryz.prog 56 #[] w fun e w'=>∃p,e = .returned (.pointer (some ⟨p,0,none⟩))/\TabIs w.heap.size p ⟨[],[],[]⟩ w'/\Below w.heap.size w w':=by
 go_enter Tryz.func56,Tryz.ntmps56
 go_wp2;go_ret;exact⟨w.heap.size,rfl,⟨aB,fun _ h=>h.elim,_,_,_,heap_alloc_new w _,bK.nil _ _ _ _ _,bK.nil _ _ _ _ _,bK.nil _ _ _ _ _⟩,bD⟩
theorem gJ.look {B p:Nat} {T:fA} {w:World} (h:gJ X B p T w):∃a1 c1 a2 c2 a3 c3,w.heap[p]? = some (.cells #[.slice a1 T.sorts.length c1,.slice a2 T.funs.length c2,.slice a3 T.marks.length c3] 168 (0,0)) /\
  bK bV.str (fun _=>False) w B 9 (.slice a1 T.sorts.length c1) T.sorts/\bK kP (fZ X w) w B 114 (.slice a2 T.funs.length c2) T.funs/\bK aIn (fun _=>False) w B 330 (.slice a3 T.marks.length c3) T.marks:=by
 obtain ⟨v1,v2,v3,hb,h1,h2,h3⟩:=h.blk;obtain ⟨a1,c1,rfl,_⟩:=h1.slice;obtain ⟨a2,c2,rfl,_⟩:=h2.slice;obtain ⟨a3,c3,rfl,_⟩:=h3.slice;exact⟨a1,c1,a2,c2,a3,c3,hb,h1,h2,h3⟩
def vM (n:Nat) (s:Int):Bool:=decide (0<=s) && decide (s<2+n)
theorem aBi (B p:Nat) (T:fA) (s:Int) (w:World) (h:gJ X B p T w) (hl:T.sorts.length<1099511627776):Calls Tryz.prog 110 #[.pointer (some ⟨p,0,none⟩),.int .i64 s] w fun e w'=>e = .returned (.bool (vM T.sorts.length s))/\w=w':=by
 obtain ⟨a1,c1,a2,c2,a3,c3,hb,_⟩:=h.look;have k0:w.cell? ⟨p,0,none⟩=some (.slice a1 T.sorts.length c1):=aC hb 0;have hd:=@hid (vM T.sorts.length s=(decide (0<=s) && decide (s<2+(T.sorts.length:Int)))) rfl;clear hb h;generalize T.sorts.length=n at *;by_cases h1:0<=s
 ·have hv:=@hid (vM n s=decide (s<2+(n:Int))) (by rw [hd.out];simp [h1]);go_enter Tryz.func110,Tryz.ntmps110
  go_wp2;go_ret;exact⟨aQ hv.out.symm,rfl⟩
 ·have hv:=@hid (false=vM n s) (by rw [hd.out];simp [h1]);have h1':decide (0<=s)=false:=by simpa using h1
  go_enter Tryz.func110,Tryz.ntmps110
  go_wp2;go_ret;exact⟨aQ hv.out,rfl⟩
def gY (T:fA) (s:ByteArray):Bool:=!iT s || Lib.containsS T.sorts s
def kQ (X:Nat->Prop) (B p:Nat) (T:fA) (s:ByteArray) (w:World) (e:Ending) (w':World):Prop:=
 (if gY T s then e = .returned (.tuple #[.int .i64 0,.int .i64 1])/\gJ X B p T w' else e = .returned (.tuple #[.int .i64 ((T.sorts.length:Int)+2),.int .i64 0])/\gJ X B p { T with sorts:=T.sorts ++ [s] } w')/\eX p w w'
theorem aFc (B p:Nat) (T:fA) (s:ByteArray) (w:World) (h:gJ X B p T w) (hE:Env w) (hl:T.sorts.length<1099511627776):Calls Tryz.prog 57 #[.pointer (some ⟨p,0,none⟩),.string s] w fun e w'=>kQ X B p T s w e w':=by
 have h':=hid h;have hm:=hid (aCy s w hE);have hd:=@hid (gY T s=(!iT s || Lib.containsS T.sorts s)) rfl;clear h hE;cases hmay:iT s
 case false=>
  have hv:=@hid (gY T s=true) (by rw [hd.out,hmay];rfl);rw [hmay] at hm;clear hmay;go_enter Tryz.func57,Tryz.ntmps57
  go_wp2_with fail
  refine hm.out.mono ?_;rintro e w1 ⟨rfl,hb⟩;have hb':=hid hb;clear hb;go_wp2;go_ret2;unfold kQ;rw [if_pos hv.out];exact⟨⟨rfl,h'.out.all hb'.out⟩,.of_below h'.out.plt hb'.out⟩
 rw [hmay] at hm;obtain ⟨i0,hi,hz0,hz1,hz2⟩:=info_parts yS;go_enter Tryz.func57,Tryz.ntmps57
 go_wp2_with fail
 refine hm.out.mono ?_;rintro e w1 ⟨rfl,hb⟩;have hb':=hid hb;have H1:=hid (h'.out.all hb);obtain ⟨a1,c1,a2,c2,a3,c3,hblk,o1,_⟩:=H1.out.look;have k0:w1.cell? ⟨p,0,none⟩=some (.slice a1 T.sorts.length c1):=aC hblk 0;have f0:w1.frozen? ⟨p,0,none⟩=false:=aY hblk 0;have hrd:=o1.read (S':=fun _=>True) (fun _ _ _=>trivial) (fun _ _=>trivial);have hct:=hid (uV a1 T.sorts.length c1 T.sorts s w1 hrd (by omega));have hblk':=hid hblk;obtain ⟨css,oc,ol,oe⟩:=o1;have oc':=hid oc;have ol':=hid ol;have oe':=hid oe;have hp1:=hid (show Value.ownBlock (.slice a1 T.sorts.length c1)≠some p from fun e=>cQ (by decide) (oc.ty p e) ⟨_,_,hblk⟩);have hplt:=H1.out.plt;have hBs:=aK H1.out.bp (Nat.le_of_lt hplt);clear hb hblk hrd oc ol oe;cases hcs:Lib.containsS T.sorts s
 case true=>
  have hv:=@hid (gY T s=true) (by rw [hd.out,hmay,hcs];rfl);rw [hcs] at hct;clear hmay hcs
  go_wp2_with fail
  refine hct.out.mono ?_;rintro e w' ⟨rfl,rfl⟩;go_wp2;go_ret2;unfold kQ;rw [if_pos hv.out];exact⟨⟨rfl,H1.out⟩,.of_below h'.out.plt hb'.out⟩
 case false=>
  have hv:=@hid (gY T s=false) (by rw [hd.out,hmay,hcs];rfl);rw [hcs] at hct;clear hmay hcs;have hnl:T.sorts.length<1099511627776:=hl
  go_wp2_with fail
  refine hct.out.mono ?_;rintro e w' ⟨rfl,rfl⟩
  go_wp2_with (at_builtin;refine eB rfl (.tmp 25) (.tmp 27) rfl Tryz.underlying60 hi hz0 hz1 hz2 rfl (by decide) rfl rfl (oc'.out.alloc _) (Src.one (b:=w1.heap.size) (news:=[.string s]) rfl ?c1) ?c2 ?c3 ?c4 ?c5 ?_)
  case c1=>intro j u hu;rw [World.cell?_alloc_new];simpa using hu
  case c2=>intro u hu;simp at hu;subst hu;rfl
  case c3=>unfold maxLen;omega
  case c4=>omega
  case c5=>simp;omega
  intro v' w2 ho2 hg2 hl2;have hg2':=hid (bU hg2);have hl2':=hid (show v'.ownBlock=Value.ownBlock (.slice a1 T.sorts.length c1)\/∀k,v'.ownBlock=some k->w1.heap.size<=k from hl2.imp id (fun hh k hk=>Nat.le_of_succ_le (hh k hk)));have ho2':=hid (bK.push (R:=bV.str) (S:=fun _=>False) (x:=s) ol'.out oe'.out (show bV.str.rd (fun _=>False) w1 s [.string s] from rfl) ho2 (fun _ _ h=>h.elim) (bU hg2).size);obtain ⟨a',c',rfl,_⟩:=ho2.slice;have k2:w2.cell? ⟨p,0,none⟩=some (.slice a1 T.sorts.length c1):=by
   rw [World.cell?_of_block (w:=w1) (a:=⟨p,0,none⟩) (hg2'.out.block p hplt (Ne.symm hp1.out))];exact k0
  have f2:w2.frozen? ⟨p,0,none⟩=false:=by
   rw [World.frozen?_of_block (w:=w1) (a:=⟨p,0,none⟩) (hg2'.out.block p hplt (Ne.symm hp1.out))];exact f0
  clear ho2 hg2 hl2;go_wp2;go_ret2;unfold kQ;rw [if_neg (by rw [hv.out];decide)];obtain ⟨t1,s1⟩:=H1.out.setSorts hblk'.out hg2'.out hl2'.out ho2'.out;refine⟨⟨?_,t1⟩,(eX.of_below h'.out.plt hb'.out).trans s1⟩;have:(2:Int)+((T.sorts.length:Int)+1) - 1=(T.sorts.length:Int)+2:=by omega
  simp;omega
end Go.Proofs.YtgoojkiccdjplaaGreatDoor
