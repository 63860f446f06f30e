/-
  Parts of this claim's texts, one behind the other: V O G SA SB SC. No condition.
-/
import Derived.WalkKit
import Derived.WalkSpells
import Derived.WalkLawsBesides
import Derived.Lib.Hide
import Derived.Lib.RowBridge
import Derived.Sort.Grow
import Derived.Deep.Draws
import Derived.StillTailTactics
import Derived.Deep.RegionHeld3
import Derived.Deep.AppendLies
import Derived.ProofKit
import Derived.OpenShut
import Derived.ShutString
import Derived.ChangeOld
import Derived.Deep.Grids
import Derived.ArgAppend
import Derived.Maps.AppendAt
import Derived.Test.YtgoojkiccdjplaaGreatDoorRows
import Derived.Test.YtgoojkiccdjplaaGreatDoorN0
import Derived.Deep.QuietTactic
import Derived.BigQuiet
set_option linter.unusedVariables false
set_option linter.unusedSimpArgs false
set_option maxRecDepth 100000
set_option maxHeartbeats 16000000
namespace Go.RowKit
theorem Below.drewN {B:Nat} {a w:World} (h:Below B a w) (q:Nat):Below B a (w.drewN q):=⟨h.os,h.tape,h.output,h.size,h.block⟩
end Go.RowKit
namespace Go.Proofs.YtgoojkiccdjplaaGreatDoor
open Go.RowKit Go.Sort Go.Lib
theorem sA {α:Type _} (l:List α) (i:Nat) (a:α):l.toArray.setIfInBounds i a=(l.set i a).toArray:=List.setIfInBounds_toArray l i a
theorem sB {α:Type _} {x:α} {xs:List α} {a:α}:(x :: xs).set 0 a=a :: xs:=rfl
theorem sC {α:Type _} {x:α} {xs:List α} {i:Nat} {a:α}:(x :: xs).set (i+1) a=x :: xs.set i a:=rfl
def nth (xs:List Int) (j:Nat):Int:=xs.getD j 0
theorem nth_eq {xs:List Int} {j:Nat} (h:j<xs.length):nth xs j=xs[j]:=by simp [nth,List.getD,h]
theorem nth_mem {xs:List Int} {j:Nat} (h:j<xs.length):nth xs j∈xs:=by rw [nth_eq h];exact List.getElem_mem h
theorem ext_nth {xs ys:List Int} (h:xs.length=ys.length) (e:∀j,j<xs.length→nth xs j=nth ys j):xs=ys:=by
 apply List.ext_getElem h
 intro i h1 h2
 have:=e i h1
 rwa [nth_eq h1,nth_eq h2] at this
structure RdI (w:World) (a:Option Addr) (n:Nat) (xs:List Int):Prop where
 len:xs.length=n
 wf:∀x∈xs,-9223372036854775808≤x∧x≤9223372036854775807
 cells:0<n→∃b o,a=some ⟨b,o,none⟩∧b<w.heap.size∧∀j,j<n→w.cell? ⟨b,o+j,none⟩=some (.int .i64 (nth xs j))
theorem RdI.nil (w:World) (a:Option Addr):RdI w a 0 []:=⟨rfl,by simp,by omega⟩
theorem RdI.below {w w':World} {a:Option Addr} {n B:Nat} {xs:List Int} (h:RdI w a n xs) (hb:Below B w w') (hB:w.heap.size≤B):RdI w' a n xs:=by
 refine⟨h.len,h.wf,fun hn=>?_⟩
 obtain ⟨b,o,ha,hlt,hc⟩:=h.cells hn
 exact⟨b,o,ha,Nat.lt_of_lt_of_le hlt hb.size,fun j hj=>by rw [hb.cell (p:=⟨b,o+j,none⟩) (Nat.lt_of_lt_of_le hlt hB)];exact hc j hj⟩
theorem RdI.drew {w:World} {a:Option Addr} {n:Nat} {xs:List Int} (h:RdI w a n xs):RdI w.drew a n xs:=⟨h.len,h.wf,h.cells⟩
theorem RdI.at {w:World} {a:Option Addr} {n:Nat} {xs:List Int} (h:RdI w a n xs) (k:Nat) (hk:k<n):∃b o,a=some ⟨b,o,none⟩∧w.cell? ⟨b,o+k,none⟩=some (.int .i64 (nth xs k)):=by
 obtain ⟨b,o,ha,_,hc⟩:=h.cells (by omega)
 exact⟨b,o,ha,hc k hk⟩
theorem RdI.own {w:World} {base n:Nat} {e:TypeId} {a:Option Addr} {m c:Nat} {xs:List Int} (h:w.ownsRow base e 1 (.slice a m c) n (xs.map (Value.int .i64))) (hwf:∀x∈xs,-9223372036854775808≤x∧x≤9223372036854775807):m=n∧RdI w a n xs∧(∀b,a=some b→base≤b.block∧b.block<w.heap.size):=by
 obtain ⟨hl,h2⟩:=h
 have hl':xs.length=n:=by simpa using hl
 rcases h2 with ⟨hv,rfl⟩ | ⟨g,cap,cur,hv,hg,hh,h1,h2,h3,h4⟩
 ·cases hv
  exact⟨rfl,⟨hl',hwf,by omega⟩,by simp⟩
 ·cases hv
  have hlt:=(Array.getElem?_eq_some_iff.1 hh).1
  refine⟨rfl,⟨hl',hwf,fun hn=>⟨g,0,rfl,hlt,fun j hj=>?_⟩⟩,by rintro b ⟨⟩;exact⟨hg,hlt⟩⟩
  have e1:(cur.toList.take (n * 1))[j]? = (xs.map (Value.int .i64))[j]?:=by rw [h4]
  rw [List.getElem?_take_of_lt (by omega)] at e1
  simp only [World.cell?,hh,Nat.zero_add,Option.isSome_none,Bool.false_eq_true,if_false]
  rw [←Array.getElem?_toList,e1]
  simp [nth,List.getD,show j<xs.length by omega]
theorem RdI.lit (xs:List Int) (e:TypeId) (w:World) (hwf:∀x∈xs,-9223372036854775808≤x∧x≤9223372036854775807):RdI (w.alloc (.cells (xs.map (Value.int .i64)).toArray e)) (some ⟨w.heap.size,0,none⟩) xs.length xs:=by
 refine⟨rfl,hwf,fun _=>⟨w.heap.size,0,rfl,by simp,fun j hj=>?_⟩⟩
 simp [World.cell?_alloc_new,nth,List.getD,hj]
theorem wp_tail {P:Program} {id:Nat} {Q:Exit→Act→World→Prop} {a:Act} {w:World} {l:List Oper} (n:Nat) (hm:P.follows .mixedOrders=true) (hB:Region.lexTailB .any l.toArray n=true)
  (h:∀W,W=w.drew→wpStill P l.toArray W (fun a'=>wpList P l.toArray Q (l.drop n) a' W) (l.take n) a):(Code.region id l.toArray true).wp P Q a w:=
 wp_region_still_tail n hm hB (h _ rfl)
end Go.Proofs.YtgoojkiccdjplaaGreatDoor
namespace Go.Proofs.YtgoojkiccdjplaaGreatDoor
open Go.RowKit Go.ChangeShapes Go.WideShapes
open Go.Deep (open_bools)
variable {H : Type} {enc : TypeId × Value → H} {P : Program} {w : World}
theorem addr_at {w:World} {x:Addr} {n:Nat} {f:Nat→Value} (hn:0<n) (h:∀i,i<n→w.cell? (x.add i)=some (f i)):∃b o,x=⟨b,o,none⟩∧b<w.heap.size∧∀j,j<n→w.cell? ⟨b,o+j,none⟩=some (f j):=by
 obtain ⟨b,o,sp⟩:=x
 have hc:=h 0 hn
 have hs:sp=none:=by simpa [Addr.add] using World.cell?_spot hc
 subst hs
 refine⟨b,o,rfl,World.block_lt_of_cell? w _ hc,fun j hj=>by rw [←Addr.add_lit b o j];exact h j hj⟩
theorem opened_ints {t e:TypeId} {a:Option Addr} {len cap:Nat} {d:DataW H} {p:List MemPlace} (ht:P.underlying t=some (.slice e)) (he:P.underlying e=some (.int .i64)) (hc:P.cellsOf e=1)
  (h:DataW.Trod enc P w 0 (fun _=>true) true t (.slice a len cap) d p):∃xs,RdI w a len xs∧(len≤cap∧cap≤9223372036854775807):=by
 obtain ⟨fuel,hf⟩:=h
 rcases open_ints ht he hc hf with ⟨hcs,_⟩ | ⟨x,l,c,zs,hcs,_,hl,hm,hz,_,hcell,hwz⟩
 ·simp [Value.cells] at hcs
  obtain ⟨rfl,rfl,rfl⟩:=hcs
  exact⟨[],RdI.nil _ _,by omega⟩
 ·simp [Value.cells] at hcs
  obtain ⟨rfl,rfl,rfl⟩:=hcs
  simp only [if_true] at hz
  unfold maxLen at hm
  refine⟨zs.take len,⟨by simp;omega,fun y hy=>bounds_i64 (hwz y (List.mem_of_mem_take hy)),fun hn=>?_⟩,by omega⟩
  obtain ⟨b,o,hx,hb,hcc⟩:=addr_at (n:=len) (f:=fun j=>.int .i64 (zs.getD j 0)) hn (fun i hi=>hcell i (by omega))
  refine⟨b,o,by rw [hx],hb,fun j hj=>?_⟩
  rw [hcc j hj]
  simp [nth,List.getD,hj]
end Go.Proofs.YtgoojkiccdjplaaGreatDoor
namespace Go.Proofs.YtgoojkiccdjplaaGreatDoor
open Go.RowKit Go.Lib
def OwnC (w : World) (base : Nat) (e : TypeId) (size : Nat) (v : Value) (n : Nat) (xs : List Value) : Prop :=
  xs.length = n * size ∧
  ((v = .slice none 0 0 ∧ n = 0) ∨
   ∃ g cap cur, v = .slice (some ⟨g, 0, none⟩) n cap ∧ base ≤ g ∧ w.heap[g]? = some (.cells cur e (0, 0)) ∧ n ≤ cap ∧ cap ≤ maxLen ∧ cap * size ≤ cur.size ∧ cur.toList.take (n * size) = xs)
section
variable {w w' : World} {base : Nat} {e : TypeId} {size n : Nat} {v : Value} {xs : List Value}
theorem OwnC.of (h:w.ownsRow base e size v n xs):OwnC w base e size v n xs:=by
 refine⟨h.1,?_⟩
 rcases h.2 with hn | ⟨g,cap,cur,h1,h2,h3,h4,h5,h6,h7⟩
 ·exact .inl hn
 ·exact .inr ⟨g,cap,cur,h1,h2,h3,h4,h5,Nat.le_of_eq h6.symm,h7⟩
theorem OwnC.nil (w:World) (base:Nat) (e:TypeId) (size:Nat):OwnC w base e size (.slice none 0 0) 0 []:=⟨by simp,.inl ⟨rfl,rfl⟩⟩
theorem OwnC.slice (h:OwnC w base e size v n xs):∃a c,v = .slice a n c∧n≤c∧c≤maxLen:=by
 rcases h.2 with ⟨rfl,rfl⟩ | ⟨g,cap,cur,rfl,_,_,h1,h2,_⟩
 ·exact⟨none,0,rfl,Nat.le_refl _,Nat.zero_le _⟩
 ·exact⟨_,cap,rfl,h1,h2⟩
theorem OwnC.lt (h:OwnC w base e size v n xs):∀k,v.ownBlock=some k→base≤k∧k<w.heap.size:=by
 intro k hk
 rcases h.2 with ⟨rfl,_⟩ | ⟨g,cap,cur,rfl,hb,hg,_⟩
 ·simp [Value.ownBlock] at hk
 ·simp [Value.ownBlock] at hk
  subst hk
  exact⟨hb,(Array.getElem?_eq_some_iff.1 hg).1⟩
theorem OwnC.ty (h:OwnC w base e size v n xs):∀k,v.ownBlock=some k→∃cs f,w.heap[k]? = some (.cells cs e f):=by
 intro k hk
 rcases h.2 with ⟨rfl,_⟩ | ⟨g,cap,cur,rfl,hb,hg,_⟩
 ·simp [Value.ownBlock] at hk
 ·simp [Value.ownBlock] at hk
  subst hk
  exact⟨_,_,hg⟩
theorem OwnC.same (h:OwnC w base e size v n xs) (hb:∀k,v.ownBlock=some k→w'.heap[k]? = w.heap[k]?):OwnC w' base e size v n xs:=by
 refine⟨h.1,?_⟩
 rcases h.2 with hn | ⟨g,cap,cur,rfl,h1,h2,h3⟩
 ·exact .inl hn
 ·exact .inr ⟨g,cap,cur,rfl,h1,by rw [hb g rfl];exact h2,h3⟩
theorem OwnC.alloc (h:OwnC w base e size v n xs) (o:Obj):OwnC (w.alloc o) base e size v n xs:=h.same fun k hk=>Below.heap_alloc w o k (h.lt k hk).2
theorem OwnC.cells (h:OwnC w base e size v n xs) {g:Nat} (hg:v.ownBlock=some g):∀j u,xs[j]? = some u→w.cell? ⟨g,j,none⟩=some u:=by
 intro j u hu
 rcases h.2 with ⟨rfl,_⟩ | ⟨g',cap,cur,rfl,_,hgg,_,_,_,htake⟩
 ·simp [Value.ownBlock] at hg
 ·simp [Value.ownBlock] at hg
  subst hg
  have hj:j<xs.length:=(List.getElem?_eq_some_iff.1 hu).1
  rw [←htake] at hu
  rw [List.getElem?_take_of_lt (by have:=h.1;omega)] at hu
  simp only [World.cell?,hgg,Option.isSome_none,Bool.false_eq_true,if_false]
  rw [←Array.getElem?_toList];exact hu
theorem OwnC.form (h:OwnC w base e size v n xs) (hn:0<n):∃g cap,v = .slice (some ⟨g,0,none⟩) n cap∧base≤g∧g<w.heap.size:=by
 rcases h.2 with ⟨_,h0⟩ | ⟨g,cap,cur,hv,hb,hg,_⟩
 ·omega
 ·exact⟨g,cap,hv,hb,(Array.getElem?_eq_some_iff.1 hg).1⟩
def Src (w:World) (size:Nat) (A:Option Addr) (m:Nat) (news:List Value):Prop:=
 news.length=m * size∧(0<m→∃ad,A=some ad∧∀j u,news[j]? = some u→w.cell? (ad.add j)=some u)
theorem Src.nothing {size:Nat} {A:Option Addr}:Src w size A 0 []:=⟨by simp,fun h=>absurd h (by omega)⟩
theorem Src.one {size b:Nat} {news:List Value} (hl:news.length=size) (h:∀j u,news[j]? = some u→w.cell? ⟨b,j,none⟩=some u):Src w size (some ⟨b,0,none⟩) 1 news:=
 ⟨by omega,fun _=>⟨_,rfl,fun j u hu=>by rw [Addr.add_lit,Nat.zero_add];exact h j u hu⟩⟩
variable {P : Program}
theorem run_append_C (t ty:TypeId) (i:TypeInfo) (z:Value) (bytes:Nat) (ht:P.underlying t=some (.slice e)) (hi:P.info? e=some i) (hz:i.zero=some z)
  (hsize:i.size=size) (hby:i.bytes=bytes) (hzs:z.cells.size=size) (hsz:0<size) (hown:OwnC w base e size v n xs)
  (A:Option Addr) (m c:Nat) (news:List Value) (hs:Src w size A m news) (h1:∀u∈news,u.oneCell'=true) (h63:n+m≤maxLen) (hbytes:(n+m) * bytes≤140737488355328) (hbase:base≤w.heap.size) :
  ∃v' w',(Builtin.append_ #[t,t] ty #[v,.slice A m c]).run P w = .ok v' w'∧OwnC w' base e size v' (n+m) (xs++news)∧w.grownBy w' v.ownBlock∧(v'.ownBlock=v.ownBlock∨∀k,v'.ownBlock=some k→w.heap.size≤k):=by
 rcases Nat.eq_zero_or_pos m with rfl | hm
 ·have hn:news = []:=List.eq_nil_of_length_eq_zero (by simpa using hs.1)
  subst hn
  refine⟨v,w,?_,by simpa using hown,⟨rfl,rfl,rfl,Nat.le_refl _,fun _ _ _=>rfl⟩,.inl rfl⟩
  rcases hown.2 with ⟨rfl,rfl⟩ | ⟨g,cap,cur,rfl,_,_,hnc,_⟩
  ·cases A <;> simp [Builtin.append_,run_underlying ht,sizeOf,typeInfo,hi,Builtin.lenOf,Builtin.firstCells,loadCells,loadCellsFrom]
  ·cases A <;> simp [Builtin.append_,run_underlying ht,sizeOf,typeInfo,hi,Builtin.lenOf,Builtin.firstCells,loadCells,loadCellsFrom,hnc,storeCells]
 obtain ⟨ad,rfl,hnews⟩:=hs.2 hm
 have hl:=hs.1
 rcases hown.2 with ⟨rfl,rfl⟩ | ⟨g,cap,cur,rfl,hbg,hg,hnc,hcm,hcs,htake⟩
 ·have hx:xs = []:=List.eq_nil_of_length_eq_zero (by simpa using hown.1)
  subst hx
  obtain ⟨v',w',hr,h2,h3,h4⟩:=run_append_own_at (P:=P) w base t ty e i z size bytes ht hi hz hsize hby hzs hsz _ 0 [] (World.ownsRow_nil w base e size) ad m c news hl hnews h1 h63 hbytes hbase
  refine⟨v',w',hr,.of h2,h3,?_⟩
  rcases h4.2 with h5 | h5
  ·exact .inl h5
  ·exact .inr fun k hk=>by rw [h5] at hk;injection hk with hk;omega
 ·subst hsize
  by_cases hroom:n+m≤cap
  ·have hfit:n * i.size+news.length≤cur.size:=by rw [hl,←Nat.add_mul];exact Nat.le_trans (Nat.mul_le_mul_right _ hroom) hcs
   have hr:=run_append_room (P:=P) w t ty e i ht hi g n cap cur hg ad m c news hl hnews h1 hroom hfit
   have hlen:(xs++news).length=(n+m) * i.size:=by rw [List.length_append,hown.1,hl,Nat.add_mul]
   refine⟨_,_,hr,⟨hlen,.inr ⟨g,cap,_,rfl,hbg,setRow_heap w g cur _ e _ hg,hroom,hcm,?_,?_⟩⟩,⟨rfl,rfl,rfl,by simp,fun k _ hk=>setRow_other w g k _ (fun e=>hk (by simp [Value.ownBlock,e]))⟩,.inl rfl⟩
   ·simp only [List.size_toArray,List.length_append,List.length_take,List.length_drop,Array.length_toList]
    omega
   ·rw [htake,←hlen]
    exact List.take_left
  ·obtain ⟨v',w',hr,h2,h3⟩:=run_append_arg_grows (P:=P) w t ty e i z i.size bytes ht hi hz rfl hby hzs hsz ⟨g,0,none⟩ n cap xs hown.1 (fun j u hu=>by rw [Addr.add_lit,Nat.zero_add];exact hown.cells (g:=g) rfl j u hu) ad m c news hl hnews (by omega) h63 hbytes
   have h4:=OwnC.of h2
   refine⟨v',w',hr,⟨h4.1,?_⟩,⟨h3.os,h3.tape,h3.output,h3.size,fun k hk _=>h3.block k hk (by simp)⟩,.inr fun k hk=>(h4.lt k hk).1⟩
   rcases h4.2 with hn | ⟨g',cap',cur',q1,q2,q3⟩
   ·exact .inl hn
   ·exact .inr ⟨g',cap',cur',q1,Nat.le_trans hbase q2,q3⟩
variable {t : TypeId} {i : TypeInfo} {z : Value} {bytes m c : Nat} {A : Option Addr} {news : List Value} {ops : Array Oper} {o : Oper} {a : Act} {Q : Exit → Act → World → Prop}
theorem wp_append_C {K:Act→World→Prop} (s x:Operand) (ho:o.op = .call { callee:=.builtin .append,args:=#[s,x],argTypes:=#[t,t] })
  (ht:P.underlying t=some (.slice e)) (hi:P.info? e=some i) (hz:i.zero=some z) (hsize:i.size=size) (hby:i.bytes=bytes) (hzs:z.cells.size=size) (hsz:0<size)
  (hs:a.eval s=v) (hx:a.eval x = .slice A m c) (hown:OwnC w base e size v n xs) (hr:Src w size A m news) (h1:∀u∈news,u.oneCell'=true) (h63:n+m≤maxLen) (hbytes:(n+m) * bytes≤140737488355328) (hbase:base≤w.heap.size)
  (h:∀v' w',OwnC w' base e size v' (n+m) (xs++news)→w.grownBy w' v.ownBlock→(v'.ownBlock=v.ownBlock∨∀k,v'.ownBlock=some k→w.heap.size≤k)→K (a.put o.dst v') w'):o.wp P a w K Q:=by
 obtain ⟨v',w',hrun,h2,h3,h4⟩:=run_append_C (P:=P) t o.type i z bytes ht hi hz hsize hby hzs hsz hown A m c news hr h1 h63 hbytes hbase
 unfold Oper.wp execOp
 simp only [ho,resolve,invoke,builtin,Sem.run_bind,Sem.run_pure,Result.andThen_ok,List.map_toArray,List.map_cons,List.map_nil,hs,hx,hrun]
 exact h v' w' h2 h3 h4
theorem wpList_append_C {rest:List Oper} (hgd:o.guard=none) (s x:Operand) (ho:o.op = .call { callee:=.builtin .append,args:=#[s,x],argTypes:=#[t,t] })
  (ht:P.underlying t=some (.slice e)) (hi:P.info? e=some i) (hz:i.zero=some z) (hsize:i.size=size) (hby:i.bytes=bytes) (hzs:z.cells.size=size) (hsz:0<size)
  (hs:a.eval s=v) (hx:a.eval x = .slice A m c) (hown:OwnC w base e size v n xs) (hr:Src w size A m news) (h1:∀u∈news,u.oneCell'=true) (h63:n+m≤maxLen) (hbytes:(n+m) * bytes≤140737488355328) (hbase:base≤w.heap.size)
  (h:∀v' w',OwnC w' base e size v' (n+m) (xs++news)→w.grownBy w' v.ownBlock→(v'.ownBlock=v.ownBlock∨∀k,v'.ownBlock=some k→w.heap.size≤k)→wpList P ops Q rest (a.put o.dst v') w'):wpList P ops Q (o :: rest) a w:=
 wpList_plain hgd fun _ hK=>wp_append_C s x ho ht hi hz hsize hby hzs hsz hs hx hown hr h1 h63 hbytes hbase fun v' w' h2 h3 h4=>hK _ _ (h v' w' h2 h3 h4)
theorem step_append_C {K:Act→World→Prop} {E:Prop} (hgd:o.guard=none) (s x:Operand) (ho:o.op = .call { callee:=.builtin .append,args:=#[s,x],argTypes:=#[t,t] })
  (ht:P.underlying t=some (.slice e)) (hi:P.info? e=some i) (hz:i.zero=some z) (hsize:i.size=size) (hby:i.bytes=bytes) (hzs:z.cells.size=size) (hsz:0<size)
  (hs:a.eval s=v) (hx:a.eval x = .slice A m c) (hown:OwnC w base e size v n xs) (hr:Src w size A m news) (h1:∀u∈news,u.oneCell'=true) (h63:n+m≤maxLen) (hbytes:(n+m) * bytes≤140737488355328) (hbase:base≤w.heap.size)
  (h:∀v' w',OwnC w' base e size v' (n+m) (xs++news)→w.grownBy w' v.ownBlock→(v'.ownBlock=v.ownBlock∨∀k,v'.ownBlock=some k→w.heap.size≤k)→K (a.put o.dst v') w'):if Region.wanted o (yielded ops a.tmps)=true then Oper.wp P o a w K Q else E:=by
 have hw:Region.wanted o (yielded ops a.tmps)=true:=by simp [Region.wanted,hgd]
 rw [if_pos hw]
 exact wp_append_C s x ho ht hi hz hsize hby hzs hsz hs hx hown hr h1 h63 hbytes hbase h
end
def ownOf (w:World) (p k:Nat):Prop:=k=p∨∃cs t f,w.heap[p]? = some (.cells cs t f)∧∃v∈cs,v.ownBlock=some k
structure PStep (p:Nat) (w w':World):Prop where
 os:w'.os=w.os
 tape:w'.tape=w.tape
 output:w'.output=w.output
 size:w.heap.size≤w'.heap.size
 block:∀k,k<w.heap.size→¬ownOf w p k→w'.heap[k]? = w.heap[k]? ∧ ¬ownOf w' p k
section
variable {p q : Nat} {w w' w'' : World}
theorem ownOf.same (h:w'.heap[p]? = w.heap[p]?) {k:Nat}:ownOf w' p k↔ownOf w p k:=by unfold ownOf;rw [h]
theorem PStep.trans (h:PStep p w w') (k:PStep p w' w''):PStep p w w'':=
 ⟨k.os.trans h.os,k.tape.trans h.tape,k.output.trans h.output,Nat.le_trans h.size k.size,fun i hi hn=>by
  obtain ⟨e1,n1⟩:=h.block i hi hn
  obtain ⟨e2,n2⟩:=k.block i (Nat.lt_of_lt_of_le hi h.size) n1
  exact⟨e2.trans e1,n2⟩⟩
theorem PStep.of_below (hp:p<w.heap.size) (h:Below w.heap.size w w'):PStep p w w':=
 ⟨h.os,h.tape,h.output,h.size,fun k hk hn=>⟨h.block k hk,fun e=>hn ((ownOf.same (h.block p hp)).1 e)⟩⟩
theorem PStep.below {B:Nat} (h:PStep p w w') (hB:B≤w.heap.size) (ho:∀k,ownOf w p k→B≤k):Below B w w':=
 ⟨h.os,h.tape,h.output,h.size,fun k hk=>(h.block k (by omega) (fun e=>by have:=ho k e;omega)).1⟩
def Apart (w:World) (p q:Nat):Prop:=∀k,ownOf w q k→k<w.heap.size∧¬ownOf w p k
theorem Apart.keep (h:Apart w p q) (hs:PStep p w w'):(∀k,ownOf w q k→w'.heap[k]? = w.heap[k]?)∧Apart w' p q:=by
 have h1:∀k,ownOf w q k→w'.heap[k]? = w.heap[k]?:=fun k hk=>(hs.block k (h k hk).1 (h k hk).2).1
 have hq:=h1 q (.inl rfl)
 exact⟨h1,fun k hk=>by
  have hk':=(ownOf.same hq).1 hk
  exact⟨Nat.lt_of_lt_of_le (h k hk').1 hs.size,(hs.block k (h k hk').1 (h k hk').2).2⟩⟩
end
structure Rep (α:Type) where
 k:Nat
 rd:(Nat→Prop)→World→α→List Value→Prop
 len:∀ {S w x cs},rd S w x cs→cs.length=k
 one:∀ {S w x cs},rd S w x cs→∀u∈cs,u.oneCell'=true
 keep:∀ {S w w' x cs},rd S w x cs→(∀b,b<w.heap.size→S b→w'.heap[b]? = w.heap[b]?)→w.heap.size≤w'.heap.size→rd S w' x cs
 mono:∀ {S S':Nat→Prop} {w x cs},rd S w x cs→(∀b,b<w.heap.size→S b→S' b)→rd S' w x cs
def Rep.int:Rep Int where
 k:=1
 rd _ _ x cs:=cs = [.int .i64 x] ∧ -9223372036854775808≤x∧x≤9223372036854775807
 len h:=by rw [h.1];rfl
 one h:=by rw [h.1];intro u hu;simp at hu;subst hu;rfl
 keep h _ _:=h
 mono h _:=h
def Rep.bool:Rep Bool where
 k:=1
 rd _ _ x cs:=cs = [.bool x]
 len h:=by rw [h];rfl
 one h:=by rw [h];intro u hu;simp at hu;subst hu;rfl
 keep h _ _:=h
 mono h _:=h
def Rep.str:Rep ByteArray where
 k:=1
 rd _ _ x cs:=cs = [.string x]
 len h:=by rw [h];rfl
 one h:=by rw [h];intro u hu;simp at hu;subst hu;rfl
 keep h _ _:=h
 mono h _:=h
variable {α β : Type}
def Rep.prod (R:Rep α) (T:Rep β):Rep (α × β) where
 k:=R.k+T.k
 rd S w x cs:=∃c d,cs=c++d∧R.rd S w x.1 c∧T.rd S w x.2 d
 len h:=by obtain ⟨c,d,rfl,h1,h2⟩:=h;rw [List.length_append,R.len h1,T.len h2]
 one h:=by
  obtain ⟨c,d,rfl,h1,h2⟩:=h
  intro u hu
  rcases List.mem_append.1 hu with hu | hu
  ·exact R.one h1 u hu
  ·exact T.one h2 u hu
 keep h hk hs:=by obtain ⟨c,d,rfl,h1,h2⟩:=h;exact⟨c,d,rfl,R.keep h1 hk hs,T.keep h2 hk hs⟩
 mono h hk:=by obtain ⟨c,d,rfl,h1,h2⟩:=h;exact⟨c,d,rfl,R.mono h1 hk,T.mono h2 hk⟩
def Rep.map (f:β→α) (R:Rep α):Rep β where
 k:=R.k
 rd S w x cs:=R.rd S w (f x) cs
 len h:=R.len h
 one h:=R.one h
 keep h:=R.keep h
 mono h:=R.mono h
def SlR (R:Rep α) (S:Nat→Prop) (w:World) (a:Option Addr) (n:Nat) (xs:List α):Prop:=
 xs.length=n∧(0<n→∃b o,a=some ⟨b,o,none⟩∧b<w.heap.size∧S b∧∀j x,xs[j]? = some x→∃cs,R.rd S w x cs∧∀i u,cs[i]? = some u→w.cell? ⟨b,o+j * R.k+i,none⟩=some u)
section
variable {R : Rep α} {S S' : Nat → Prop} {w w' : World} {a : Option Addr} {n : Nat} {xs : List α}
theorem SlR.nil (R:Rep α) (S:Nat→Prop) (w:World) (a:Option Addr):SlR R S w a 0 []:=⟨rfl,fun h=>absurd h (by omega)⟩
theorem SlR.keep (h:SlR R S w a n xs) (hk:∀b,b<w.heap.size→S b→w'.heap[b]? = w.heap[b]?) (hs:w.heap.size≤w'.heap.size):SlR R S w' a n xs:=
 ⟨h.1,fun hn=>by
  obtain ⟨b,o,ha,hlt,hS,hc⟩:=h.2 hn
  refine⟨b,o,ha,Nat.lt_of_lt_of_le hlt hs,hS,fun j x hx=>?_⟩
  obtain ⟨cs,h1,h2⟩:=hc j x hx
  exact⟨cs,R.keep h1 hk hs,fun i u hu=>by rw [World.cell?_of_block (w:=w) (a:=⟨b,o+j * R.k+i,none⟩) (hk b hlt hS)];exact h2 i u hu⟩⟩
theorem SlR.mono (h:SlR R S w a n xs) (hk:∀b,b<w.heap.size→S b→S' b):SlR R S' w a n xs:=
 ⟨h.1,fun hn=>by
  obtain ⟨b,o,ha,hlt,hS,hc⟩:=h.2 hn
  refine⟨b,o,ha,hlt,hk b hlt hS,fun j x hx=>?_⟩
  obtain ⟨cs,h1,h2⟩:=hc j x hx
  exact⟨cs,R.mono h1 hk,h2⟩⟩
theorem SlR.below {B:Nat} (h:SlR R S w a n xs) (hb:Below B w w') (hB:w.heap.size≤B):SlR R S w' a n xs:=h.keep (fun b hlt _=>hb.block b (Nat.lt_of_lt_of_le hlt hB)) hb.size
theorem SlR.at (h:SlR R S w a n xs) {j:Nat} {x:α} (hx:xs[j]? = some x):∃b o cs,a=some ⟨b,o,none⟩∧S b∧R.rd S w x cs∧∀i u,cs[i]? = some u→w.cell? ⟨b,o+j * R.k+i,none⟩=some u:=by
 have hj:j<xs.length:=(List.getElem?_eq_some_iff.1 hx).1
 obtain ⟨b,o,ha,_,hS,hc⟩:=h.2 (by have:=h.1;omega)
 obtain ⟨cs,h1,h2⟩:=hc j x hx
 exact⟨b,o,cs,ha,hS,h1,h2⟩
end
def Rep.slice (R:Rep α):Rep (List α) where
 k:=1
 rd S w xs cs:=∃a n c,cs = [.slice a n c]∧n≤c∧c≤maxLen∧SlR R S w a n xs
 len h:=by obtain ⟨a,n,c,rfl,_⟩:=h;rfl
 one h:=by obtain ⟨a,n,c,rfl,_⟩:=h;intro u hu;simp at hu;subst hu;rfl
 keep h hk hs:=by obtain ⟨a,n,c,rfl,h1,h2,h3⟩:=h;exact⟨a,n,c,rfl,h1,h2,h3.keep hk hs⟩
 mono h hk:=by obtain ⟨a,n,c,rfl,h1,h2,h3⟩:=h;exact⟨a,n,c,rfl,h1,h2,h3.mono hk⟩
theorem SlR.toI {S:Nat→Prop} {w:World} {a:Option Addr} {n:Nat} {xs:List Int} (h:SlR Rep.int S w a n xs):RdI w a n xs:=by
 refine⟨h.1,fun x hx=>?_,fun hn=>?_⟩
 ·obtain ⟨j,hj,rfl⟩:=List.getElem_of_mem hx
  obtain ⟨b,o,cs,_,_,h1,_⟩:=h.at (List.getElem?_eq_getElem hj)
  exact h1.2
 ·obtain ⟨b,o,ha,hlt,hS,hc⟩:=h.2 hn
  refine⟨b,o,ha,hlt,fun j hj=>?_⟩
  have hjx:j<xs.length:=by have:=h.1;omega
  obtain ⟨cs,h1,h2⟩:=hc j _ (List.getElem?_eq_getElem hjx)
  have h3:=h2 0 (.int .i64 xs[j]) (by rw [h1.1];rfl)
  rw [nth_eq hjx]
  simpa [Rep.int] using h3
theorem SlR.ofI {S : Nat → Prop} {w : World} {a : Option Addr} {n : Nat} {xs : List Int} (h : RdI w a n xs) (hS : ∀ x, 0 < n → a = some x → S x.block) : SlR Rep.int S w a n xs := by
  refine ⟨h.len, fun hn => ?_⟩
  obtain ⟨b, o, ha, hlt, hc⟩ := h.cells hn
  refine ⟨b, o, ha, hlt, hS _ hn ha, fun j x hx => ?_⟩
  have hj : j < xs.length := (List.getElem?_eq_some_iff.1 hx).1
  refine ⟨[.int .i64 x], ⟨rfl, h.wf x (List.mem_of_getElem? hx)⟩, fun i u hu => ?_⟩
  match i with
  | 0 =>
    simp at hu
    subst hu
    have := hc j (by have := h.len; omega)
    rw [nth_eq hj] at this
    simp [Rep.int]
    rw [this]
    congr 1
    congr 1
    have := List.getElem?_eq_getElem hj
    rw [hx] at this
    injection this with this
    exact this.symm
  | i + 1 => simp at hu
def OwnR (R:Rep α) (S:Nat→Prop) (w:World) (base:Nat) (e:TypeId) (v:Value) (xs:List α):Prop:=
 ∃css:List (List Value),OwnC w base e R.k v xs.length css.flatten∧css.length=xs.length∧∀(j:Nat) (x:α),xs[j]? = some x→∃cs,css[j]? = some cs∧R.rd S w x cs
theorem flat_at {k : Nat} : ∀ {css : List (List Value)} (_ : ∀ cs ∈ css, cs.length = k) {j : Nat} {cs : List Value} (_ : css[j]? = some cs) {i : Nat} {u : Value} (_ : cs[i]? = some u), css.flatten[j * k + i]? = some u
  | c :: css, hl, 0, cs, h, i, u, hu => by
    simp at h
    subst h
    rw [List.flatten_cons, Nat.zero_mul, Nat.zero_add, List.getElem?_append_left (List.getElem?_eq_some_iff.1 hu).1]
    exact hu
  | c :: css, hl, j + 1, cs, h, i, u, hu => by
    have hc := hl c (by simp)
    rw [List.flatten_cons, List.getElem?_append_right (by rw [hc, Nat.succ_mul]; omega), hc, show (j + 1) * k + i - k = j * k + i by rw [Nat.succ_mul]; omega]
    exact flat_at (fun cs h => hl cs (by simp [h])) (by simpa using h) hu
section
variable {R : Rep α} {S S' : Nat → Prop} {w w' : World} {base : Nat} {e : TypeId} {v v' : Value} {xs : List α}
theorem OwnR.nil (R:Rep α) (S:Nat→Prop) (w:World) (base:Nat) (e:TypeId):OwnR R S w base e (.slice none 0 0) []:=⟨[],OwnC.nil _ _ _ _,rfl,fun j x h=>by simp at h⟩
theorem OwnR.keep (h:OwnR R S w base e v xs) (hk:∀b,b<w.heap.size→S b→w'.heap[b]? = w.heap[b]?) (hv:∀k,v.ownBlock=some k→w'.heap[k]? = w.heap[k]?) (hs:w.heap.size≤w'.heap.size):OwnR R S w' base e v xs:=by
 obtain ⟨css,h1,h2,h3⟩:=h
 refine⟨css,h1.same hv,h2,fun j x hx=>?_⟩
 obtain ⟨cs,h4,h5⟩:=h3 j x hx
 exact⟨cs,h4,R.keep h5 hk hs⟩
theorem OwnR.below {B:Nat} (h:OwnR R S w base e v xs) (hb:Below B w w') (hB:w.heap.size≤B):OwnR R S w' base e v xs:=
 h.keep (fun b hlt _=>hb.block b (Nat.lt_of_lt_of_le hlt hB)) (fun k hk=>by obtain ⟨css,h1,_⟩:=h;exact hb.block k (Nat.lt_of_lt_of_le (h1.lt k hk).2 hB)) hb.size
theorem OwnR.mono (h:OwnR R S w base e v xs) (hk:∀b,b<w.heap.size→S b→S' b):OwnR R S' w base e v xs:=by
 obtain ⟨css,h1,h2,h3⟩:=h
 refine⟨css,h1,h2,fun j x hx=>?_⟩
 obtain ⟨cs,h4,h5⟩:=h3 j x hx
 exact⟨cs,h4,R.mono h5 hk⟩
theorem OwnR.lens {css:List (List Value)} (h2:css.length=xs.length) (h3:∀(j:Nat) (x:α),xs[j]? = some x→∃cs,css[j]? = some cs∧R.rd S w x cs):∀cs∈css,cs.length=R.k:=fun cs hc=>by
 obtain ⟨j,hj,rfl⟩:=List.getElem_of_mem hc
 obtain ⟨cs,h4,h5⟩:=h3 j _ (List.getElem?_eq_getElem (by omega:j<xs.length))
 rw [List.getElem?_eq_getElem hj] at h4
 injection h4 with h4
 rw [h4];exact R.len h5
theorem OwnR.slice (h:OwnR R S w base e v xs):∃a c,v = .slice a xs.length c∧xs.length≤c∧c≤maxLen:=by obtain ⟨css,h1,_⟩:=h;exact h1.slice
theorem OwnR.lt (h:OwnR R S w base e v xs):∀k,v.ownBlock=some k→base≤k∧k<w.heap.size:=by obtain ⟨css,h1,_⟩:=h;exact h1.lt
theorem OwnR.ty (h:OwnR R S w base e v xs):∀k,v.ownBlock=some k→∃cs f,w.heap[k]? = some (.cells cs e f):=by obtain ⟨css,h1,_⟩:=h;exact h1.ty
theorem OwnR.read {a:Option Addr} {n c:Nat} (h:OwnR R S w base e (.slice a n c) xs) (hS:∀b,b<w.heap.size→S b→S' b) (ho:∀b,Value.ownBlock (.slice a n c)=some b→S' b):SlR R S' w a n xs:=by
 obtain ⟨css,h1,h2,h3⟩:=h
 obtain ⟨a',c',hv,_⟩:=h1.slice
 cases hv
 refine⟨rfl,fun hn=>?_⟩
 obtain ⟨g,cap,hv,_,hlt⟩:=h1.form hn
 cases hv
 refine⟨g,0,rfl,hlt,ho g rfl,fun j x hx=>?_⟩
 obtain ⟨cs,h4,h5⟩:=h3 j x hx
 refine⟨cs,R.mono h5 hS,fun i u hu=>?_⟩
 rw [Nat.zero_add]
 exact h1.cells (g:=g) rfl _ u (flat_at (OwnR.lens h2 h3) h4 hu)
theorem OwnR.push {x:α} {cs:List Value} {css:List (List Value)} (h2:css.length=xs.length) (h3:∀(j:Nat) (x:α),xs[j]? = some x→∃cs,css[j]? = some cs∧R.rd S w x cs) (hx:R.rd S w x cs)
  (ho:OwnC w' base e R.k v' (xs.length+1) (css.flatten++cs)) (hk:∀b,b<w.heap.size→S b→w'.heap[b]? = w.heap[b]?) (hs:w.heap.size≤w'.heap.size):OwnR R S w' base e v' (xs ++ [x]):=by
 refine⟨css ++ [cs],by simpa using ho,by simp [h2],fun j y hy=>?_⟩
 by_cases hj:j<xs.length
 ·rw [List.getElem?_append_left hj] at hy
  obtain ⟨ds,h4,h5⟩:=h3 j y hy
  exact⟨ds,by rw [List.getElem?_append_left (by omega)];exact h4,R.keep h5 hk hs⟩
 ·have hl:=(List.getElem?_eq_some_iff.1 hy).1
  rw [List.length_append,List.length_singleton] at hl
  obtain rfl:j=xs.length:=by omega
  rw [List.getElem?_append_right (Nat.le_refl _)] at hy
  simp at hy
  subst hy
  exact⟨cs,by rw [←h2];simp,R.keep hx hk hs⟩
end
def Env (w:World):Prop:=Lib.TabIs Tryz.prog w "strings.asciiSpace" .u8 Lib.asciiSpaceTab
theorem env_glob:Tryz.prog.globalNamed "strings.asciiSpace" = some 0:=by kernel_rfl
theorem Env.same {w w':World} (h:Env w) (hb:w'.heap[0]? = w.heap[0]?):Env w':=by
 unfold Env Lib.TabIs World.var? at *
 rw [env_glob] at *
 simp only [Option.bind_some] at *
 rw [hb];exact h
theorem Env.pos {w:World} (h:Env w):0<w.heap.size:=by
 unfold Env Lib.TabIs World.var? at h
 rw [env_glob] at h
 simp only [Option.bind_some] at h
 rcases Nat.eq_zero_or_pos w.heap.size with h0 | h0
 ·rw [Array.getElem?_eq_none (by omega)] at h;cases h
 ·exact h0
theorem Env.below {B:Nat} {w w':World} (h:Env w) (hb:Below B w w') (hB:0<B):Env w':=h.same (hb.block 0 hB)
theorem Env.all {w w':World} (h:Env w) (hb:Below w.heap.size w w'):Env w':=h.below hb h.pos
theorem ret_bool {a b:Bool} (h:a=b):Ending.returned (.bool a) = .returned (.bool b):=by rw [h]
theorem ret_int {k:IntKind} {a b:Int} (h:a=b):Ending.returned (.int k a) = .returned (.int k b):=by rw [h]
def resText:List UInt8:=[116,114,117,101,32,102,97,108,115,101,32,110,111,116,32,97,110,100,32,111,114,32,61,62,32,120,111,114,32,61,32,100,105,115,116,105,110,99,116,32,105,116,101,32,108,101,116,32,43,32,45,32,42,32,47,32,60,61,32,60,32,62,61,32,62,32,66,111,111,108,32,82,101,97,108,32,95,32,33,32,97,115,32,101,120,105,115,116,115,32,102,111,114,97,108,108,32,112,97,114]
def resLists:List (List UInt8):=[[116,114,117,101],[102,97,108,115,101],[110,111,116],[97,110,100],[111,114],[61,62],[120,111,114],[61],[100,105,115,116,105,110,99,116],[105,116,101],[108,101,116],[43],[45],[42],[47],[60,61],[60],[62,61],[62],[66,111,111,108],[82,101,97,108],[95],[33],[97,115],[101,120,105,115,116,115],[102,111,114,97,108,108],[112,97,114]]
def resWords:List ByteArray:=resLists.map fun l=>⟨l.toArray⟩
theorem res_fields:Lib.fields resText=resLists:=by decide +kernel
theorem res_ascii:resText.all (fun b=>b.toNat<128)=true:=by decide +kernel
theorem fields_res (s:ByteArray) (w:World) (hE:Env w) (hs:s.data.toList=resText):Calls Tryz.prog 188 #[.string s] w fun e w'=>e = .returned (.slice (some ⟨w.heap.size,0,none⟩) 27 27)∧w'=w.alloc (.cells (resWords.map Value.string).toArray 9):=by
 have hsz:s.size<4294967281:=by
  have h1:s.size=s.data.toList.length:=by simp
  rw [h1,hs];decide
 refine(Tryz.strings_Fields_laid s w hsz (fun j b hb=>?_) hE).mono fun e w' ⟨h1,h2⟩=>?_
 ·rw [hs] at hb
  have:=List.all_eq_true.1 res_ascii b (List.mem_of_getElem? hb)
  simpa using this
 ·rw [hs,res_fields] at h1 h2
  refine⟨h1,h2.trans ?_⟩
  unfold resWords
  rw [List.map_map]
  rfl
def resB (s:ByteArray):Bool:=Lib.containsS resWords s
theorem reserved_any (s:ByteArray) (w:World) (hE:Env w):Calls Tryz.prog 153 #[.string s] w fun e w'=>e = .returned (.bool (resB s))∧Below w.heap.size w w':=by
 have hE':=hid hE
 have hl:resWords.length=27:=by decide
 have hl':=hid hl
 have hd:=@hid (resB s=Lib.containsS (resWords.take 27) s) (by unfold resB;rw [←hl,List.take_length])
 clear hE hl
 go_enter Tryz.func153,Tryz.ntmps153
 go_wp2_with fail
 refine(fields_res _ w hE'.out (by kernel_rfl)).mono ?_;rintro e w' ⟨rfl,rfl⟩
 go_wp2_with fail
 refine(Tryz.slices_Contains_string w.heap.size 0 27 27 resWords s _ (by rw [hl'.out];omega) (by omega) (fun j hj=>?_)).mono ?_
 ·rw [World.cell?_alloc_new]
  simp [List.getD,hj]
 rintro e w' ⟨rfl,rfl⟩
 rw [←hd.out]
 go_wp2
 go_ret
 exact⟨rfl,(Below.refl _ _).alloc (Nat.le_refl _) _⟩
def mayB (s:ByteArray):Bool:=!s.toList.isEmpty && (decide (s.size≤200) && !resB s)
theorem may_any (s:ByteArray) (w:World) (hE:Env w):Calls Tryz.prog 105 #[.string s] w fun e w'=>e = .returned (.bool (mayB s))∧Below w.heap.size w w':=by
 have hd:=@hid (mayB s=(!s.toList.isEmpty && (decide (s.size≤200) && !resB s))) rfl
 have hr:=hid (reserved_any s w hE)
 clear hE
 cases h0:s.toList.isEmpty
 case true=>
  have hv:=@hid (false=mayB s) (by rw [hd.out,h0];rfl)
  have e1:s.toList = []:=by simpa using h0
  clear h0
  go_enter Tryz.func105,Tryz.ntmps105
  go_wp2
  go_ret
  exact⟨ret_bool hv.out,Below.refl _ _⟩
 case false=>
  by_cases h2:s.size≤200
  ·have hv:=@hid (mayB s = !resB s) (by rw [hd.out,h0];simp [h2])
   have e2:(!s.toList.isEmpty)=true:=by rw [h0];rfl
   have h2i:(s.size:Int)≤200:=by omega
   go_enter Tryz.func105,Tryz.ntmps105
   go_wp2_with fail
   refine hr.out.mono ?_;rintro e w1 ⟨rfl,hb⟩
   have hb':=hid hb
   clear hb
   go_wp2
   go_ret
   exact⟨ret_bool hv.out.symm,hb'.out⟩
  ·have hv:=@hid (false=mayB s) (by rw [hd.out,h0];simp [h2])
   have e2:(!s.toList.isEmpty)=true:=by rw [h0];rfl
   have h2':decide (s.size≤200)=false:=by simpa using h2
   go_enter Tryz.func105,Tryz.ntmps105
   go_wp2
   go_ret
   exact⟨ret_bool hv.out,Below.refl _ _⟩
structure FunD where
 name:ByteArray
 args:List Int
 res:Int
def repF:Rep FunD:=Rep.map (fun f=>(f.name,f.args,f.res)) (.prod .str (.prod (.slice .int) .int))
def repM:Rep (Nat × Nat):=Rep.map (fun m=>((m.1:Int),(m.2:Int))) (.prod .int .int)
theorem repF_k:repF.k=3:=rfl
theorem repS_k:Rep.str.k=1:=rfl
def okI (x:Int):Prop:=-9223372036854775808≤x∧x≤9223372036854775807
theorem repF_rd {S:Nat→Prop} {w:World} {f:FunD} {cs:List Value}:repF.rd S w f cs↔∃a n c,cs = [.string f.name,.slice a n c,.int .i64 f.res]∧n≤c∧c≤maxLen∧SlR Rep.int S w a n f.args∧okI f.res:=by
 constructor
 ·rintro ⟨c,d,rfl,h1,c',d',rfl,⟨a,n,cc,h2,h3,h4,h5⟩,h6,h7⟩
  have h1':c = [.string f.name]:=h1
  have h6':d' = [.int .i64 f.res]:=h6
  subst h1' h2 h6'
  exact⟨a,n,cc,rfl,h3,h4,h5,h7⟩
 ·rintro ⟨a,n,c,rfl,h3,h4,h5,h6⟩
  exact⟨[.string f.name],_,rfl,rfl,[.slice a n c],_,rfl,⟨a,n,c,rfl,h3,h4,h5⟩,rfl,h6⟩
def IntX (X:Nat→Prop) (w:World) (k:Nat):Prop:=¬X k∧∃cs f,w.heap[k]? = some (.cells cs 3 f)
theorem IntX.lt {X:Nat→Prop} {w:World} {k:Nat} (h:IntX X w k):k<w.heap.size:=by obtain ⟨_,cs,f,h⟩:=h;exact(Array.getElem?_eq_some_iff.1 h).1
structure TabD where
 sorts:List ByteArray
 funs:List FunD
 marks:List (Nat × Nat)
structure TabX (X:Nat→Prop) (B p:Nat) (T:TabD) (w:World):Prop where
 bp:B≤p
 xlt:∀k,X k→k<w.heap.size
 blk:∃v1 v2 v3,w.heap[p]? = some (.cells #[v1,v2,v3] 168 (0,0))∧OwnR Rep.str (fun _=>False) w B 9 v1 T.sorts∧OwnR repF (IntX X w) w B 114 v2 T.funs∧OwnR repM (fun _=>False) w B 330 v3 T.marks
abbrev TabIs:=TabX fun _=>False
section
variable {X : Nat → Prop} {B p : Nat} {T : TabD} {w w' W : World}
theorem TabX.plt (h:TabX X B p T w):p<w.heap.size:=by obtain ⟨v1,v2,v3,hb,_⟩:=h.blk;exact(Array.getElem?_eq_some_iff.1 hb).1
theorem own3 {t:TypeId} {f:Nat × Nat} {v1 v2 v3:Value} (hb:w.heap[p]? = some (.cells #[v1,v2,v3] t f)) {k:Nat}:ownOf w p k↔k=p∨v1.ownBlock=some k∨v2.ownBlock=some k∨v3.ownBlock=some k:=by
 unfold ownOf
 constructor
 ·rintro (h | ⟨cs,t',f',h,v,hv,hk⟩)
  ·exact .inl h
  ·rw [hb] at h
   cases h
   simp at hv
   rcases hv with rfl | rfl | rfl
   ·exact .inr (.inl hk)
   ·exact .inr (.inr (.inl hk))
   ·exact .inr (.inr (.inr hk))
 ·rintro (h | h | h | h)
  ·exact .inl h
  ·exact .inr ⟨_,_,_,hb,v1,by simp,h⟩
  ·exact .inr ⟨_,_,_,hb,v2,by simp,h⟩
  ·exact .inr ⟨_,_,_,hb,v3,by simp,h⟩
theorem TabX.ownB (h:TabX X B p T w) {k:Nat} (hk:ownOf w p k):B≤k∧k<w.heap.size:=by
 obtain ⟨v1,v2,v3,hb,h1,h2,h3⟩:=h.blk
 rcases (own3 hb).1 hk with rfl | hk | hk | hk
 ·exact⟨h.bp,h.plt⟩
 ·exact h1.lt k hk
 ·exact h2.lt k hk
 ·exact h3.lt k hk
theorem ty_ne {k:Nat} {t t':TypeId} (hne:t≠t') (h:∃cs f,w.heap[k]? = some (.cells cs t f)) (h':∃cs f,w.heap[k]? = some (.cells cs t' f)):False:=by
 obtain ⟨cs,f,h⟩:=h
 obtain ⟨cs',f',h'⟩:=h'
 rw [h] at h'
 injection h' with h'
 injection h' with _ h'
 exact hne h'
theorem TabX.ownI (h:TabX X B p T w) {k:Nat} (hk:ownOf w p k):¬IntX X w k:=fun hi=>by
 obtain ⟨v1,v2,v3,hb,h1,h2,h3⟩:=h.blk
 rcases (own3 hb).1 hk with rfl | hk | hk | hk
 ·exact ty_ne (by decide) ⟨_,_,hb⟩ hi.2
 ·exact ty_ne (by decide) (h1.ty k hk) hi.2
 ·exact ty_ne (by decide) (h2.ty k hk) hi.2
 ·exact ty_ne (by decide) (h3.ty k hk) hi.2
theorem IntX.same {k:Nat} (h:IntX X w k) (hb:w'.heap[k]? = w.heap[k]?):IntX X w' k:=by obtain ⟨hx,cs,f,h⟩:=h;exact⟨hx,cs,f,hb.trans h⟩
theorem OwnR.keepI {v:Value} {fs:List FunD} (h:OwnR repF (IntX X w) w B 114 v fs) (hi:∀k,IntX X w k→w'.heap[k]? = w.heap[k]?) (hv:∀k,v.ownBlock=some k→w'.heap[k]? = w.heap[k]?) (hs:w.heap.size≤w'.heap.size):OwnR repF (IntX X w') w' B 114 v fs:=
 (h.keep (fun b _ hb=>hi b hb) hv hs).mono fun b _ hb=>hb.same (hi b hb)
theorem TabX.keep (h:TabX X B p T w) (hk:∀k,ownOf w p k→w'.heap[k]? = w.heap[k]?) (hi:∀k,IntX X w k→w'.heap[k]? = w.heap[k]?) (hs:w.heap.size≤w'.heap.size):TabX X B p T w':=by
 obtain ⟨v1,v2,v3,hb,h1,h2,h3⟩:=h.blk
 refine⟨h.bp,fun k hx=>Nat.lt_of_lt_of_le (h.xlt k hx) hs,v1,v2,v3,(hk p (.inl rfl)).trans hb,h1.keep (fun _ _ h=>h.elim) (fun k e=>hk k ((own3 hb).2 (.inr (.inl e)))) hs,h2.keepI hi (fun k e=>hk k ((own3 hb).2 (.inr (.inr (.inl e))))) hs,h3.keep (fun _ _ h=>h.elim) (fun k e=>hk k ((own3 hb).2 (.inr (.inr (.inr e))))) hs⟩
theorem TabX.all (h:TabX X B p T w) (hb:Below w.heap.size w w'):TabX X B p T w':=h.keep (fun k hk=>hb.block k (h.ownB hk).2) (fun k hk=>hb.block k hk.lt) hb.size
theorem TabX.stepBelow (h:TabX X B p T w) (hs:PStep p w w'):Below B w w':=hs.below (Nat.le_trans h.bp (Nat.le_of_lt h.plt)) fun _ hk=>(h.ownB hk).1
end
section
variable {w W : World} {p i : Nat} {cs : Array Value} {t : TypeId} {v v' : Value}
theorem setField (hb:w.heap[p]? = some (.cells cs t (0,0))) (hi:cs[i]? = some v) (hg:w.grownBy W v.ownBlock) (hp:v.ownBlock≠some p) (hloc:v'.ownBlock=v.ownBlock∨∀k,v'.ownBlock=some k→w.heap.size≤k) :
  PStep p w (W.setCell ⟨p,i,none⟩ v')∧(W.setCell ⟨p,i,none⟩ v').heap[p]? = some (.cells (cs.setIfInBounds i v') t (0,0))∧∀k,k≠p→(W.setCell ⟨p,i,none⟩ v').heap[k]? = W.heap[k]?:=by
 have hlt:=(Array.getElem?_eq_some_iff.1 hb).1
 have hbW:W.heap[p]? = some (.cells cs t (0,0)):=(hg.block p hlt (Ne.symm hp)).trans hb
 have h1:(W.setCell ⟨p,i,none⟩ v').heap[p]? = some (.cells (cs.setIfInBounds i v') t (0,0)):=by
  unfold World.setCell
  rw [Array.getElem?_modify,if_pos rfl,hbW]
  rfl
 have h2:∀k,k≠p→(W.setCell ⟨p,i,none⟩ v').heap[k]? = W.heap[k]?:=fun k hk=>Below.heap_setCell _ _ _ _ (fun e=>hk e)
 have hil:i<cs.size:=(Array.getElem?_eq_some_iff.1 hi).1
 refine⟨⟨hg.os,hg.tape,hg.output,by simpa [World.setCell] using hg.size,fun k hk hn=>?_⟩,h1,h2⟩
 have hkp:k≠p:=fun e=>hn (.inl e)
 have hkv:v.ownBlock≠some k:=fun e=>hn (.inr ⟨_,_,_,hb,v,by rw [Array.mem_iff_getElem?];exact⟨i,hi⟩,e⟩)
 refine⟨(h2 k hkp).trans (hg.block k hk (Ne.symm hkv)),?_⟩
 rintro (e | ⟨cs',t',f',e,u,hu,hk2⟩)
 ·exact hkp e
 ·rw [h1] at e
  cases e
  rw [Array.mem_iff_getElem?] at hu
  obtain ⟨j,hj⟩:=hu
  rw [Array.getElem?_setIfInBounds] at hj
  by_cases hij:i=j
  ·subst hij
   rw [if_pos rfl,if_pos hil] at hj
   cases hj
   rcases hloc with e | e
   ·exact hkv (by rw [←e];exact hk2)
   ·have:=e k hk2;omega
  ·rw [if_neg hij] at hj
   exact hn (.inr ⟨_,_,_,hb,u,by rw [Array.mem_iff_getElem?];exact⟨j,hj⟩,hk2⟩)
end
section
variable {X : Nat → Prop} {B p : Nat} {T : TabD} {w W : World} {v1 v2 v3 v' : Value}
theorem own_ty_ne {α β:Type} {R:Rep α} {Q:Rep β} {S S':Nat→Prop} {e e':TypeId} {v v':Value} {xs:List α} {ys:List β} {B B':Nat} (h:OwnR R S w B e v xs) (h':OwnR Q S' w B' e' v' ys) (hne:e≠e') {k:Nat} (hk:v.ownBlock=some k):v'.ownBlock≠some k:=
 fun e2=>ty_ne hne (h.ty k hk) (h'.ty k e2)
theorem TabX.setSorts (h:TabX X B p T w) (hb:w.heap[p]? = some (.cells #[v1,v2,v3] 168 (0,0))) (hg:w.grownBy W v1.ownBlock) (hloc:v'.ownBlock=v1.ownBlock∨∀k,v'.ownBlock=some k→w.heap.size≤k) {l:List ByteArray} (ho:OwnR Rep.str (fun _=>False) W B 9 v' l) :
  TabX X B p { T with sorts:=l } (W.setCell ⟨p,0,none⟩ v')∧PStep p w (W.setCell ⟨p,0,none⟩ v'):=by
 obtain ⟨u1,u2,u3,hb',h1,h2,h3⟩:=h.blk
 rw [hb] at hb'
 cases hb'
 have hp1:v1.ownBlock≠some p:=fun e=>ty_ne (by decide) (h1.ty p e) ⟨_,_,hb⟩
 have hp2:v2.ownBlock≠some p:=fun e=>ty_ne (by decide) (h2.ty p e) ⟨_,_,hb⟩
 have hp3:v3.ownBlock≠some p:=fun e=>ty_ne (by decide) (h3.ty p e) ⟨_,_,hb⟩
 obtain ⟨s1,s2,s3⟩:=setField (v':=v') hb (i:=0) rfl hg hp1 hloc
 have hpW:W.heap[p]? = w.heap[p]?:=hg.block p h.plt (Ne.symm hp1)
 have hp':v'.ownBlock≠some p:=fun e=>ty_ne (by decide) (ho.ty p e) ⟨_,_,hpW.trans hb⟩
 have hsz:(W.setCell ⟨p,0,none⟩ v').heap.size=W.heap.size:=by simp [World.setCell]
 refine⟨⟨h.bp,fun k hx=>Nat.lt_of_lt_of_le (h.xlt k hx) (Nat.le_trans hg.size (Nat.le_of_eq hsz.symm)),v',v2,v3,s2,ho.keep (fun _ _ h=>h.elim) (fun k hk=>s3 k fun e=>hp' (by rw [←e];exact hk)) (Nat.le_of_eq hsz.symm),h2.keepI (fun k hk=>?_) (fun k hk=>?_) (by rw [hsz];exact hg.size),h3.keep (fun _ _ h=>h.elim) (fun k hk=>?_) (by rw [hsz];exact hg.size)⟩,s1⟩
 ·rw [s3 k fun e=>by subst e;exact ty_ne (by decide) ⟨_,_,hb⟩ hk.2]
  exact hg.block k hk.lt fun e=>ty_ne (by decide) (h1.ty k e.symm) hk.2
 ·rw [s3 k fun e=>hp2 (by rw [←e];exact hk)]
  exact hg.block k (h2.lt k hk).2 fun e=>own_ty_ne h2 h1 (by decide) hk e.symm
 ·rw [s3 k fun e=>hp3 (by rw [←e];exact hk)]
  exact hg.block k (h3.lt k hk).2 fun e=>own_ty_ne h3 h1 (by decide) hk e.symm
theorem TabX.setFuns (h:TabX X B p T w) (hb:w.heap[p]? = some (.cells #[v1,v2,v3] 168 (0,0))) (hg:w.grownBy W v2.ownBlock) (hloc:v'.ownBlock=v2.ownBlock∨∀k,v'.ownBlock=some k→w.heap.size≤k) {l:List FunD} (ho:OwnR repF (IntX X W) W B 114 v' l) :
  TabX X B p { T with funs:=l } (W.setCell ⟨p,1,none⟩ v')∧PStep p w (W.setCell ⟨p,1,none⟩ v'):=by
 obtain ⟨u1,u2,u3,hb',h1,h2,h3⟩:=h.blk
 rw [hb] at hb'
 cases hb'
 have hp1:v1.ownBlock≠some p:=fun e=>ty_ne (by decide) (h1.ty p e) ⟨_,_,hb⟩
 have hp2:v2.ownBlock≠some p:=fun e=>ty_ne (by decide) (h2.ty p e) ⟨_,_,hb⟩
 have hp3:v3.ownBlock≠some p:=fun e=>ty_ne (by decide) (h3.ty p e) ⟨_,_,hb⟩
 obtain ⟨s1,s2,s3⟩:=setField (v':=v') hb (i:=1) rfl hg hp2 hloc
 have hpW:W.heap[p]? = w.heap[p]?:=hg.block p h.plt (Ne.symm hp2)
 have hp':v'.ownBlock≠some p:=fun e=>ty_ne (by decide) (ho.ty p e) ⟨_,_,hpW.trans hb⟩
 have hsz:(W.setCell ⟨p,1,none⟩ v').heap.size=W.heap.size:=by simp [World.setCell]
 refine⟨⟨h.bp,fun k hx=>Nat.lt_of_lt_of_le (h.xlt k hx) (Nat.le_trans hg.size (Nat.le_of_eq hsz.symm)),v1,v',v3,s2,h1.keep (fun _ _ h=>h.elim) (fun k hk=>?_) (by rw [hsz];exact hg.size),ho.keepI (fun k hk=>s3 k fun e=>?_) (fun k hk=>s3 k fun e=>hp' (by rw [←e];exact hk)) (Nat.le_of_eq hsz.symm),h3.keep (fun _ _ h=>h.elim) (fun k hk=>?_) (by rw [hsz];exact hg.size)⟩,s1⟩
 ·rw [s3 k fun e=>hp1 (by rw [←e];exact hk)]
  exact hg.block k (h1.lt k hk).2 fun e=>own_ty_ne h1 h2 (by decide) hk e.symm
 ·subst e;exact ty_ne (by decide) ⟨_,_,hpW.trans hb⟩ hk.2
 ·rw [s3 k fun e=>hp3 (by rw [←e];exact hk)]
  exact hg.block k (h3.lt k hk).2 fun e=>own_ty_ne h3 h2 (by decide) hk e.symm
end
variable {X : Nat → Prop}
theorem info_int:(Tryz.prog.info? 3).map (fun i=>(i.zero,i.size,i.bytes))=some (some (.int .i64 0),1,8):=by kernel_rfl
theorem info_str:(Tryz.prog.info? 9).map (fun i=>(i.zero,i.size,i.bytes))=some (some (.string ByteArray.empty),1,16):=by kernel_rfl
theorem info_fun:(Tryz.prog.info? 114).map (fun i=>(i.zero,i.size,i.bytes))=some (some (.agg #[.string ByteArray.empty,.slice none 0 0,.int .i64 0]),3,48):=by kernel_rfl
theorem cell_p {w:World} {p:Nat} {cs:Array Value} {t:TypeId} {f:Nat × Nat} (hb:w.heap[p]? = some (.cells cs t f)) (j:Nat):w.cell? ⟨p,j,none⟩=cs[j]?:=by simp [World.cell?,hb]
theorem frz_p {w:World} {p:Nat} {cs:Array Value} {t:TypeId} (hb:w.heap[p]? = some (.cells cs t (0,0))) (j:Nat):w.frozen? ⟨p,j,none⟩=false:=by simp [World.frozen?,hb]
theorem grown_alloc {w W:World} {o:Obj} {row:Option Nat} (h:(w.alloc o).grownBy W row):w.grownBy W row:=
 ⟨h.os,h.tape,h.output,Nat.le_trans (by simp) h.size,fun k hk hne=>(h.block k (by simp;omega) hne).trans (Below.heap_alloc w o k hk)⟩
theorem SlR.strs {S:Nat→Prop} {w:World} {a:Option Addr} {n:Nat} {zs:List ByteArray} (h:SlR Rep.str S w a n zs) (hn:0<n):∃b o,a=some ⟨b,o,none⟩∧∀j,j<zs.length→w.cell? ⟨b,o+j,none⟩=some (.string (zs.getD j ByteArray.empty)):=by
 obtain ⟨b,o,ha,_,_,hc⟩:=h.2 hn
 refine⟨b,o,ha,fun j hj=>?_⟩
 obtain ⟨cs,h1,h2⟩:=hc j _ (List.getElem?_eq_getElem hj)
 have h3:=h2 0 (.string zs[j]) (by rw [show cs = [.string zs[j]] from h1];rfl)
 rw [repS_k] at h3
 simpa [List.getD,hj] using h3
theorem containsS_any {S:Nat→Prop} (a:Option Addr) (n c:Nat) (zs:List ByteArray) (x:ByteArray) (w:World) (h:SlR Rep.str S w a n zs) (hn:n≤9223372036854775807) :
  Calls Tryz.prog 106 #[.slice a n c,.string x] w fun e w'=>e = .returned (.bool (Lib.containsS zs x))∧w=w':=by
 rcases Nat.eq_zero_or_pos n with h0 | h0
 ·subst h0
  have hz:zs = []:=List.eq_nil_of_length_eq_zero h.1
  subst hz
  exact(Tryz.slices_Contains_string_empty a c x w).mono fun e w' ⟨h1,h2⟩=>⟨h1,h2.symm⟩
 ·obtain ⟨b,o,rfl,hc⟩:=h.strs h0
  refine(Tryz.slices_Contains_string b o n c zs x w (Nat.le_of_eq h.1.symm) hn hc).mono fun e w' ⟨h1,h2⟩=>⟨?_,h2.symm⟩
  rw [←h.1,List.take_length] at h1
  exact h1
theorem tnew_any (w:World):Calls Tryz.prog 56 #[] w fun e w'=>∃p,e = .returned (.pointer (some ⟨p,0,none⟩))∧TabIs w.heap.size p ⟨[],[],[]⟩ w'∧Below w.heap.size w w':=by
 go_enter Tryz.func56,Tryz.ntmps56
 go_wp2
 go_ret
 exact⟨w.heap.size,rfl,⟨Nat.le_refl _,fun _ h=>h.elim,_,_,_,heap_alloc_new w _,OwnR.nil _ _ _ _ _,OwnR.nil _ _ _ _ _,OwnR.nil _ _ _ _ _⟩,(Below.refl _ _).alloc (Nat.le_refl _) _⟩
theorem TabX.look {B p:Nat} {T:TabD} {w:World} (h:TabX X B p T w):∃a1 c1 a2 c2 a3 c3,w.heap[p]? = some (.cells #[.slice a1 T.sorts.length c1,.slice a2 T.funs.length c2,.slice a3 T.marks.length c3] 168 (0,0)) ∧
  OwnR Rep.str (fun _=>False) w B 9 (.slice a1 T.sorts.length c1) T.sorts∧OwnR repF (IntX X w) w B 114 (.slice a2 T.funs.length c2) T.funs∧OwnR repM (fun _=>False) w B 330 (.slice a3 T.marks.length c3) T.marks:=by
 obtain ⟨v1,v2,v3,hb,h1,h2,h3⟩:=h.blk
 obtain ⟨a1,c1,rfl,_⟩:=h1.slice
 obtain ⟨a2,c2,rfl,_⟩:=h2.slice
 obtain ⟨a3,c3,rfl,_⟩:=h3.slice
 exact⟨a1,c1,a2,c2,a3,c3,hb,h1,h2,h3⟩
def isB (n:Nat) (s:Int):Bool:=decide (0≤s) && decide (s<2+n)
theorem is_any (B p:Nat) (T:TabD) (s:Int) (w:World) (h:TabX X B p T w) (hl:T.sorts.length<1099511627776):Calls Tryz.prog 110 #[.pointer (some ⟨p,0,none⟩),.int .i64 s] w fun e w'=>e = .returned (.bool (isB T.sorts.length s))∧w=w':=by
 obtain ⟨a1,c1,a2,c2,a3,c3,hb,_⟩:=h.look
 have k0:w.cell? ⟨p,0,none⟩=some (.slice a1 T.sorts.length c1):=cell_p hb 0
 have hd:=@hid (isB T.sorts.length s=(decide (0≤s) && decide (s<2+(T.sorts.length:Int)))) rfl
 clear hb h
 generalize T.sorts.length=n at *
 by_cases h1:0≤s
 ·have hv:=@hid (isB n s=decide (s<2+(n:Int))) (by rw [hd.out];simp [h1])
  go_enter Tryz.func110,Tryz.ntmps110
  go_wp2
  go_ret
  exact⟨ret_bool hv.out.symm,rfl⟩
 ·have hv:=@hid (false=isB n s) (by rw [hd.out];simp [h1])
  have h1':decide (0≤s)=false:=by simpa using h1
  go_enter Tryz.func110,Tryz.ntmps110
  go_wp2
  go_ret
  exact⟨ret_bool hv.out,rfl⟩
def badSort (T:TabD) (s:ByteArray):Bool:=!mayB s || Lib.containsS T.sorts s
def SortPost (X:Nat→Prop) (B p:Nat) (T:TabD) (s:ByteArray) (w:World) (e:Ending) (w':World):Prop:=
 (if badSort T s then e = .returned (.tuple #[.int .i64 0,.int .i64 1])∧TabX X B p T w' else e = .returned (.tuple #[.int .i64 ((T.sorts.length:Int)+2),.int .i64 0])∧TabX X B p { T with sorts:=T.sorts ++ [s] } w')∧PStep p w w'
theorem sort_any (B p:Nat) (T:TabD) (s:ByteArray) (w:World) (h:TabX X B p T w) (hE:Env w) (hl:T.sorts.length<1099511627776):Calls Tryz.prog 57 #[.pointer (some ⟨p,0,none⟩),.string s] w fun e w'=>SortPost X B p T s w e w':=by
 have h':=hid h
 have hm:=hid (may_any s w hE)
 have hd:=@hid (badSort T s=(!mayB s || Lib.containsS T.sorts s)) rfl
 clear h hE
 cases hmay:mayB s
 case false=>
  have hv:=@hid (badSort T s=true) (by rw [hd.out,hmay];rfl)
  rw [hmay] at hm
  clear hmay
  go_enter Tryz.func57,Tryz.ntmps57
  go_wp2_with fail
  refine hm.out.mono ?_;rintro e w1 ⟨rfl,hb⟩
  have hb':=hid hb
  clear hb
  go_wp2
  go_ret2
  unfold SortPost
  rw [if_pos hv.out]
  exact⟨⟨rfl,h'.out.all hb'.out⟩,.of_below h'.out.plt hb'.out⟩
 rw [hmay] at hm
 obtain ⟨i0,hi,hz0,hz1,hz2⟩:=info_parts info_str
 go_enter Tryz.func57,Tryz.ntmps57
 go_wp2_with fail
 refine hm.out.mono ?_;rintro e w1 ⟨rfl,hb⟩
 have hb':=hid hb
 have H1:=hid (h'.out.all hb)
 obtain ⟨a1,c1,a2,c2,a3,c3,hblk,o1,_⟩:=H1.out.look
 have k0:w1.cell? ⟨p,0,none⟩=some (.slice a1 T.sorts.length c1):=cell_p hblk 0
 have f0:w1.frozen? ⟨p,0,none⟩=false:=frz_p hblk 0
 have hrd:=o1.read (S':=fun _=>True) (fun _ _ _=>trivial) (fun _ _=>trivial)
 have hct:=hid (containsS_any a1 T.sorts.length c1 T.sorts s w1 hrd (by omega))
 have hblk':=hid hblk
 obtain ⟨css,oc,ol,oe⟩:=o1
 have oc':=hid oc
 have ol':=hid ol
 have oe':=hid oe
 have hp1:=hid (show Value.ownBlock (.slice a1 T.sorts.length c1)≠some p from fun e=>ty_ne (by decide) (oc.ty p e) ⟨_,_,hblk⟩)
 have hplt:=H1.out.plt
 have hBs:=Nat.le_trans H1.out.bp (Nat.le_of_lt hplt)
 clear hb hblk hrd oc ol oe
 cases hcs:Lib.containsS T.sorts s
 case true=>
  have hv:=@hid (badSort T s=true) (by rw [hd.out,hmay,hcs];rfl)
  rw [hcs] at hct
  clear hmay hcs
  go_wp2_with fail
  refine hct.out.mono ?_;rintro e w' ⟨rfl,rfl⟩
  go_wp2
  go_ret2
  unfold SortPost
  rw [if_pos hv.out]
  exact⟨⟨rfl,H1.out⟩,.of_below h'.out.plt hb'.out⟩
 case false=>
  have hv:=@hid (badSort T s=false) (by rw [hd.out,hmay,hcs];rfl)
  rw [hcs] at hct
  clear hmay hcs
  have hnl:T.sorts.length<1099511627776:=hl
  go_wp2_with fail
  refine hct.out.mono ?_;rintro e w' ⟨rfl,rfl⟩
  go_wp2_with (at_builtin;refine wpList_append_C rfl (.tmp 25) (.tmp 27) rfl Tryz.underlying60 hi hz0 hz1 hz2 rfl (by decide) rfl rfl (oc'.out.alloc _) (Src.one (b:=w1.heap.size) (news:=[.string s]) rfl ?c1) ?c2 ?c3 ?c4 ?c5 ?_)
  case c1=>intro j u hu;rw [World.cell?_alloc_new];simpa using hu
  case c2=>intro u hu;simp at hu;subst hu;rfl
  case c3=>unfold maxLen;omega
  case c4=>omega
  case c5=>simp;omega
  intro v' w2 ho2 hg2 hl2
  have hg2':=hid (grown_alloc hg2)
  have hl2':=hid (show v'.ownBlock=Value.ownBlock (.slice a1 T.sorts.length c1)∨∀k,v'.ownBlock=some k→w1.heap.size≤k from hl2.imp id (fun hh k hk=>Nat.le_of_succ_le (hh k hk)))
  have ho2':=hid (OwnR.push (R:=Rep.str) (S:=fun _=>False) (x:=s) ol'.out oe'.out (show Rep.str.rd (fun _=>False) w1 s [.string s] from rfl) ho2 (fun _ _ h=>h.elim) (grown_alloc hg2).size)
  obtain ⟨a',c',rfl,_⟩:=ho2.slice
  have k2:w2.cell? ⟨p,0,none⟩=some (.slice a1 T.sorts.length c1):=by
   rw [World.cell?_of_block (w:=w1) (a:=⟨p,0,none⟩) (hg2'.out.block p hplt (Ne.symm hp1.out))];exact k0
  have f2:w2.frozen? ⟨p,0,none⟩=false:=by
   rw [World.frozen?_of_block (w:=w1) (a:=⟨p,0,none⟩) (hg2'.out.block p hplt (Ne.symm hp1.out))];exact f0
  clear ho2 hg2 hl2
  go_wp2
  go_ret2
  unfold SortPost
  rw [if_neg (by rw [hv.out];decide)]
  obtain ⟨t1,s1⟩:=H1.out.setSorts hblk'.out hg2'.out hl2'.out ho2'.out
  refine⟨⟨?_,t1⟩,(PStep.of_below h'.out.plt hb'.out).trans s1⟩
  have:(2:Int)+((T.sorts.length:Int)+1) - 1=(T.sorts.length:Int)+2:=by omega
  simp
  omega
end Go.Proofs.YtgoojkiccdjplaaGreatDoor
