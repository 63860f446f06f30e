/-
  Parts of this claim's texts, one behind the other: GF. No condition.
-/
import Derived.Test.YtgoojkiccdjplaaGreatDoorN30
import Derived.Test.YtgoojkiccdjplaaGreatDoorN33
set_option linter.unusedVariables false
set_option linter.unusedSimpArgs false
set_option maxRecDepth 100000
set_option maxHeartbeats 16000000
namespace Go.Proofs.YtgoojkiccdjplaaGreatDoor
open Go.RowKit Go.Sort Go.Lib
section
variable {w w' wM wr : World} {p : Nat} {S : Nat -> Prop} {T T' : aR} {v : Value}
theorem St.xlt {w0:World} (h:St w0 p T w) {k:Nat} (hk:T.X k):k<w.heap.size:=by obtain ⟨q,v1,v2,m,ha⟩:=h.t;exact(ha.xlt k hk).1
end
def aBb (k:Nat):List Int:=(List.range k).map fun(j:Nat)=>(j:Int)
theorem uT {T:aR} {n:bY} (h:ArT T) (hn:uM n.op n.args.length):ArT (addN T n):=fun x hx=>by
 rcases List.mem_append.1 (show x∈T.nodes ++ [n] from hx) with hx | hx
 ·exact h x hx
 ·rw [List.mem_singleton.1 hx];exact hn
theorem aCu (k:Nat):aBb (k+1)=aBb k ++ [(k:Int)]:=by unfold aBb;rw [List.range_succ,List.map_append];rfl
theorem aJ1 (m:iF) (T:aR) (X:Nat->Prop) (i:Int):iY m { T with X:=X } i=iY m T i:=by
 have hl:∀(l:List Int) F,mN m { T with X:=X } l F=mN m T l F:=by
  intro l
  induction l with
  | nil=>intro F;rfl
  |
   cons a l ih=>
   intro F;unfold mN;rw [ih];rfl
 unfold iY;rw [aJx,hl];rfl
theorem iB.X {T:aR} (h:iB T) (X:Nat->Prop):iB { T with X:=X }:=⟨⟨h.ok.sm.X X,h.ok.sn,h.ok.ord⟩,h.ng⟩
end Go.Proofs.YtgoojkiccdjplaaGreatDoor
