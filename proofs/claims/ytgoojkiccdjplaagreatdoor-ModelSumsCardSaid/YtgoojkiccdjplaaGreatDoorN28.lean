/-
  Parts of this claim's texts, one behind the other: CN UN OP CO GC UM UB. No condition.
-/
import Derived.Test.YtgoojkiccdjplaaGreatDoorN27
import Derived.Test.YtgoojkiccdjplaaGreatDoorN24
import Derived.Test.YtgoojkiccdjplaaGreatDoorN1
import Derived.Deep.Slices
import Derived.OpenShut
set_option linter.unusedVariables false
set_option linter.unusedSimpArgs false
set_option maxRecDepth 100000
set_option maxHeartbeats 16000000
namespace Go.Proofs.YtgoojkiccdjplaaGreatDoor
open Go.RowKit Go.Sort Go.Lib
def aE3 (k n:Int):Int:=k.tmod n % n
theorem aJw (k n:Int) (w:World) (h0:0<n) (h1:n<4611686018427387904) :
  Calls Tryz.prog 37 #[.int .i64 k,.int .i64 n] w fun e w'=>e = .returned (.int .i64 (aE3 k n))/\w=w':=by
 have h3:(n == 0)=false:=by simp;omega
 have h2:=Int.tmod_lt_of_pos k h0;have h4:-n<k.tmod n:=by
  have:=Int.lt_tmod_of_pos k h0;omega
 have e:=@hid (aE3 k n=k.tmod n % n) rfl;generalize hq:k.tmod n=q at *;go_enter Tryz.func37,Tryz.ntmps37
 go_wp2;go_ret;exact⟨jL (by rw [e.out,Int.add_emod_right]),rfl⟩
theorem rX {m n d:Int} (hd:0<d):iQ (aH m d) (aH n d)=decide (m=n):=by
 show(decide ((1:Int)=1) && (if (1:Int)=0 then _ else if (1:Int)=1 then iE (gC m d) (gC n d) else _))=_;rw [decide_eq_true rfl,if_neg (by decide),if_pos rfl,Bool.true_and];by_cases h:m=n
 ·subst h;rw [decide_eq_true rfl];exact kV.2 rfl
 ·rw [decide_eq_false h];cases ha:iE (gC m d) (gC n d) with
  | false=>rfl
  |
   true=>
   have h2:=kV.1 ha;rw [iZ hd,iZ hd] at h2;exact absurd ((aDi (by omega)).1 (aDh h2)) h
theorem aLj (k:Int) {n:Int} (h:0<n):0<=aE3 k n/\aE3 k n<n:=⟨Int.emod_nonneg _ (by omega),Int.emod_lt_of_pos _ h⟩
theorem aDl (T:aR) (X:Nat->Prop):∀(f:Nat) (st:List Int × List Int) (i:Int),dX { T with X:=X } f st i=dX T f st i
 | 0,_,_=>rfl
 |
  f+1,st,i=>by
  have e:dX { T with X:=X } f=dX T f:=funext fun st=>funext fun i=>aDl T X f st i
  unfold dX;rw [e];rfl
theorem aJx (T:aR) (X:Nat->Prop) (ids:List Int):jB { T with X:=X } ids=jB T ids:=by
 have e:fO { T with X:=X }=fO T:=funext fun st=>funext fun i=>by
  unfold fO;rw [aDl];rfl
 unfold jB;rw [e]
theorem aA7 {T:aR} (ho:aEd T) (ids:List Int):nF T (jB T ids)/\∀x∈(jB T ids).2,0<=x/\x<(T.nodes.length:Int):=by
 have:∀(l:List Int) (st:List Int × List Int),nF T st->(∀x∈st.2,0<=x/\x<(T.nodes.length:Int))->nF T (l.foldl (fO T) st)/\∀x∈(l.foldl (fO T) st).2,0<=x/\x<(T.nodes.length:Int):=by
  intro l
  induction l with
  | nil=>exact fun st h1 h2=>⟨h1,h2⟩
  |
   cons i l ih=>
   intro st h1 h2;refine ih _ (h1.at ho i) ?_;unfold fO
   split
   ·rename_i hi
    obtain ⟨g0,g1⟩:=lK.1 hi;obtain ⟨k,rfl⟩:=Int.eq_ofNat_of_zero_le g0;exact wI ho _ k _ (by omega) h2
   ·exact h2
 exact this ids _ (nF.nil T) (by simp)
theorem jP.hold {w w':World} {a:Option Addr} {n:Nat} {xs:List Int} (h:jP w a n xs) (hk:0<n->∀x,a=some x->w'.heap[x.block]? = w.heap[x.block]?) (hs:w.heap.size<=w'.heap.size):jP w' a n xs:=
 ⟨h.len,h.wf,fun hn=>by
  obtain ⟨b,o,ha,hlt,hc⟩:=h.cells hn;refine⟨b,o,ha,bN hlt hs,fun j hj=>?_⟩;have hq:=hk hn _ ha;rw [World.cell?_of_block (w:=w) (a:=⟨b,o+j,none⟩) (by exact hq)];exact hc j hj⟩
end Go.Proofs.YtgoojkiccdjplaaGreatDoor
