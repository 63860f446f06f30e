/-
  Parts of this claim's texts, one behind the other: UD UE UF UG UH UI UJ UK UO GE. No condition.
-/
import Derived.Test.YtgoojkiccdjplaaGreatDoorN29
import Derived.Test.YtgoojkiccdjplaaGreatDoorN28
set_option linter.unusedVariables false
set_option linter.unusedSimpArgs false
set_option maxRecDepth 100000
set_option maxHeartbeats 16000000
namespace Go.Proofs.YtgoojkiccdjplaaGreatDoor
open Go.RowKit Go.Sort Go.Lib
def mk2 (T:aR) (op a b:Int):(Int × Int) × aR:=cD T op ⟨#[]⟩ dC [a,b]
section
variable {w0 w w' : World} {p : Nat} {T : aR} {X : Nat -> Prop} {v v' : Value}
theorem St.more {Y:Nat->Prop} (h:St w0 p { T with X:=X } w) (hb:Below w.heap.size w w') (hY:∀k,Y k->X k\/(w.heap.size<=k/\k<w'.heap.size)):St w0 p { T with X:=Y } w':=
 h.excl (X':=Y) (hb.mono h.b.size) (fun k hk _=>hb.block k hk) fun k hk=>by
  obtain ⟨q,v1,v2,m,ha⟩:=h.t;rcases hY k hk with e | e
  ·exact⟨.inl e,bN (ha.xlt k e).1 hb.size⟩
  ·exact⟨.inr e.1,e.2⟩
end
theorem aH7 {w0 w:World} {p:Nat} {T:aR} {X:Nat->Prop} (hE:jQ w0) (h:St w0 p { T with X:=X } w) (hG:iB T) (op a b:Int) (ho:fG op) (h11:op≠11) (ha:fG a) (hb:fG b) :
  Calls Tryz.prog 33 #[.pointer (some ⟨p,0,none⟩),.int .i64 op,.string ⟨#[]⟩,.agg #[.bool false,.slice none 0 0,.slice none 0 0],.slice (some ⟨w.heap.size,0,none⟩) 2 2] (w.alloc (.cells #[.int .i64 a,.int .i64 b] 3)) fun e w'=>
   e = .returned (.tuple #[.int .i64 (mk2 T op a b).1.1,.int .i64 (mk2 T op a b).1.2])/\St w0 p { (mk2 T op a b).2 with X:=X } w'/\fB p w w':=by
 have hl:=h.lit (.cells #[.int .i64 a,.int .i64 b] 3);have hm:=nE w0.heap.size p { T with X:=X } op ⟨#[]⟩ dC [a,b] none none (some ⟨w.heap.size,0,none⟩) 0 0 2 _ hl.t (hG.ok.sm.X X) (hl.env hE) (aHt w op [a,b] ho (by intro x hx;simp at hx;rcases hx with rfl | rfl <;> assumption) (by show 2<=maxLen;decide) h11);unfold cF at hm;rw [qZ] at hm;refine hm.mono ?_;rintro e w' ⟨rfl,t,s⟩;exact⟨rfl,hl.step t s,(fB.of_below h.t.plt (bD)).trans s⟩
def nY:bY:=⟨12,sy,dC,[],1⟩
section
variable {p q : Bool} {x y : Int}
theorem yP {m:iF} {nm:ByteArray} {l1:List mU} {t:mU} {l2:List mU} (hm:m=l1++t :: l2) (h1:∀u∈l1,nQ u.name nm=false) (h2:nQ t.name nm=true):eC m nm=some t:=by
 subst hm;unfold eC;rw [List.find?_append,List.find?_eq_none.2 (fun u hu=>by rw [h1 u hu];decide),List.find?_cons_of_pos (by exact h2)];rfl
theorem eval_const {m:iF} {nm:ByteArray} {s:Int} {t:mU} (h:eC m nm=some t) (hr:t.rows = []):bG m ⟨12,nm,dC,[],s⟩ []=(t.els,0):=by
 rw [qY (x:=⟨12,nm,dC,[],s⟩) rfl];show(if (eC m nm).isSome=true then(dZ ((eC m nm).getD mJ) [],(0:Int)) else _)=_;rw [h];show(dZ t [],(0:Int))=_;unfold dZ;rw [hr];rfl
end
end Go.Proofs.YtgoojkiccdjplaaGreatDoor
