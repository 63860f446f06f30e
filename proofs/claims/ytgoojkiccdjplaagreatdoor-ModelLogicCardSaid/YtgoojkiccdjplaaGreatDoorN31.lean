/-
  Parts of this claim's texts, one behind the other: UD UE UF UG UH UI UJ UK. No condition.
-/
import Derived.Test.YtgoojkiccdjplaaGreatDoorN30
set_option linter.unusedVariables false
set_option linter.unusedSimpArgs false
set_option maxRecDepth 100000
set_option maxHeartbeats 16000000
namespace Go.Proofs.YtgoojkiccdjplaaGreatDoor
open Go.RowKit Go.Sort Go.Lib
def mk2 (T:TermD) (op a b:Int):(Int × Int) × TermD:=makeD T op ⟨#[]⟩ noRat [a,b]
theorem mk2_call {w0 w:World} {p:Nat} {T:TermD} {X:Nat→Prop} (hE:EnvT w0) (h:St w0 p { T with X:=X } w) (hG:TermG T) (op a b:Int) (ho:okI op) (h11:op≠11) (ha:okI a) (hb:okI b) :
  Calls Tryz.prog 33 #[.pointer (some ⟨p,0,none⟩),.int .i64 op,.string ⟨#[]⟩,.agg #[.bool false,.slice none 0 0,.slice none 0 0],.slice (some ⟨w.heap.size,0,none⟩) 2 2] (w.alloc (.cells #[.int .i64 a,.int .i64 b] 3)) fun e w'=>
   e = .returned (.tuple #[.int .i64 (mk2 T op a b).1.1,.int .i64 (mk2 T op a b).1.2])∧St w0 p { (mk2 T op a b).2 with X:=X } w'∧TStep p w w':=by
 have hl:=h.lit (.cells #[.int .i64 a,.int .i64 b] 3)
 have hm:=make_any w0.heap.size p { T with X:=X } op ⟨#[]⟩ noRat [a,b] none none (some ⟨w.heap.size,0,none⟩) 0 0 2 _ hl.t (hG.ok.sm.X X) (hl.env hE) (lit_args w op [a,b] ho (by intro x hx;simp at hx;rcases hx with rfl | rfl <;> assumption) (by show 2≤maxLen;decide) h11)
 unfold MakePost at hm
 rw [makeD_X] at hm
 refine hm.mono ?_
 rintro e w' ⟨rfl,t,s⟩
 exact⟨rfl,hl.step t s,(TStep.of_below h.t.plt ((Below.refl _ _).alloc (Nat.le_refl _) _)).trans s⟩
end Go.Proofs.YtgoojkiccdjplaaGreatDoor
