/-
  Parts of this claim's texts, one behind the other: JGRow0. No condition.
-/
import Derived.Test.YtgoojkiccdjplaaGreatDoorRows
import Derived.Test.YtgoojkiccdjplaaGreatDoorQ1
import Derived.Test.YtgoojkiccdjplaaGreatDoorQ9
import Derived.Test.YtgoojkiccdjplaaGreatDoorTie
import Derived.Test.YtgoojkiccdjplaaGreatDoorCards
import Derived.SevenTiedAt
set_option linter.unusedVariables false
set_option linter.unusedSimpArgs false
set_option maxRecDepth 100000
set_option maxHeartbeats 16000000
namespace Go.Proofs.YtgoojkiccdjplaaGreatDoor.liftChains
open Go.ChangeShapes Go.WideShapes Go.ChangeAt Go.RowKit Go.Proofs.Tryz
open Go.ChangeMaps (open_string shut_string)
set_option linter.unusedVariables false
theorem own:ownKnob Tryz.prog.godebug=none:=by kernel_rfl
theorem laidOut:laidOutB prog=true:=by kernel_rfl
theorem lifted (os:Os) (Y:os.Started) (A:Type) (enc:TypeId × Value->A) :
  ReturnsInHanded {} Tryz.checked os 10 .any (fun w args=>(Rows.liftChainsSpec.pre enc prog Tryz.f10 [] false w args/\laidMetH prog oQ w)/\sizedMet enc prog Tryz.f10 (OpenSpec.ofChange Rows.liftChainsSpec) false w args) (Rows.liftChainsSpec.post enc prog Tryz.f10 false true false false):=by
 refine returnsInHanded_of_change_and (C:=Tryz.checked) (X:=fun w _=>laidMetH prog oQ w) (fun _ _ _ M h=>h.of_heap M) own Y (by kernel_rfl) func10
  (ChangeSpec.witness_shaped (enc:=enc) (C:=Tryz.checked) (os:=os) (X:=fun w _=>laidMetH prog oQ w) false (World.laidAll prog os oQ) #[.slice none 0 0,.int .i64 0,.slice none 0 0] 8 (World.laidAll_os _ _ _) (aLu _ _) (by kernel_rfl) (by kernel_rfl) (by kernel_rfl) (aUg _ _)) ?_
 intro W base args ds al ae l k _ _ I _;have H:=aLt I;have a:∀(j:Nat) t v,Tryz.f10.params[j]? = some t->args[j]? = some v->Value.okWide prog W .any base t v:=l;have K:=k;obtain ⟨p,q,i,J,rfl,an,ao⟩:=k;have g:DataW.TrodAll enc prog W 0 (fun _=>true) true Tryz.f10.params.toList args.toList ds p:=i;rw [Tryz.params10] at g a;obtain ⟨r,av,af,ai,R,aq,am,rfl,rfl,d,T⟩:=trodAll_cons g;obtain ⟨s,aw,ag,aj,ap,ar,rfl,rfl,rfl,G,U⟩:=trodAll_cons T;obtain ⟨y,ax,ah,ak,S,au,rfl,rfl,rfl,f,V⟩:=trodAll_cons U;obtain ⟨rfl,rfl,rfl⟩:=trodAll_nil V;obtain rfl:args = #[r,s,y]:=by cases args;simp_all
 obtain ⟨rfl,rfl⟩:=trodVars_none J;obtain ⟨B,P,F,rfl⟩:=okWide_slice underlying22 (a 0 22 r rfl rfl);have n:=d;have N:∀x∈R,x.block<W.heap.size:=by obtain ⟨m,c⟩:=n;exact DataW.trod_lt m _ _ _ c
 obtain ⟨ab,w0,E⟩:=aQp aFe d;obtain ⟨aa,rfl,rfl,rfl,z⟩:=open_int underlying3 (a 1 3 s rfl rfl) G;obtain ⟨D,Q,c2,rfl⟩:=okWide_slice underlying23 (a 2 23 y rfl rfl);have o:=f;have O:∀x∈S,x.block<W.heap.size:=by obtain ⟨m,c⟩:=o;exact DataW.trod_lt m _ _ _ c
 obtain ⟨ad,Z,b2⟩:=aIm underlying23 underlying3 (by kernel_rfl) f;clear i l;refine(aCa B P F ab aa D Q c2 ad W H w0 E (bounds_i64 z) Z b2).mono fun e W' ⟨L,b⟩=>?_
 subst L;exact⟨_,rfl,_,_,_,[],_,[],K,trodAll_mk1 (shut_bool underlying4 _),(trodAll_cons_mk (Below.trod laidOut (by kernel_rfl) (oU (by kernel_rfl)) n b N) (trodAll_cons_mk (shut_int underlying3 z) (trodAll_cons_mk (Below.trod laidOut (by kernel_rfl) (oU (by kernel_rfl)) o b O) trodAll_mk0))),rfl,b.frame _,fun h=>by cases h⟩
theorem facts:joinedFacts Tryz.pinned.checked.prog 10 Tryz.f10 Rows.liftChainsSpec Rows.liftChainsRow=true:=by
 unfold joinedFacts;simp only [jS]
 repeat' apply And.intro
 all_goals (as_aux_lemma=>kernel_rfl)
theorem over:Rows.liftChainsRow.holds Tryz.pinned (OpenSpec.ofChange Rows.liftChainsSpec):=
 OpenClaim.holds_of_wide 10 Tryz.f10 rfl rfl rfl rfl rfl rfl rfl ⟨rfl,rfl,rfl,rfl,rfl⟩ rfl rfl rfl rfl rfl (by kernel_rfl) func10 facts
  (oU (by kernel_rfl)) (by unfold Func.isWrapper;first | (rw [if_pos (by decide +kernel)];kernel_rfl) | (rw [if_neg (by decide +kernel)];exact⟨rfl,rfl⟩))
  (fun os b a enc _=>lifted os b a enc)
end Go.Proofs.YtgoojkiccdjplaaGreatDoor.liftChains
