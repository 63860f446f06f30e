/-
  Parts of this claim's texts, one behind the other: JGRow. No condition.
-/
import Derived.Test.YtgoojkiccdjplaaGreatDoorQJGRow0
import Derived.Test.YtgoojkiccdjplaaGreatDoorRows
import Derived.Test.YtgoojkiccdjplaaGreatDoorQ1
import Derived.Test.YtgoojkiccdjplaaGreatDoorQ9
import Derived.Test.YtgoojkiccdjplaaGreatDoorTie
import Derived.Test.YtgoojkiccdjplaaGreatDoorCards
import Derived.SevenTiedAt
set_option linter.unusedVariables false
set_option linter.unusedSimpArgs false
set_option maxRecDepth 100000
set_option maxHeartbeats 16000000
namespace Go.Proofs.YtgoojkiccdjplaaGreatDoor.liftChains
open Go.ChangeShapes Go.WideShapes Go.ChangeAt Go.RowKit Go.Proofs.Tryz
open Go.ChangeMaps (open_string shut_string)
set_option linter.unusedVariables false
theorem proved:Rows.LiftChainsCardSaid:=
 Claim7.holds_tied_plain_at .later [] [.data,.data,.data,.data,.listed,.data,.pinned,.pinned,.pinned,.pinned,.pinned,.pinned] true (true,"cdbd315eca063f9b58677fad9a348864165e43bf681ee324329fc1d73e041152") false
  over (fun _ h=>by cases h) (by as_aux_lemma=>kernel_rfl) (fun _ h=>by cases h) liftChains_row_tie rfl ⟨rfl,rfl⟩ (by as_aux_lemma=>kernel_rfl) rfl
  (fun f b c d=>by
   obtain rfl:f=10:=tK ((show Tryz.prog.funcNamed "theodolite/theodolitelaw16.LiftChains" = some 10 by kernel_rfl).symm.trans c) |>.symm
   obtain rfl:b=Tryz.f10:=(tK (Tryz.func10.symm.trans d)).symm;exact⟨by kernel_rfl,fun j t a=>by
    rw [Tryz.params10] at a;have e:t∈Tryz.f10.params.toList:=by rw [Tryz.params10];exact fP (by simpa using a)
    have:=oV.1 (show(Tryz.f10.params.toList.all fun t=>!Tryz.prog.wantsStandIn t)=true by kernel_rfl) t e;exact(by simpa using this:Tryz.prog.wantsStandIn t=false)⟩)
  (by as_aux_lemma=>kernel_rfl)
#print axioms proved
end Go.Proofs.YtgoojkiccdjplaaGreatDoor.liftChains
