/-
  Parts of this claim's texts, one behind the other: GIRow. No condition.
-/
import Derived.Test.YtgoojkiccdjplaaGreatDoorNGIRow0
import Derived.Test.YtgoojkiccdjplaaGreatDoorRows
import Derived.Test.YtgoojkiccdjplaaGreatDoorN1
import Derived.Test.YtgoojkiccdjplaaGreatDoorN36
import Derived.Test.YtgoojkiccdjplaaGreatDoorN37
import Derived.Test.YtgoojkiccdjplaaGreatDoorTie
import Derived.Test.YtgoojkiccdjplaaGreatDoorCards
import Derived.SevenTiedAt
set_option linter.unusedVariables false
set_option linter.unusedSimpArgs false
set_option maxRecDepth 100000
set_option maxHeartbeats 16000000
namespace Go.Proofs.YtgoojkiccdjplaaGreatDoor.modelSums
open Go.ChangeShapes Go.WideShapes Go.ChangeAt Go.RowKit
open Go.ChangeMaps (open_string shut_string)
set_option linter.unusedVariables false
theorem proved:Rows.ModelSumsCardSaid:=
 Claim7.holds_tied_plain_at .later [] [.data,.data,.data,.data,.listed,.data,.pinned,.pinned,.pinned,.pinned,.pinned,.pinned] true (true,"cdbd315eca063f9b58677fad9a348864165e43bf681ee324329fc1d73e041152") false
  over (fun _ h=>by cases h) (by as_aux_lemma=>kernel_rfl) (fun _ h=>by cases h) modelSums_row_tie rfl ⟨rfl,rfl⟩ (by as_aux_lemma=>kernel_rfl) rfl
  (fun f fn hf hfn=>by
   obtain rfl:f=8:=Option.some.inj ((show Tryz.prog.funcNamed "theodolite/theodolitelaw10.ModelSums" = some 8 by kernel_rfl).symm.trans hf) |>.symm
   obtain rfl:fn=Tryz.f8:=(Option.some.inj (Tryz.func8.symm.trans hfn)).symm;exact⟨by kernel_rfl,fun j t ht=>by
    rw [Tryz.params8] at ht;have hm:t∈Tryz.f8.params.toList:=by rw [Tryz.params8];exact List.mem_of_getElem? (by simpa using ht)
    have:=List.all_eq_true.1 (show(Tryz.f8.params.toList.all fun t=>!Tryz.prog.wantsStandIn t)=true by kernel_rfl) t hm;exact(by simpa using this:Tryz.prog.wantsStandIn t=false)⟩)
  (by as_aux_lemma=>kernel_rfl)
#print axioms proved
end Go.Proofs.YtgoojkiccdjplaaGreatDoor.modelSums
