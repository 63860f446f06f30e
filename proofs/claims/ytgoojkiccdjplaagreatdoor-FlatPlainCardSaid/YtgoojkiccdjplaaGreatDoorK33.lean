/-
  Parts of this claim's texts, one behind the other: UF UG UH UI UJ UK. No condition.
-/
import Derived.Test.YtgoojkiccdjplaaGreatDoorK32
set_option linter.unusedVariables false
set_option linter.unusedSimpArgs false
set_option maxRecDepth 100000
set_option maxHeartbeats 16000000
namespace Go.Proofs.YtgoojkiccdjplaaGreatDoor
open Go.RowKit Go.Sort Go.Lib
section
variable {w0 w w' : World} {p bt bm : Nat} {s : List Int}
end
theorem okI_0 : okI 0 := ⟨by decide, by decide⟩
theorem put_bdF {T : TermD} (h : TermG T) (s : Int) : okI (freshD T s).1.1 := by
  have := put_bdU h.ok.sm (freshNode T s)
  unfold freshD
  split
  · split
    · unfold okI; dsimp only; omega
    · unfold okI; omega
  · exact okI_0
end Go.Proofs.YtgoojkiccdjplaaGreatDoor
