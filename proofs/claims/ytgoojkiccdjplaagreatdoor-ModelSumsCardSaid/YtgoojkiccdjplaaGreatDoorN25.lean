/-
  Parts of this claim's texts, one behind the other: CF CG CH CK. No condition.
-/
import Derived.Test.YtgoojkiccdjplaaGreatDoorN24
import Derived.Test.YtgoojkiccdjplaaGreatDoorN3
import Derived.Lib.ItoaMem
set_option linter.unusedVariables false
set_option linter.unusedSimpArgs false
set_option maxRecDepth 100000
set_option maxHeartbeats 16000000

