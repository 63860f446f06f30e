/-
  Parts of this claim's texts, one behind the other: VC. No condition.
-/
import Derived.Test.YtgoojkiccdjplaaGreatDoorL39
import Derived.WideKeyEntry
set_option linter.unusedVariables false
set_option linter.unusedSimpArgs false
set_option maxRecDepth 100000
set_option maxHeartbeats 16000000

