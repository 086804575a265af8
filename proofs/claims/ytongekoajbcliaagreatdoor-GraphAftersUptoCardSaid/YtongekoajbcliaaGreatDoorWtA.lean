/-
  (Nothing of what operations weigh is asked here.)
-/
import Derived.Test.YtongekoajbcliaaGreatDoorAeE
set_option linter.all false
