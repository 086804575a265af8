/-
  What the arguments are known to be.
-/
import Derived.Test.YtmhbeopldeccmaaDoorTrS
set_option maxRecDepth 20000
set_option linter.unusedVariables false
set_option linter.unusedSimpArgs false
namespace Go.DN
open Go.AM
noncomputable instance:aO iu:=(lX S0 (.st 0):aO (S0.D (.st 0)))
noncomputable instance:aO eT:=(lX S0 (.st 1):aO (S0.D (.st 1)))
noncomputable instance:aO ai:=(lX S0 (.st 2):aO (S0.D (.st 2)))
noncomputable instance:aO bB:=(lX S0 (.st 3):aO (S0.D (.st 3)))
end Go.DN
