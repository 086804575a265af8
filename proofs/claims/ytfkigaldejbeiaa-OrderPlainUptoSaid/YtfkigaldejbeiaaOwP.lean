/-
  Orders: the plain law of OrderPlain.
-/
import Derived.Test.YtfkigaldejbeiaaFnP
import Derived.Test.YtfkigaldejbeiaaOwE
set_option linter.unusedSimpArgs false
set_option linter.unusedVariables false
namespace Go.DN
open Go.AM Go.Proofs.Ytfkigaldejbeiaa.Up
theorem FC (n:aM) (mem:List (List Int)) (mix:List Int) (h:JB n) (h1:vE (vE y8) mem) (h2:vE y8 mix):∃fu,F.iW fu n mem mix=some true:=
 ⟨70000000000,So.Hj n mem mix h.1.1 (cB h.2.1 (by omega)) fun s hs=>cB (h.2.2 s hs).1.1.1 (by omega)⟩
end Go.DN
