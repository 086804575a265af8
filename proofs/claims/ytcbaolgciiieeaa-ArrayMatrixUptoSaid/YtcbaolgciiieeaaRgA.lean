/-
  Arrays: the plain law of rings.
-/
import Derived.Test.YtcbaolgciiieeaaDoA
set_option linter.unusedSectionVars false
set_option linter.unusedSimpArgs false
set_option linter.unusedVariables false
set_option maxRecDepth 20000
namespace Go.DN.Pl
open Go.AM Go.PL
theorem wrap_ex (n : Int) : ∃ k, IntKind.i64.wrap n = n + 18446744073709551616 * k := by
 rw [IntKind.wrap_i64]
 exact ⟨-((n + 9223372036854775808) / 18446744073709551616), by omega⟩
theorem wrap_con {m n k : Int} (h : m = n + 18446744073709551616 * k) : IntKind.i64.wrap m = IntKind.i64.wrap n := by
 rw [IntKind.wrap_i64, IntKind.wrap_i64]; omega
theorem wadd_l (x y : Int) : IntKind.i64.wrap (IntKind.i64.wrap x + y) = IntKind.i64.wrap (x + y) := by
 obtain ⟨k, h⟩ := wrap_ex x
 rw [h]
 exact wrap_con (k := k) (by omega)
theorem wadd_r (x y : Int) : IntKind.i64.wrap (x + IntKind.i64.wrap y) = IntKind.i64.wrap (x + y) := by
 rw [Int.add_comm, wadd_l, Int.add_comm]
theorem wmul_l (x y : Int) : IntKind.i64.wrap (IntKind.i64.wrap x * y) = IntKind.i64.wrap (x * y) := by
 obtain ⟨k, h⟩ := wrap_ex x
 rw [h]
 exact wrap_con (k := k * y) (by rw [Int.add_mul, Int.mul_assoc])
theorem wmul_r (x y : Int) : IntKind.i64.wrap (x * IntKind.i64.wrap y) = IntKind.i64.wrap (x * y) := by
 rw [Int.mul_comm, wmul_l, Int.mul_comm]
section
variable {a b c : SArray} (hb : b.Data.length = a.Data.length) (hc : c.Data.length = a.Data.length)
include hb in
include hb hc in
include hb hc in
include hb in
end
def okArr (a : SArray) : Prop := a.Dims.length ≤ 1048576 ∧ a.Data.length ≤ 1048576 ∧ ∀ x ∈ a.Data, -9223372036854775808 ≤ x ∧ x ≤ 9223372036854775807
end Go.DN.Pl
