/-
  Numbers of 64 bits; lists in rows; sums (as in XRgA, XMxA, XMxC, XMxD).
-/
import Derived.Test.YtcbaolgciiieeaaGreatAeE
set_option linter.unusedSectionVars false
set_option linter.unusedSimpArgs false
set_option linter.unusedVariables false
set_option maxRecDepth 20000
namespace Go.DN.Pl
open Go.AM Go.PL
theorem wrap_ex (n : Int) : ∃ k, IntKind.i64.wrap n = n + 18446744073709551616 * k := by
 rw [IntKind.wrap_i64]
 exact ⟨-((n + 9223372036854775808) / 18446744073709551616), by omega⟩
theorem wrap_con {m n k : Int} (h : m = n + 18446744073709551616 * k) : IntKind.i64.wrap m = IntKind.i64.wrap n := by
 rw [IntKind.wrap_i64, IntKind.wrap_i64]; omega
theorem wadd_l (x y : Int) : IntKind.i64.wrap (IntKind.i64.wrap x + y) = IntKind.i64.wrap (x + y) := by
 obtain ⟨k, h⟩ := wrap_ex x
 rw [h]
 exact wrap_con (k := k) (by omega)
theorem wadd_r (x y : Int) : IntKind.i64.wrap (x + IntKind.i64.wrap y) = IntKind.i64.wrap (x + y) := by
 rw [Int.add_comm, wadd_l, Int.add_comm]
theorem wmul_l (x y : Int) : IntKind.i64.wrap (IntKind.i64.wrap x * y) = IntKind.i64.wrap (x * y) := by
 obtain ⟨k, h⟩ := wrap_ex x
 rw [h]
 exact wrap_con (k := k * y) (by rw [Int.add_mul, Int.mul_assoc])
theorem wmul_r (x y : Int) : IntKind.i64.wrap (x * IntKind.i64.wrap y) = IntKind.i64.wrap (x * y) := by
 rw [Int.mul_comm, wmul_l, Int.mul_comm]
def mk (m n : Nat) (f : Nat → Nat → Int) : List Int := (List.range (m * n)).map fun p => f (p / n) (p % n)
theorem mk_len (m n : Nat) (f : Nat → Nat → Int) : (mk m n f).length = m * n := by unfold mk; simp
theorem row_lt {m n i j : Nat} (hi : i < m) (hj : j < n) : i * n + j < m * n := by
 have : (i + 1) * n ≤ m * n := Nat.mul_le_mul_right n hi
 rw [Nat.add_mul, Nat.one_mul] at this
 omega
theorem row_div {n i j : Nat} (hj : j < n) : (i * n + j) / n = i ∧ (i * n + j) % n = j := by
 have h0 : 0 < n := by omega
 refine ⟨?_, ?_⟩
 · rw [Nat.mul_comm, Nat.mul_add_div h0, Nat.div_eq_of_lt hj, Nat.add_zero]
 · rw [Nat.mul_comm, Nat.mul_add_mod, Nat.mod_eq_of_lt hj]
theorem mk_get {m n : Nat} {f : Nat → Nat → Int} {i j : Nat} (hi : i < m) (hj : j < n) : (mk m n f)[i * n + j]? = some (f i j) := by
 have h := row_lt hi hj
 obtain ⟨h1, h2⟩ := row_div (i := i) hj
 unfold mk
 rw [List.getElem?_map, List.getElem?_range h]
 simp only [Option.map_some, h1, h2]
theorem mk_ext {m n : Nat} {f g : Nat → Nat → Int} (h : ∀ i j, i < m → j < n → f i j = g i j) : mk m n f = mk m n g := by
 unfold mk
 apply List.map_congr_left
 intro p hp
 have hp := List.mem_range.1 hp
 have hn : 0 < n := by
  rcases Nat.eq_zero_or_pos n with h0 | h0
  · rw [h0, Nat.mul_zero] at hp; omega
  · exact h0
 exact h _ _ (Nat.div_lt_of_lt_mul (by rw [Nat.mul_comm]; exact hp)) (Nat.mod_lt _ hn)
def dotF (k : Nat) (a b : Nat → Int) : Int := (List.range k).foldl (fun s l => IntKind.i64.wrap (s + IntKind.i64.wrap (a l * b l))) 0
theorem dotF_succ (k : Nat) (a b : Nat → Int) : dotF (k + 1) a b = IntKind.i64.wrap (dotF k a b + IntKind.i64.wrap (a k * b k)) := by
 unfold dotF; rw [List.range_succ, List.foldl_append]; rfl
def sumN : Nat → (Nat → Int) → Int
 | 0, _ => 0
 | k + 1, g => sumN k g + g k
theorem sumN_ext {g h : Nat → Int} : ∀ {k : Nat}, (∀ l, l < k → g l = h l) → sumN k g = sumN k h
 | 0, _ => rfl
 | k + 1, e => by rw [sumN, sumN, sumN_ext fun l hl => e l (by omega), e k (by omega)]
theorem sumN_add (g h : Nat → Int) : ∀ k : Nat, sumN k (fun l => g l + h l) = sumN k g + sumN k h
 | 0 => rfl
 | k + 1 => by rw [sumN, sumN, sumN, sumN_add g h k]; omega
theorem sumN_zero : ∀ k : Nat, sumN k (fun _ => 0) = 0
 | 0 => rfl
 | k + 1 => by rw [sumN, sumN_zero k]; rfl
theorem sumN_mul (g : Nat → Int) (c : Int) : ∀ k : Nat, sumN k g * c = sumN k fun l => g l * c
 | 0 => by rw [sumN, sumN, Int.zero_mul]
 | k + 1 => by rw [sumN, sumN, Int.add_mul, sumN_mul g c k]
theorem sumN_swap (g : Nat → Nat → Int) (n : Nat) : ∀ k : Nat, sumN k (fun l => sumN n fun q => g l q) = sumN n fun q => sumN k fun l => g l q
 | 0 => (sumN_zero n).symm
 | k + 1 => by
  rw [sumN, sumN_swap g n k, ← sumN_add]
  rfl
theorem wrap_sum {g h : Nat → Int} : ∀ {k : Nat}, (∀ l, l < k → IntKind.i64.wrap (g l) = IntKind.i64.wrap (h l)) → IntKind.i64.wrap (sumN k g) = IntKind.i64.wrap (sumN k h)
 | 0, _ => rfl
 | k + 1, e => by
  have i := wrap_sum (k := k) fun l hl => e l (by omega)
  have i2 := e k (by omega)
  rw [sumN, sumN, ← wadd_l, ← wadd_r, i, i2, wadd_r, wadd_l]
theorem dotF_sum (a b : Nat → Int) : ∀ k : Nat, dotF k a b = IntKind.i64.wrap (sumN k fun l => a l * b l)
 | 0 => by
  show (0 : Int) = IntKind.i64.wrap 0
  rw [i64 (by omega) (by omega)]
 | k + 1 => by rw [dotF_succ, dotF_sum a b k, wadd_l, wadd_r]; rfl
end Go.DN.Pl
