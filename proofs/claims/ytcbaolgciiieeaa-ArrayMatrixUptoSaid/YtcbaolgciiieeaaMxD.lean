/-
  Arrays: the plain law of matrices: products in either way; turned products.
-/
import Derived.Test.YtcbaolgciiieeaaMxC
set_option linter.unusedSectionVars false
set_option linter.unusedSimpArgs false
set_option linter.unusedVariables false
set_option maxRecDepth 20000
namespace Go.DN.Pl
open Go.AM Go.PL
def sumN : Nat → (Nat → Int) → Int
 | 0, _ => 0
 | k + 1, g => sumN k g + g k
theorem sumN_ext {g h : Nat → Int} : ∀ {k : Nat}, (∀ l, l < k → g l = h l) → sumN k g = sumN k h
 | 0, _ => rfl
 | k + 1, e => by rw [sumN, sumN, sumN_ext fun l hl => e l (by omega), e k (by omega)]
theorem sumN_add (g h : Nat → Int) : ∀ k : Nat, sumN k (fun l => g l + h l) = sumN k g + sumN k h
 | 0 => rfl
 | k + 1 => by rw [sumN, sumN, sumN, sumN_add g h k]; omega
theorem sumN_zero : ∀ k : Nat, sumN k (fun _ => 0) = 0
 | 0 => rfl
 | k + 1 => by rw [sumN, sumN_zero k]; rfl
theorem sumN_mul (g : Nat → Int) (c : Int) : ∀ k : Nat, sumN k g * c = sumN k fun l => g l * c
 | 0 => by rw [sumN, sumN, Int.zero_mul]
 | k + 1 => by rw [sumN, sumN, Int.add_mul, sumN_mul g c k]
theorem sumN_swap (g : Nat → Nat → Int) (n : Nat) : ∀ k : Nat, sumN k (fun l => sumN n fun q => g l q) = sumN n fun q => sumN k fun l => g l q
 | 0 => (sumN_zero n).symm
 | k + 1 => by
  rw [sumN, sumN_swap g n k, ← sumN_add]
  rfl
theorem wrap_sum {g h : Nat → Int} : ∀ {k : Nat}, (∀ l, l < k → IntKind.i64.wrap (g l) = IntKind.i64.wrap (h l)) → IntKind.i64.wrap (sumN k g) = IntKind.i64.wrap (sumN k h)
 | 0, _ => rfl
 | k + 1, e => by
  have i := wrap_sum (k := k) fun l hl => e l (by omega)
  have i2 := e k (by omega)
  rw [sumN, sumN, ← wadd_l, ← wadd_r, i, i2, wadd_r, wadd_l]
theorem dotF_sum (a b : Nat → Int) : ∀ k : Nat, dotF k a b = IntKind.i64.wrap (sumN k fun l => a l * b l)
 | 0 => by
  show (0 : Int) = IntKind.i64.wrap 0
  rw [i64 (by omega) (by omega)]
 | k + 1 => by rw [dotF_succ, dotF_sum a b k, wadd_l, wadd_r]; rfl
theorem dotF_comm (a b : Nat → Int) (k : Nat) : dotF k a b = dotF k b a := by
 rw [dotF_sum, dotF_sum]
 congr 1
 exact sumN_ext fun l _ => Int.mul_comm _ _
theorem dotF_assoc (k n : Nat) (a : Nat → Int) (b : Nat → Nat → Int) (c : Nat → Int) : dotF n (fun q => dotF k a fun l => b l q) c = dotF k a fun l => dotF n (b l) c := by
 rw [dotF_sum, dotF_sum]
 have h1 : IntKind.i64.wrap (sumN n fun q => dotF k a (fun l => b l q) * c q) = IntKind.i64.wrap (sumN n fun q => sumN k fun l => a l * b l q * c q) := wrap_sum fun q _ => by
  rw [dotF_sum, wmul_l, sumN_mul]
 have h2 : IntKind.i64.wrap (sumN k fun l => a l * dotF n (b l) c) = IntKind.i64.wrap (sumN k fun l => sumN n fun q => a l * b l q * c q) := wrap_sum fun l _ => by
  rw [dotF_sum, wmul_r, Int.mul_comm, sumN_mul]
  congr 1
  exact sumN_ext fun q _ => by rw [Int.mul_comm, Int.mul_assoc]
 rw [h1, h2, sumN_swap (fun l q => a l * b l q * c q) n k]
theorem alive_ok (fu : Nat) (hf : 4000000 < fu) : F.adjointlaw2_alive fu = some true := by
 have h1 : wrongA ⟨[], [2]⟩ = 0 := by decide
 have h2 : wrongA ⟨[], [3]⟩ = 0 := by decide
 unfold F.adjointlaw2_alive
 rw [do_pair fu 3 ⟨[], [2]⟩ ⟨[], [3]⟩ (by omega) h1 h2 rfl hf]
 rfl
theorem same_mat (fu : Nat) {m n : Nat} (f : Nat → Nat → Int) (h : (sizeS (d2 m n)).2 = 0) (hf : 4000000 < fu) : F.adjointref2_SameArray fu (mat m n f) (mat m n f) = some true := by
 obtain ⟨_, _, h3, _⟩ := size2 h
 exact sameArr_self fu (mat m n f) (by show (d2 m n).length ≤ _; simp [d2]) (by show (mk m n f).length ≤ _; rw [mk_len]; omega) hf
theorem mat_ext {m n : Nat} {f g : Nat → Nat → Int} (h : ∀ i j, i < m → j < n → f i j = g i j) : mat m n f = mat m n g := by
 unfold mat; rw [mk_ext h]
theorem matrix_ok (fu : Nat) (a b c : SArray) (ha : okArr a) (hb : okArr b) (hc : okArr c) (hf : 4000000 < fu) : F.adjointlaw2_ArrayMatrix fu a b c = some true := by
  have ha1 := ha.1
  have hb1 := hb.1
  have hc1 := hc.1
  unfold F.adjointlaw2_ArrayMatrix
  rw [alive_ok fu hf]
  simp only [Option.bind_some, Bool.not_true, cond_false, cc]
  cases hd : ((a.Dims.length : Int) != 2 || ((b.Dims.length : Int) != 2 || (c.Dims.length : Int) != 2)) with
  | true => rfl
  | false =>
    simp only [Bool.or_eq_false_iff, bne_eq_false_iff_eq] at hd
    obtain ⟨da, db, dc⟩ := hd
    simp only [cond_false]
    by_cases hw : wrongA a ≠ 0 ∨ wrongA b ≠ 0
    · obtain ⟨x, hx⟩ := times_wrong fu a b (by omega) (by omega) hw hf
      rw [hx]; rfl
    · have wa : wrongA a = 0 := Classical.byContradiction fun h => hw (.inl h)
      have wb : wrongA b = 0 := Classical.byContradiction fun h => hw (.inr h)
      obtain ⟨m, k, A, sa, ea⟩ := mat_of wa (by omega)
      obtain ⟨k', n, B, sb, eb⟩ := mat_of wb (by omega)
      subst ea; subst eb
      rcases times_mat fu A B sa sb hf with ⟨hk, sab, hab⟩ | ⟨_, x, hx⟩
      · subst hk
        have hT : F.adjointlaw2_times fu (mat n k fun j i => B i j) (mat k m fun j i => A i j) = some (mat n m fun j i => dotF k (A i) (fun l => B l j), true) := by
          rcases times_mat fu (fun j i => B i j) (fun j i => A i j) (size2_swap sb) (size2_swap sa) hf with ⟨_, _, h⟩ | ⟨h, _⟩
          · rw [h]
            have e : (mat n m fun j i => dotF k (fun l => B l j) (fun l => A i l)) = mat n m fun j i => dotF k (A i) (fun l => B l j) := mat_ext fun j i _ _ => dotF_comm _ _ _
            exact congrArg (fun x => some (x, true)) e
          · rcases h with h | h
            · exact absurd rfl h
            · exact absurd (size2_swap sab) h
        have o1 := turnOp_ok fu A sa hf
        have o2 := turnOp_ok fu B sb hf
        have o3 := turnOp_ok fu (fun i j => dotF k (A i) (fun l => B l j)) sab hf
        have q1 := same_mat fu (fun j i => dotF k (A i) (fun l => B l j)) (size2_swap sab) hf
        have eo : (⟨11, ([] : List Int), [1, 0], ([] : List Int), ([] : List Int), ([] : List Int), 0⟩ : SOp) = turnOp := rfl
        simp only [hab, Option.bind_some, Bool.not_true, cond_false, eo, o1, o2, hT, o3, q1]
        by_cases wc : wrongA c = 0
        · obtain ⟨n', r, C, sc, ec⟩ := mat_of wc (by omega)
          subst ec
          rcases times_mat fu B C sb sc hf with ⟨hn, sbc, hbc⟩ | ⟨_, x, hx⟩
          · subst hn
            simp only [hbc, Option.bind_some, Bool.not_true, cond_false]
            rcases times_mat fu (fun i j => dotF k (A i) (fun l => B l j)) C sab sc hf with ⟨_, sx, hx⟩ | ⟨h, x, hx⟩
            · rcases times_mat fu A (fun l j => dotF n (B l) (fun q => C q j)) sa sbc hf with ⟨_, _, hy⟩ | ⟨h, _⟩
              · have e : (mat m r fun i j => dotF n (fun q => dotF k (A i) fun l => B l q) fun q => C q j) = mat m r fun i j => dotF k (A i) fun l => dotF n (B l) fun q => C q j := mat_ext fun i j _ _ => dotF_assoc k n (A i) B fun q => C q j
                rw [e] at hx
                simp only [hx, hy, Option.bind_some, beq_self_eq_true, cond_true, Bool.not_true, cond_false, same_mat fu (fun i j => dotF k (A i) fun l => dotF n (B l) fun q => C q j) sx hf]
              · rcases h with h | h
                · exact absurd rfl h
                · exact absurd sx h
            · rcases times_mat fu A (fun l j => dotF n (B l) (fun q => C q j)) sa sbc hf with ⟨_, sy, hy⟩ | ⟨_, y, hy⟩
              · rcases h with h | h
                · exact absurd rfl h
                · exact absurd sy h
              · simp only [hx, hy, Option.bind_some, beq_self_eq_true, cond_true, Bool.not_false]
          · simp only [hx, Option.bind_some, Bool.not_false, cond_true]
        · obtain ⟨x, hx⟩ := times_wrong fu (mat k n B) c (by omega) (by omega) (.inr wc) hf
          simp only [hx, Option.bind_some, Bool.not_false, cond_true]
      · rw [hx]; rfl
end Go.DN.Pl
