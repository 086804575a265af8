/-
  Points: the plain law: sums, bounds, the points of a box.
-/
import Derived.Test.YtllnemgkfdgljaaLqA
set_option linter.unusedSectionVars false
set_option linter.unusedSimpArgs false
set_option linter.unusedVariables false
namespace Go.DN
open Go.AM
set_option linter.unusedVariables false
structure Good (p : SPoints) : Prop where
 len : p.Box.length ≤ 4
 box : ∀ x ∈ p.Box, 0 ≤ x ∧ x ≤ 4096
 prod : prodL 1 p.Box ≤ 4096
 rows : p.Rows.length ≤ 8
 row : ∀ r ∈ p.Rows, r.Coef.length = p.Box.length ∧ (-1048576 ≤ r.Const ∧ r.Const ≤ 1048576) ∧ ∀ c ∈ r.Coef, -1048576 ≤ c ∧ c ≤ 1048576
theorem rowsW_zero {v : Int} : ∀ {l : List SRow}, rowsW v l = 0 → ∀ r ∈ l, rowW r v = 0
  | [], _, _, h => by cases h
  | x :: l, e, r, h => by
    simp only [rowsW] at e
    split at e
    · contradiction
    · rename_i h1
      rcases List.mem_cons.1 h with rfl | h
      · simpa using h1
      · exact rowsW_zero e r h
theorem badC_ran {c : Int} (h : badC c = false) : -1048576 ≤ c ∧ c ≤ 1048576 := by
 simp [badC] at h; omega
theorem good_of {p : SPoints} (h : wrongP p = 0) : Good p := by
  unfold wrongP at h
  split at h
  · cases h
  · split at h
    · cases h
    · split at h
      · cases h
      · split at h
        · cases h
        · rename_i h1 h2 h3 h4
          refine ⟨by omega, fun x hx => ?_, by omega, by omega, fun r hr => ?_⟩
          · have := List.any_eq_false.1 (by simpa using h2) x hx
            simp [badB] at this
            omega
          · have := rowsW_zero h r hr
            unfold rowW at this
            split at this
            · cases this
            · split at this
              · cases this
              · rename_i h5 h6
                rw [Bool.not_eq_true, Bool.or_eq_false_iff] at h6
                refine ⟨by omega, badC_ran h6.1, fun c hc => badC_ran ?_⟩
                have := List.any_eq_false.1 h6.2 c hc
                simpa using this
def sumT (t : Nat → Int) : Nat → Int
 | 0 => 0
 | n + 1 => sumT t n + t n
theorem sumT_ran {t : Nat → Int} : ∀ {n : Nat}, (∀ i, i < n → -4294967296 ≤ t i ∧ t i ≤ 4294967296) → -(4294967296 * (n : Int)) ≤ sumT t n ∧ sumT t n ≤ 4294967296 * (n : Int)
 | 0, _ => by simp [sumT]
 | n + 1, h => by
  have h1 := sumT_ran (n := n) fun i hi => h i (by omega)
  have h2 := h n (by omega)
  simp only [sumT]
  omega
theorem sum_loop (body : Int × Int → Option (Int × Int ⊕ Int)) (t : Nat → Int) (N : Nat) (c : Int) (hN : N ≤ 4) (hc : -1048576 ≤ c ∧ c ≤ 1048576) (ht : ∀ k, k < N → -4294967296 ≤ t k ∧ t k ≤ 4294967296)
  (hstep : ∀ (k : Nat) (n : Int), k < N → -1125899906842624 ≤ n → n ≤ 1125899906842624 → body (n, (k : Int)) = some (.inl (n + t k, ((k + 1 : Nat) : Int)))) (hend : ∀ n, body (n, (N : Int)) = some (.inr n)) (fu : Nat) (hf : 10 < fu) :
  loopF body fu (c, 0) = some (c + sumT t N) := by
 have key : ∀ (m k fuel : Nat), k + m = N → m < fuel → loopF body fuel (c + sumT t k, (k : Int)) = some (c + sumT t N) := by
  intro m
  induction m with
  | zero =>
   intro k fuel h1 h2
   obtain ⟨fuel, rfl⟩ : ∃ f, fuel = f + 1 := ⟨fuel - 1, by omega⟩
   have : k = N := by omega
   subst this
   simp only [loopF, hend]
  | succ m ih =>
   intro k fuel h1 h2
   obtain ⟨fuel, rfl⟩ : ∃ f, fuel = f + 1 := ⟨fuel - 1, by omega⟩
   have h3 := sumT_ran (n := k) fun i hi => ht i (by omega)
   simp only [loopF, hstep k (c + sumT t k) (by omega) (by omega) (by omega)]
   rw [show c + sumT t k + t k = c + sumT t (k + 1) by simp only [sumT]; omega]
   exact ih (k + 1) fuel (by omega) (by omega)
 have := key N 0 fu (by omega) (by omega)
 simpa [sumT] using this
theorem mul_ran2 {c x : Int} (hc : -1048576 ≤ c ∧ c ≤ 1048576) (hx : -4096 ≤ x ∧ x ≤ 4096) : -4294967296 ≤ c * x ∧ c * x ≤ 4294967296 := by
 have h1 : c.natAbs ≤ 1048576 := by omega
 have h2 : x.natAbs ≤ 4096 := by omega
 have h3 := Nat.mul_le_mul h1 h2
 rw [← Int.natAbs_mul] at h3
 omega
def atV (r : SRow) (x : List Int) : Int := r.Const + sumT (fun i => r.Coef.getD i 0 * x.getD i 0) r.Coef.length
theorem getD_of {l : List Int} {i : Nat} (h : i < l.length) : l[i]? = some (l.getD i 0) := by
 rw [List.getD_eq_getElem?_getD, List.getElem?_eq_getElem h]; rfl
theorem getD_mem {l : List Int} {i : Nat} (h : i < l.length) : l.getD i 0 ∈ l := List.mem_of_getElem? (getD_of h)
def Ran (x : List Int) : Prop := ∀ y ∈ x, 0 ≤ y ∧ y ≤ 4096
theorem at_terms {p : SPoints} (g : Good p) {r : SRow} (hr : r ∈ p.Rows) {x : List Int} (hx : Ran x) (hl : x.length = p.Box.length) : ∀ k, k < r.Coef.length → -4294967296 ≤ r.Coef.getD k 0 * x.getD k 0 ∧ r.Coef.getD k 0 * x.getD k 0 ≤ 4294967296 := fun k hk => by
 have h1 := (g.row r hr).2.2 _ (getD_mem hk)
 have h2 := hx _ (getD_mem (l := x) (i := k) (by rw [hl, ← (g.row r hr).1]; exact hk))
 exact mul_ran2 h1 ⟨by omega, by omega⟩
theorem refAt_ok (fu : Nat) {p : SPoints} (g : Good p) {r : SRow} (hr : r ∈ p.Rows) {x : List Int} (hx : Ran x) (hl : x.length = p.Box.length) (hf : 10 < fu) : F.adjointref9_At fu r x = some (atV r x) := by
 have hlen := (g.row r hr).1
 have h4 := g.len
 have := sum_loop (F.adjointref9_At_l1 fu r x) (fun i => r.Coef.getD i 0 * x.getD i 0) r.Coef.length r.Const (by omega) (g.row r hr).2.1 (at_terms g hr hx hl)
  (fun k n hk h0 h1 => by
   have ht := at_terms g hr hx hl k hk
   have hw : IntKind.i64.wrap ((k : Int) + 1) = ((k + 1 : Nat) : Int) := wrap_succ hk (by omega)
   have hd : decide ((k : Int) < (r.Coef.length : Int)) = true := by simp; omega
   simp only [F.adjointref9_At_l1, hd, cond_true, idx_nat (getD_of hk), idx_nat (getD_of (l := x) (i := k) (by omega)), Option.bind_some, hw]
   rw [i64 (n := r.Coef.getD k 0 * x.getD k 0) (by omega) (by omega), i64 (by omega) (by omega)])
  (fun n => by simp only [F.adjointref9_At_l1, dec_end, cond_false]) fu hf
 simp only [F.adjointref9_At, this, Option.bind_some]
 rfl
def ext : List Int → List Int → List (List Int)
 | [], pre => [pre]
 | n :: r, pre => (List.range n.toNat).flatMap fun (i : Nat) => ext r (pre ++ [(i : Int)])
def InB : List Int → List Int → Prop
 | [], [] => True
 | n :: r, i :: t => 0 ≤ i ∧ i < n ∧ InB r t
 | _, _ => False
theorem mem_ext : ∀ {r pre q : List Int}, q ∈ ext r pre ↔ ∃ t, q = pre ++ t ∧ InB r t
  | [], pre, q => by
    simp only [ext, List.mem_singleton]
    constructor
    · rintro rfl; exact ⟨[], by simp, trivial⟩
    · rintro ⟨t, rfl, h⟩
      cases t with
      | nil => simp
      | cons _ _ => exact h.elim
  | n :: r, pre, q => by
    simp only [ext, List.mem_flatMap, List.mem_range]
    constructor
    · rintro ⟨i, hi, h⟩
      obtain ⟨t, rfl, ht⟩ := mem_ext.1 h
      exact ⟨(i : Int) :: t, by simp, by omega, by omega, ht⟩
    · rintro ⟨t, rfl, h⟩
      cases t with
      | nil => exact h.elim
      | cons i t =>
        obtain ⟨h1, h2, h3⟩ := h
        refine ⟨i.toNat, by omega, mem_ext.2 ⟨t, ?_, h3⟩⟩
        rw [Int.toNat_of_nonneg h1]
        simp
theorem InB.len : ∀ {r t : List Int}, InB r t → t.length = r.length
 | [], [], _ => rfl
 | _ :: r, _ :: t, h => by simp only [List.length_cons, h.2.2.len]
 | [], _ :: _, h => h.elim
 | _ :: _, [], h => h.elim
theorem InB.at : ∀ {r t : List Int}, InB r t → ∀ i, i < r.length → 0 ≤ t.getD i 0 ∧ t.getD i 0 < r.getD i 0
 | _ :: r, _ :: t, h, 0, _ => ⟨h.1, h.2.1⟩
 | _ :: r, _ :: t, h, i + 1, hi => by
  have := h.2.2.at i (by simpa using hi)
  simpa using this
 | [], _, _, _, hi => by simp at hi
 | _ :: _, [], h, _, _ => h.elim
theorem InB.of : ∀ {r t : List Int}, t.length = r.length → (∀ i, i < r.length → 0 ≤ t.getD i 0 ∧ t.getD i 0 < r.getD i 0) → InB r t
 | [], [], _, _ => trivial
 | n :: r, i :: t, hl, h => by
  refine ⟨(h 0 (by simp)).1, (h 0 (by simp)).2, InB.of (by simpa using hl) fun j hj => ?_⟩
  have := h (j + 1) (by simpa using hj)
  simpa using this
 | [], _ :: _, h, _ => by simp at h
 | _ :: _, [], h, _ => by simp at h
theorem ext_snoc : ∀ (r pre : List Int) (n : Int), ext (r ++ [n]) pre = (ext r pre).flatMap fun x => (List.range n.toNat).map fun (i : Nat) => x ++ [(i : Int)]
 | [], pre, n => by
  simp only [List.nil_append, ext, List.flatMap_singleton]
  induction List.range n.toNat with
  | nil => rfl
  | cons a l ih => simp [ih]
 | m :: r, pre, n => by
  simp only [List.cons_append, ext, List.flatMap_assoc]
  congr 1
  funext i
  exact ext_snoc r _ n
def sat (p : SPoints) (q : List Int) : Bool := p.Rows.all fun r => decide (0 ≤ atV r q)
def pts (p : SPoints) : List (List Int) := (ext p.Box []).filter (sat p)
end Go.DN
