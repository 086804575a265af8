/-
  Points: the plain law of PointsLoops: the last number that counts; what bounds say.
-/
import Derived.Test.YtllnemgkfdgljaaLqC
import Derived.Test.YtllnemgkfdgljaaPlA
set_option linter.unusedSectionVars false
set_option linter.unusedSimpArgs false
set_option linter.unusedVariables false
namespace Go.DN
open Go.AM
def dot : List Int → List Int → Int
 | c :: cs, x :: xs => c * x + dot cs xs
 | _, _ => 0
theorem sumT_shift (t : Nat → Int) : ∀ n, sumT t (n + 1) = t 0 + sumT (fun i => t (i + 1)) n
 | 0 => by simp [sumT]
 | n + 1 => by
  have := sumT_shift t n
  show sumT t (n + 1) + t (n + 1) = t 0 + (sumT (fun i => t (i + 1)) n + t (n + 1))
  omega
theorem sumT_dot : ∀ (c x : List Int), c.length = x.length → sumT (fun i => c.getD i 0 * x.getD i 0) c.length = dot c x
 | [], [], _ => rfl
 | c :: cs, x :: xs, h => by
  rw [List.length_cons, sumT_shift]
  have := sumT_dot cs xs (by simpa using h)
  simp only [List.getD_cons_zero, List.getD_cons_succ, dot]
  omega
theorem dot_append : ∀ (a u b v : List Int), a.length = u.length → dot (a ++ b) (u ++ v) = dot a u + dot b v
 | [], [], b, v, _ => by simp [dot]
 | c :: a, x :: u, b, v, h => by
  have := dot_append a u b v (by simpa using h)
  simp only [List.cons_append, dot, this]
  omega
theorem dot_zeros : ∀ (c x : List Int), (∀ y ∈ c, y = 0) → dot c x = 0
 | [], _, _ => by simp [dot]
 | c :: cs, [], _ => by simp [dot]
 | c :: cs, x :: xs, h => by
  have h1 := h c List.mem_cons_self
  subst h1
  simp [dot, dot_zeros cs xs fun y hy => h y (List.mem_cons_of_mem _ hy)]
theorem dot_neg : ∀ (c x : List Int), dot (c.map fun y => -y) x = -dot c x
 | [], _ => by simp [dot]
 | c :: cs, [] => by simp [dot]
 | c :: cs, x :: xs => by
  simp only [List.map_cons, dot, dot_neg cs xs, Int.neg_mul]
  omega
theorem atV_dot {r : SRow} {x : List Int} (h : r.Coef.length = x.length) : atV r x = r.Const + dot r.Coef x := by
 unfold atV
 rw [sumT_dot _ _ h]
theorem cut {l : List Int} {k : Nat} (h : k < l.length) : l = l.take k ++ l.getD k 0 :: l.drop (k + 1) := by
 conv => lhs; rw [← List.take_append_drop k l, List.drop_eq_getElem_cons h]
 rw [List.getD_eq_getElem?_getD, List.getElem?_eq_getElem h]; rfl
def lastI : List Int → Int
 | [] => -1
 | a :: l => if 0 ≤ lastI l then lastI l + 1 else if a = 0 then -1 else 0
theorem lastI_none : ∀ {c : List Int}, (∀ x ∈ c, x = 0) → lastI c = -1
 | [], _ => rfl
 | a :: l, h => by
  have h1 := lastI_none fun x hx => h x (List.mem_cons_of_mem _ hx)
  have h2 := h a List.mem_cons_self
  simp [lastI, h1, h2]
theorem lastI_eq : ∀ {c : List Int} {k : Nat}, c.getD k 0 ≠ 0 → (∀ x ∈ c.drop (k + 1), x = 0) → lastI c = k
 | [], k, h, _ => by simp at h
 | a :: l, 0, h, h2 => by
  have h1 := lastI_none (c := l) (by simpa using h2)
  have h : a ≠ 0 := by simpa using h
  simp [lastI, h1, h]
 | a :: l, k + 1, h, h2 => by
  have h1 := lastI_eq (c := l) (k := k) (by simpa using h) (by simpa using h2)
  simp only [lastI, h1]
  rw [if_pos (by omega)]
  omega
theorem lastI_cases : ∀ c : List Int, (lastI c = -1 ∧ ∀ x ∈ c, x = 0) ∨ ∃ k : Nat, lastI c = k ∧ k < c.length ∧ c.getD k 0 ≠ 0 ∧ ∀ x ∈ c.drop (k + 1), x = 0
  | [] => .inl ⟨rfl, fun x hx => by cases hx⟩
  | a :: l => by
    rcases lastI_cases l with ⟨h1, h2⟩ | ⟨k, h1, h2, h3, h4⟩
    · by_cases h : a = 0
      · subst h
        refine .inl ⟨by simp [lastI, h1], fun x hx => ?_⟩
        rcases List.mem_cons.1 hx with rfl | hx
        · rfl
        · exact h2 x hx
      · exact .inr ⟨0, by simp [lastI, h1, h], by simp, by simpa using h, by simpa using h2⟩
    · refine .inr ⟨k + 1, ?_, by simpa using h2, by simpa using h3, by simpa using h4⟩
      simp only [lastI, h1]
      rw [if_pos (by omega)]
      omega
theorem lastI_lt (c : List Int) : lastI c < c.length := by
 rcases lastI_cases c with ⟨h, _⟩ | ⟨k, h, h2, _⟩ <;> omega
theorem last_loop (fu : Nat) (c : List Int) (hl : c.length ≤ 4) : ∀ (n fuel : Nat), n ≤ c.length → n < fuel → (∀ x ∈ c.drop n, x = 0) →
    loopF (F.slices_Backward_1_l1 fu c) fuel ((n : Int) - 1, 0, 0) = some (if lastI c < 0 then Ex.brk (0, 0) else Ex.ret (2, c, lastI c))
  | 0, fuel, _, hf, h => by
    obtain ⟨fuel, rfl⟩ : ∃ f, fuel = f + 1 := ⟨fuel - 1, by omega⟩
    have h1 := lastI_none (c := c) (by simpa using h)
    rw [h1, if_pos (by decide)]
    simp only [loopF, F.slices_Backward_1_l1]
    rfl
  | n + 1, fuel, hn, hf, h => by
    obtain ⟨fuel, rfl⟩ : ∃ f, fuel = f + 1 := ⟨fuel - 1, by omega⟩
    have e : ((n + 1 : Nat) : Int) - 1 = (n : Int) := by omega
    have hg : c[n]? = some (c.getD n 0) := getD_of (by omega)
    have d : decide ((n : Int) ≥ 0) = true := by simp
    have c0 : ∀ [Decidable ((0 : Int) = 0)], chk ((0 : Int) = 0) = some () := chk_pos rfl
    have c1 : ∀ [Decidable True], chk True = some () := chk_pos trivial
    have hw : IntKind.i64.wrap ((n : Int) - 1) = (n : Int) - 1 := i64 (by omega) (by omega)
    rw [e]
    simp only [loopF, F.slices_Backward_1_l1, d, cond_true, idx_nat hg, Option.bind_some, c0, F.points_last_y]
    by_cases hz : c.getD n 0 = 0
    · have b : (c.getD n 0 != 0) = false := by rw [hz]; rfl
      have b2 : ((0 : Int) == 0) = true := rfl
      simp only [b, cond_false, Option.bind_some, b2, cond_true, Bool.not_true, hw]
      refine last_loop fu c hl n fuel (by omega) (by omega) fun x hx => ?_
      rw [List.drop_eq_getElem_cons (by omega : n < c.length)] at hx
      rcases List.mem_cons.1 hx with rfl | hx
      · rw [List.getD_eq_getElem?_getD, List.getElem?_eq_getElem (by omega : n < c.length)] at hz
        exact hz
      · exact h x hx
    · have b : (c.getD n 0 != 0) = true := by simpa using hz
      have b2 : ((2 : Int) == 0) = false := rfl
      have hli := lastI_eq hz h
      simp only [b, cond_true, Option.bind_some, b2, cond_false, Bool.not_false, c0, c1]
      rw [hli, if_neg (by omega)]
theorem last_ok (fu : Nat) (r : SRow) (hl : r.Coef.length ≤ 4) (hf : 10 < fu) : F.points_last fu r = some (lastI r.Coef) := by
 have hw : IntKind.i64.wrap ((r.Coef.length : Int) - 1) = (r.Coef.length : Int) - 1 := i64 (by omega) (by omega)
 have h := last_loop fu r.Coef hl r.Coef.length fu (Nat.le_refl _) (by omega) (by simp)
 unfold F.points_last F.slices_Backward F.slices_Backward_1
 simp only [Option.bind_some, hw, h]
 rcases lastI_cases r.Coef with ⟨h1, _⟩ | ⟨k, h1, _⟩
 · rw [h1, if_pos (by decide)]; rfl
 · rw [h1, if_neg (by omega)]; rfl
theorem down_ok (fu : Nat) (n d : Int) (hd : 1 ≤ d) (hn : -1125899906842624 ≤ n ∧ n ≤ 1125899906842624) : F.adjointref9_Down fu n d = some (n / d) := by
  have c1 : ∀ [Decidable (d ≠ 0)], chk (d ≠ 0) = some () := chk_pos (by omega)
  have e := Int.mul_tdiv_add_tmod n d
  have hb : -1125899906842624 ≤ Int.tdiv n d ∧ Int.tdiv n d ≤ 1125899906842624 := by
    have h1 := Int.natAbs_tdiv n d
    have h2 := Nat.div_le_self n.natAbs d.natAbs
    have h3 : (Int.tdiv n d).natAbs ≤ n.natAbs := by rw [h1]; exact h2
    omega
  have w1 : IntKind.i64.wrap (Int.tdiv n d) = Int.tdiv n d := i64 (by omega) (by omega)
  have w2 : IntKind.i64.wrap (Int.tdiv n d - 1) = Int.tdiv n d - 1 := i64 (by omega) (by omega)
  unfold F.adjointref9_Down
  simp only [c1, Option.bind_some, w1, w2]
  by_cases h : Int.tmod n d < 0
  · have hn0 : n < 0 := by
      by_cases h0 : 0 ≤ n
      · have := Int.tmod_nonneg d h0; omega
      · omega
    have h2 : -d < Int.tmod n d := by
      have := Int.lt_tmod_of_pos n (show 0 < d by omega)
      omega
    have h3 : n / d = Int.tdiv n d - 1 := by
      refine ((Int.ediv_emod_unique (r := Int.tmod n d + d) (by omega)).2 ⟨?_, by omega, by omega⟩).1
      rw [Int.mul_sub, Int.mul_one]; omega
    simp only [h, decide_true, cond_true, Option.bind_some, h3]
  · have h2 := Int.tmod_lt_of_pos n (show 0 < d by omega)
    have h3 : n / d = Int.tdiv n d := by
      refine ((Int.ediv_emod_unique (r := Int.tmod n d) (by omega)).2 ⟨by omega, by omega, by omega⟩).1
    simp only [h, decide_false, cond_false, Option.bind_some, h3]
def low0 (k : Nat) : SBound := ⟨⟨List.replicate k 0, 0⟩, 1⟩
def high0 (k : Nat) (b : Int) : SBound := ⟨⟨List.replicate k 0, b - 1⟩, 1⟩
def lowB (k : Nat) (r : SRow) : Option SBound := if lastI r.Coef = k ∧ r.Coef.getD k 0 > 0 then some ⟨⟨(r.Coef.take k).map fun y => -y, -r.Const⟩, r.Coef.getD k 0⟩ else none
def highB (k : Nat) (r : SRow) : Option SBound :=
 if lastI r.Coef = k ∧ r.Coef.getD k 0 < 0 then some ⟨⟨r.Coef.take k, r.Const⟩, -(r.Coef.getD k 0)⟩ else if lastI r.Coef = -1 ∧ k = 0 ∧ r.Const < 0 then some ⟨⟨[], -1⟩, 1⟩ else none
def loopAt (p : SPoints) (i k : Nat) : SLoop := ⟨low0 k :: (p.Rows.take i).filterMap (lowB k), high0 k (p.Box.getD k 0) :: (p.Rows.take i).filterMap (highB k)⟩
def loopsAt (p : SPoints) (i : Nat) : List SLoop := (List.range p.Box.length).map (loopAt p i)
def lowV (x : List Int) (b : SBound) : Int := -((-(atV b.Row x)) / b.Div)
def highV (x : List Int) (b : SBound) : Int := atV b.Row x / b.Div
theorem atV_last {r : SRow} {k : Nat} (hl : lastI r.Coef = k) {x t : List Int} {n : Int} (hx : x.length = k) (hlen : r.Coef.length = (x ++ n :: t).length) : atV r (x ++ n :: t) = r.Const + dot (r.Coef.take k) x + r.Coef.getD k 0 * n := by
  rcases lastI_cases r.Coef with ⟨h, _⟩ | ⟨k', h1, h2, h3, h4⟩
  · omega
  · obtain rfl : k' = k := by omega
    rw [atV_dot hlen]
    conv => lhs; rw [cut h2]
    rw [dot_append _ _ _ _ (by rw [List.length_take]; omega)]
    simp only [dot]
    rw [dot_zeros _ _ h4]
    omega
theorem atV_none {r : SRow} (hl : lastI r.Coef = -1) {q : List Int} (hlen : r.Coef.length = q.length) : atV r q = r.Const := by
 rcases lastI_cases r.Coef with ⟨_, h⟩ | ⟨k', h1, _⟩
 · rw [atV_dot hlen, dot_zeros _ _ h]; omega
 · omega
theorem low_iff {r : SRow} {k : Nat} {b : SBound} (hb : lowB k r = some b) {x t : List Int} {n : Int} (hx : x.length = k) (hlen : r.Coef.length = (x ++ n :: t).length) : lowV x b ≤ n ↔ 0 ≤ atV r (x ++ n :: t) := by
  unfold lowB at hb
  split at hb
  · rename_i h
    cases hb
    have htl : (r.Coef.take k).length = x.length := by rw [List.length_take, hlen]; simp; omega
    have e : atV (⟨(r.Coef.take k).map fun y => -y, -r.Const⟩ : SRow) x = -(r.Const + dot (r.Coef.take k) x) := by
      rw [atV_dot (by show (List.map _ _).length = _; rw [List.length_map, htl])]
      show -r.Const + dot ((r.Coef.take k).map fun y => -y) x = _
      rw [dot_neg]; omega
    rw [atV_last h.1 hx hlen]
    unfold lowV
    dsimp only
    rw [e, Int.neg_neg]
    have h2 := @Int.le_ediv_iff_mul_le (-n) (r.Const + dot (r.Coef.take k) x) (r.Coef.getD k 0) (by omega)
    rw [Int.neg_mul, Int.mul_comm n] at h2
    constructor
    · intro h3
      have := h2.1 (by omega)
      omega
    · intro h3
      have := h2.2 (by omega)
      omega
  · cases hb
theorem high_iff {r : SRow} {k : Nat} {b : SBound} (hb : highB k r = some b) {x t : List Int} {n : Int} (hx : x.length = k) (hlen : r.Coef.length = (x ++ n :: t).length) (h0 : 0 ≤ n) : n ≤ highV x b ↔ 0 ≤ atV r (x ++ n :: t) := by
  unfold highB at hb
  split at hb
  · rename_i h
    cases hb
    have htl : (r.Coef.take k).length = x.length := by rw [List.length_take, hlen]; simp; omega
    have e : atV (⟨r.Coef.take k, r.Const⟩ : SRow) x = r.Const + dot (r.Coef.take k) x := atV_dot htl
    rw [atV_last h.1 hx hlen]
    unfold highV
    dsimp only
    rw [e]
    have h2 := @Int.le_ediv_iff_mul_le n (r.Const + dot (r.Coef.take k) x) (-(r.Coef.getD k 0)) (by omega)
    rw [Int.mul_neg, Int.mul_comm n] at h2
    constructor
    · intro h3
      have := h2.1 h3
      omega
    · intro h3
      exact h2.2 (by omega)
  · split at hb
    · rename_i h
      cases hb
      have hx0 : x = [] := List.eq_nil_of_length_eq_zero (by omega)
      rw [atV_none h.1 hlen]
      have e : highV x (⟨⟨[], -1⟩, 1⟩ : SBound) = -1 := by
        unfold highV
        rw [atV_dot (by rw [hx0])]
        rfl
      rw [e]
      constructor <;> intro <;> omega
    · cases hb
end Go.DN
