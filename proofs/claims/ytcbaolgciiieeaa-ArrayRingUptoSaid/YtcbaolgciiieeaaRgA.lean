/-
  Arrays: the plain law of rings.
-/
import Derived.Test.YtcbaolgciiieeaaDoA
set_option linter.unusedSectionVars false
set_option linter.unusedSimpArgs false
set_option linter.unusedVariables false
set_option maxRecDepth 20000
namespace Go.DN.Pl
open Go.AM Go.PL
theorem wrap_ex (n : Int) : ∃ k, IntKind.i64.wrap n = n + 18446744073709551616 * k := by
 rw [IntKind.wrap_i64]
 exact ⟨-((n + 9223372036854775808) / 18446744073709551616), by omega⟩
theorem wrap_con {m n k : Int} (h : m = n + 18446744073709551616 * k) : IntKind.i64.wrap m = IntKind.i64.wrap n := by
 rw [IntKind.wrap_i64, IntKind.wrap_i64]; omega
theorem wadd_l (x y : Int) : IntKind.i64.wrap (IntKind.i64.wrap x + y) = IntKind.i64.wrap (x + y) := by
 obtain ⟨k, h⟩ := wrap_ex x
 rw [h]
 exact wrap_con (k := k) (by omega)
theorem wadd_r (x y : Int) : IntKind.i64.wrap (x + IntKind.i64.wrap y) = IntKind.i64.wrap (x + y) := by
 rw [Int.add_comm, wadd_l, Int.add_comm]
theorem wmul_l (x y : Int) : IntKind.i64.wrap (IntKind.i64.wrap x * y) = IntKind.i64.wrap (x * y) := by
 obtain ⟨k, h⟩ := wrap_ex x
 rw [h]
 exact wrap_con (k := k * y) (by rw [Int.add_mul, Int.mul_assoc])
theorem wmul_r (x y : Int) : IntKind.i64.wrap (x * IntKind.i64.wrap y) = IntKind.i64.wrap (x * y) := by
 rw [Int.mul_comm, wmul_l, Int.mul_comm]
theorem zip_ext {f g : Int → Int → Int} {a b c d : List Int} (h1 : (List.zipWith f a b).length = (List.zipWith g c d).length)
    (h : ∀ (i : Nat) x y u v, a[i]? = some x → b[i]? = some y → c[i]? = some u → d[i]? = some v → f x y = g u v) : List.zipWith f a b = List.zipWith g c d := by
  apply List.ext_getElem? 
  intro i
  by_cases hi : i < (List.zipWith f a b).length
  · have hj : i < (List.zipWith g c d).length := h1 ▸ hi
    rw [List.length_zipWith] at hi hj
    have ha := List.getElem?_eq_getElem (show i < a.length by omega)
    have hb := List.getElem?_eq_getElem (show i < b.length by omega)
    have hc := List.getElem?_eq_getElem (show i < c.length by omega)
    have hd := List.getElem?_eq_getElem (show i < d.length by omega)
    rw [List.getElem?_zipWith, List.getElem?_zipWith, ha, hb, hc, hd]
    exact congrArg some (h i _ _ _ _ ha hb hc hd)
  · rw [List.getElem?_eq_none (by omega), List.getElem?_eq_none (by omega)]
theorem zip_at {f : Int → Int → Int} {a b : List Int} {i : Nat} {z : Int} (h : (List.zipWith f a b)[i]? = some z) : ∃ x y, a[i]? = some x ∧ b[i]? = some y ∧ z = f x y := by
  rw [List.getElem?_zipWith] at h
  split at h
  · rename_i x y ha hb
    cases h
    exact ⟨x, y, ha, hb, rfl⟩
  · cases h
theorem same_at {l : List Int} {i : Nat} {x y : Int} (h1 : l[i]? = some x) (h2 : l[i]? = some y) : x = y := Option.some.inj (h1.symm.trans h2)
section
variable {a b c : SArray} (hb : b.Data.length = a.Data.length) (hc : c.Data.length = a.Data.length)
include hb in
theorem pair_comm (k : Int) (hk : k = 3 ∨ k = 5) (hd : b.Dims = a.Dims) : pairA k a b = pairA k b a := by
 unfold pairA
 rw [hd]
 congr 1
 refine zip_ext (by rw [List.length_zipWith, List.length_zipWith]; omega) fun i x y u v h1 h2 h3 h4 => ?_
 obtain rfl := same_at h1 h4
 obtain rfl := same_at h2 h3
 rcases hk with h | h <;> subst h <;> unfold pairK
 · simp only [if_pos]; rw [Int.add_comm]
 · simp only [show ¬ ((5 : Int) = 3) by decide, show ¬ ((5 : Int) = 4) by decide, if_false]; rw [Int.mul_comm]
include hb hc in
theorem pair_assoc (k : Int) (hk : k = 3 ∨ k = 5) : pairA k (pairA k a b) c = pairA k a (pairA k b c) := by
 unfold pairA
 show SArray.mk a.Dims _ = SArray.mk a.Dims _
 congr 1
 refine zip_ext (by simp only [List.length_zipWith]; omega) fun i x y u v h1 h2 h3 h4 => ?_
 obtain ⟨p, q, p1, p2, rfl⟩ := zip_at h1
 obtain ⟨r, t, r1, r2, rfl⟩ := zip_at h4
 obtain rfl := same_at p1 h3
 obtain rfl := same_at p2 r1
 obtain rfl := same_at h2 r2
 rcases hk with h | h <;> subst h <;> unfold pairK
 · simp only [if_pos]; rw [wadd_l, wadd_r, Int.add_assoc]
 · simp only [show ¬ ((5 : Int) = 3) by decide, show ¬ ((5 : Int) = 4) by decide, if_false]; rw [wmul_l, wmul_r, Int.mul_assoc]
include hb hc in
theorem pair_dist (hd : b.Dims = a.Dims) : pairA 5 a (pairA 3 b c) = pairA 3 (pairA 5 a b) (pairA 5 a c) := by
 unfold pairA
 show SArray.mk a.Dims _ = SArray.mk a.Dims _
 congr 1
 refine zip_ext (by simp only [List.length_zipWith]; omega) fun i x y u v h1 h2 h3 h4 => ?_
 obtain ⟨p, q, p1, p2, rfl⟩ := zip_at h2
 obtain ⟨r, t, r1, r2, rfl⟩ := zip_at h3
 obtain ⟨r', t', r1', r2', rfl⟩ := zip_at h4
 obtain rfl := same_at r1 h1
 obtain rfl := same_at r1' h1
 obtain rfl := same_at p1 r2
 obtain rfl := same_at p2 r2'
 unfold pairK
 simp only [show ¬ ((5 : Int) = 3) by decide, show ¬ ((5 : Int) = 4) by decide, if_false, if_pos]
 rw [wmul_r, wadd_l, wadd_r, Int.mul_add]
include hb in
theorem pair_back (ha : ∀ x ∈ a.Data, -9223372036854775808 ≤ x ∧ x ≤ 9223372036854775807) : pairA 3 (pairA 4 a b) b = a := by
  unfold pairA
  show SArray.mk a.Dims _ = a
  have : List.zipWith (pairK 3) (List.zipWith (pairK 4) a.Data b.Data) b.Data = a.Data := by
    apply List.ext_getElem?
    intro i
    by_cases hi : i < a.Data.length
    · have h1 := List.getElem?_eq_getElem hi
      have h2 := List.getElem?_eq_getElem (show i < b.Data.length by omega)
      rw [List.getElem?_zipWith, List.getElem?_zipWith, h1, h2]
      have := ha _ (List.getElem_mem hi)
      refine congrArg some ?_
      unfold pairK
      simp only [show ¬ ((4 : Int) = 3) by decide, if_false, if_pos]
      rw [wadd_l, Int.sub_add_cancel]
      exact i64 this.1 this.2
    · rw [List.getElem?_eq_none (by simp only [List.length_zipWith]; omega), List.getElem?_eq_none (by omega)]
  rw [this]
end
def alikeS (a x : SArray) : Bool := decide (wrongA x = 0) && decide (x.Dims = a.Dims)
theorem alike_ok (fu : Nat) (a : SArray) (r : List SArray) (hr : (a :: r).length ≤ 1000) (hx : ∀ x ∈ a :: r, x.Dims.length ≤ 1048576) (hf : 4000000 < fu) : F.adjointlaw2_alike fu (a :: r) = some ((a :: r).all (alikeS a)) := by
  unfold F.adjointlaw2_alike
  have hL := loop_find (body := F.adjointlaw2_alike_l1 fu (a :: r)) (a :: r) (fun k => (k : Int)) (fun x => if alikeS a x then none else some false) (fun k x h => by
    have h1 := hx x (List.mem_of_getElem? h)
    simp only [F.adjointlaw2_alike_l1, dec_lt h, cond_true, idx_nat h, Option.bind_some, wrongA_ok fu x (by omega) hf, idx0, sameList_ok fu x.Dims a.Dims (by omega) hf, amb2_self, wrap_succ (get_lt h) (show (a :: r).length ≤ 9223372036854775807 by omega)]
    unfold alikeS
    by_cases h2 : wrongA x = 0
    · rw [bne_false h2, cond_false]
      by_cases h3 : x.Dims = a.Dims
      · simp [h2, h3]
      · simp [h2, h3]
    · rw [bne_true h2, cond_true]
      simp [h2])
    (by simp only [F.adjointlaw2_alike_l1, dec_end, cond_false]) fu (by omega)
  rw [show ((0 : Nat) : Int) = 0 from rfl] at hL
  rw [hL, findAll]
  cases (a :: r).all (alikeS a) <;> rfl
def okArr (a : SArray) : Prop := a.Dims.length ≤ 1048576 ∧ a.Data.length ≤ 1048576 ∧ ∀ x ∈ a.Data, -9223372036854775808 ≤ x ∧ x ≤ 9223372036854775807
theorem ring_ok (fu : Nat) (a b c : SArray) (ha : okArr a) (hb : okArr b) (hc : okArr c) (hf : 4000000 < fu) : F.adjointlaw2_ArrayRing fu a b c = some true := by
 unfold F.adjointlaw2_ArrayRing
 rw [alike_ok fu a [b, c] (by simp) (fun x hx => by
  simp only [List.mem_cons, List.not_mem_nil, or_false] at hx
  rcases hx with h | h | h <;> rw [h]
  · exact ha.1
  · exact hb.1
  · exact hc.1) hf]
 simp only [Option.bind_some]
 cases hal : [a, b, c].all (alikeS a) with
 | false => rfl
 | true =>
  simp only [List.all_cons, List.all_nil, Bool.and_true, Bool.and_eq_true, alikeS, decide_eq_true_eq] at hal
  obtain ⟨⟨wa, _⟩, ⟨wb, db⟩, ⟨wc, dc⟩⟩ := hal
  have la := (wrongA_zero wa).2
  have lb := (wrongA_zero wb).2
  have lc := (wrongA_zero wc).2
  rw [db] at lb
  rw [dc] at lc
  have hbl : b.Data.length = a.Data.length := by omega
  have hcl : c.Data.length = a.Data.length := by omega
  have same : ∀ x : SArray, wrongA x = 0 → F.adjointref2_SameArray fu x x = some true := fun x hx => by
   obtain ⟨h1, h2⟩ := wrongA_zero hx
   obtain ⟨z1, z2⟩ := size_ran' h1
   have := (size_small h1).1
   exact sameArr_self fu x (by omega) (by omega) hf
  have t3 : ∀ k x y, (k = 3 ∨ k = 4 ∨ k = 5) → wrongA x = 0 → wrongA y = 0 → y.Dims = x.Dims → F.adjointlaw2_two fu k x y = some (pairA k x y, true) := fun k x y hk hx hy hd => two_ok fu k x y hk hx hy hd hf
  have g : ∀ k x y, wrongA x = 0 → wrongA y = 0 → y.Dims = x.Dims → wrongA (pairA k x y) = 0 := fun k x y hx hy hd => pair_good hx hy hd
  have hL := loop_find (body := F.adjointlaw2_ArrayRing_l1 fu a b c) ([3, 5] : List Int) (fun k => (k : Int)) (fun _ => none) (fun i k h => by
   have hk : k = 3 ∨ k = 5 := by
    have := List.mem_of_getElem? h
    simpa using this
   have hk3 : k = 3 ∨ k = 4 ∨ k = 5 := by omega
   have gab := g k a b wa wb db
   have gbc := g k b c wb wc (by rw [dc, db])
   simp only [F.adjointlaw2_ArrayRing_l1, show (([3, 5] : List Nat).length : Int) = (([3, 5] : List Int).length : Int) from rfl, dec_lt h, cond_true, idx_nat h, Option.bind_some, t3 k a b hk3 wa wb db, t3 k b a hk3 wb wa db.symm, t3 k b c hk3 wb wc (by rw [dc, db]), Bool.not_true, cond_false, ← pair_comm hbl k hk db, same _ gab, t3 k (pairA k a b) c hk3 gab wc dc, t3 k a (pairA k b c) hk3 wa gbc db, pair_assoc hbl hcl k hk, same _ (g k a (pairA k b c) wa gbc db), wrap_succ (get_lt h) (show ([3, 5] : List Int).length ≤ 9223372036854775807 by decide)])
   (by simp only [F.adjointlaw2_ArrayRing_l1, show (([3, 5] : List Nat).length : Int) = (([3, 5] : List Int).length : Int) from rfl, dec_end, cond_false]) fu (by simp; omega)
  rw [show ((0 : Nat) : Int) = 0 from rfl] at hL
  have hn : ([3, 5] : List Int).findSome? (fun _ => (none : Option Bool)) = none := List.findSome?_eq_none_iff.2 fun _ _ => rfl
  rw [hn] at hL
  have gbc := g 3 b c wb wc (by rw [dc, db])
  have gab := g 5 a b wa wb db
  have gac := g 5 a c wa wc dc
  have gd := g 4 a b wa wb db
  have gx := g 5 a (pairA 3 b c) wa gbc db
  simp only [Bool.not_true, cond_false, hL, bindE, Option.bind_some, t3 3 b c (by omega) wb wc (by rw [dc, db]), t3 5 a (pairA 3 b c) (by omega) wa gbc db, t3 5 a b (by omega) wa wb db, t3 5 a c (by omega) wa wc dc, t3 3 (pairA 5 a b) (pairA 5 a c) (by omega) gab gac rfl,
   t3 4 a b (by omega) wa wb db, t3 3 (pairA 4 a b) b (by omega) gd wb db, cond_true, ← pair_dist hbl hcl db, same _ gx, pair_back hbl ha.2.2, same a wa]
end Go.DN.Pl
