/-
  Arrays: the plain law: lists, sizes.
-/
import Derived.Test.YtcbaolgciiieeaaGreatAnF
import Derived.Test.YtcbaolgciiieeaaGreatPlA
set_option linter.unusedSectionVars false
set_option linter.unusedSimpArgs false
set_option linter.unusedVariables false
namespace Go.DN.Pl
open Go.AM Go.PL
theorem cc (a b : Bool) : cond a (some true) (some b) = some (a || b) := by cases a <;> rfl
theorem cc2 (a b : Bool) : cond a (some b) (some false) = some (a && b) := by cases a <;> rfl
theorem grow_ok (fu : Nat) (n : Nat) (hn : n ≤ 10000000) : Go.Proofs.YtcbaolgciiieeaaGreat.F.slices_Grow fu (n : Int) = some [] := by
  unfold Go.Proofs.YtcbaolgciiieeaaGreat.F.slices_Grow
  have h0 : IntKind.i64.wrap (0 - 0) = 0 := by rw [i64 (by omega) (by omega)]; rfl
  have h1 : IntKind.i64.wrap ((n : Int) - 0) = n := by rw [i64 (by omega) (by omega)]; omega
  simp only [h0, h1, dec_false (show ¬ ((n : Int) < 0) by omega), cond_false, Option.bind_some]
  by_cases h : (n : Int) > 0
  · rw [dec_true h, cond_true, chk_pos (by omega)]
    simp only [Option.bind_some]
    rw [chk_pos (by omega)]
    rfl
  · rw [dec_false h, cond_false]
theorem concat_ok (fu : Nat) (ls : List (List Int)) (h1 : ls.length ≤ 1000) (h2 : ls.flatten.length ≤ 10000000) (hf : 1000 < fu) : Go.Proofs.YtcbaolgciiieeaaGreat.F.slices_Concat fu ls = some ls.flatten := by
 have hpre : ∀ k, (ls.take k).flatten.length ≤ ls.flatten.length := fun k => by
  conv => rhs; rw [← List.take_append_drop k ls]
  rw [List.flatten_append, List.length_append]; omega
 have hstep : ∀ k x, ls[k]? = some x → (ls.take (k + 1)).flatten = (ls.take k).flatten ++ x := fun k x hx => by
  rw [take_succ hx, List.flatten_append]; simp
 unfold Go.Proofs.YtcbaolgciiieeaaGreat.F.slices_Concat
 have hl1 := loop_acc (body := Go.Proofs.YtcbaolgciiieeaaGreat.F.slices_Concat_l1 fu ls) ls (fun k => (((ls.take k).flatten.length : Int), (k : Int))) (ls.flatten.length : Int)
  (fun k x hx => by
   have hw := wrap_succ (get_lt hx) (by omega)
   have e := hstep k x hx
   have h3 := hpre (k + 1)
   have e2 : ((ls.take (k + 1)).flatten.length : Int) = (ls.take k).flatten.length + x.length := by rw [e, List.length_append]; omega
   have h4 : IntKind.i64.wrap (((ls.take k).flatten.length : Int) + (x.length : Int)) = (ls.take (k + 1)).flatten.length := by rw [i64 (by omega) (by omega)]; omega
   simp only [Go.Proofs.YtcbaolgciiieeaaGreat.F.slices_Concat_l1, dec_lt hx, cond_true, idx_nat hx, Option.bind_some, hw, h4, dec_false (show ¬ (((ls.take (k + 1)).flatten.length : Int) < 0) by omega), cond_false])
  (by simp only [Go.Proofs.YtcbaolgciiieeaaGreat.F.slices_Concat_l1, dec_end, cond_false, List.take_length]) fu (by omega)
 have hl2 := loop_acc (body := Go.Proofs.YtcbaolgciiieeaaGreat.F.slices_Concat_l2 fu ls) ls (fun k => ((k : Int), (ls.take k).flatten)) ls.flatten
  (fun k x hx => by
   have hw := wrap_succ (get_lt hx) (by omega)
   have e := hstep k x hx
   have h3 := hpre (k + 1)
   have h5 : (ls.take k).flatten.length + x.length ≤ 10000000 := by rw [e, List.length_append] at h3; omega
   simp only [Go.Proofs.YtcbaolgciiieeaaGreat.F.slices_Concat_l2, dec_lt hx, cond_true, idx_nat hx, Option.bind_some, hw, chk_app (n := 8) (show ((ls.take k).flatten.length + x.length) * 8 ≤ 140737488355328 by omega) (by omega), e])
  (by simp only [Go.Proofs.YtcbaolgciiieeaaGreat.F.slices_Concat_l2, dec_end, cond_false, List.take_length]) fu (by omega)
 simp only [List.take_zero, List.flatten_nil, List.length_nil] at hl1 hl2
 rw [show ((0 : Nat) : Int) = 0 from rfl] at hl1 hl2
 simp only [hl1, Option.bind_some, grow_ok fu _ h2, hl2]
theorem clone_ok (fu : Nat) (s : List Int) (hs : s.length ≤ 10000000) : F.slices_Clone fu s = some s := by
  unfold F.slices_Clone
  have hc : chk (([] : List Int).length + s.length ≤ maxLen ∧ (([] : List Int).length + s.length) * 8 ≤ 140737488355328) = some () := chk_app (by simp only [List.length_nil]; omega) (by simp only [List.length_nil]; omega)
  rw [hc]
  simp only [Option.bind_some, List.nil_append]
  unfold nilF
  split
  · rename_i h
    have : s = [] := List.eq_nil_of_length_eq_zero (by omega)
    subst this
    simp
  · rfl
def hasB (l : List Int) (n : Int) : Bool := l.any fun x => x == n
theorem findB {α : Type} (p : α → Bool) (l : List α) : (l.findSome? fun x => if p x then some true else none) = if l.any p then some true else none := by
 induction l with
 | nil => rfl
 | cons x r ih =>
  rw [List.findSome?_cons, List.any_cons]
  cases p x with
  | true => rfl
  | false => simpa using ih
theorem contains_ok (fu : Nat) (s : List Int) (v : Int) (hs : s.length ≤ 4000000) (hf : 4000000 < fu) : F.slices_Contains fu s v = some (hasB s v) := by
 obtain ⟨r, h1, h2⟩ := indexP_loop s (fun x => some (v == x)) (fun x => v == x) (fun _ => rfl) (by omega) fu (by omega)
 have h3 : loopF (F.slices_Index_l1 fu s v) fu 0 = some r := h1
 have e : s.any (fun x => v == x) = hasB s v := by
  unfold hasB
  have : (fun x : Int => v == x) = fun x => x == v := by
   funext x
   exact (decide_eq_decide.2 ⟨Eq.symm, Eq.symm⟩ : decide (v = x) = decide (x = v))
  rw [this]
 rw [e] at h2
 unfold F.slices_Contains F.slices_Index
 cases r with
 | brk _ =>
  replace h2 : hasB s v = false := h2
  simp only [h3, bindE, Option.bind_some, h2]
  rfl
 | ret i =>
  replace h2 : 0 ≤ i ∧ hasB s v = true := h2
  simp only [h3, bindE, Option.bind_some, h2.2]
  simpa using h2.1
theorem has1_ok (fu : Nat) (s : List Int) (v : Int) (hs : s.length ≤ 4000000) (hf : 4000000 < fu) : F.adjointref1_has fu s v = some (hasB s v) := by
 unfold F.adjointref1_has hasB
 have hl := loop_find (body := F.adjointref1_has_l1 fu s v) s (fun k => (k : Int)) (fun x => if x == v then some true else none)
  (fun k x hx => by
   have hw := wrap_succ (get_lt hx) (by omega)
   simp only [F.adjointref1_has_l1, dec_lt hx, cond_true, idx_nat hx, Option.bind_some, hw]
   cases (x == v) <;> rfl)
  (by simp only [F.adjointref1_has_l1, dec_end, cond_false]) fu (by omega)
 rw [show ((0 : Nat) : Int) = 0 from rfl] at hl
 rw [hl, bindE_find, findB]
 cases s.any fun x => x == v <;> rfl
theorem equal_core {body : Int → Option (Int ⊕ Ex Unit Bool)} (a b : List Int) (hl : a.length = b.length)
    (hb : ∀ (k : Nat) (x y : Int), a[k]? = some x → b[k]? = some y → body k = some (if x = y then .inl ((k + 1 : Nat) : Int) else .inr (.ret false))) (he : body (a.length : Int) = some (.inr (.brk ()))) (n : Nat) (hn : a.length < n) :
    loopF body n 0 = some (if a = b then .brk () else .ret false) := by
  have key : ∀ (m k n : Nat), m = a.length - k → k ≤ a.length → m < n → loopF body n (k : Int) = some (if a.drop k = b.drop k then .brk () else .ret false) := by
    intro m
    induction m with
    | zero =>
      intro k n hm hk hn
      obtain rfl : k = a.length := by omega
      cases n with
      | zero => omega
      | succ n =>
        rw [List.drop_length, hl, List.drop_length, ← hl]
        simp only [loopF, he, if_true]
    | succ m ih =>
      intro k n hm hk hn
      cases n with
      | zero => omega
      | succ n =>
        have h1 : k < a.length := by omega
        have h2 : k < b.length := by omega
        simp only [loopF, hb k _ _ (List.getElem?_eq_getElem h1) (List.getElem?_eq_getElem h2)]
        rw [List.drop_eq_getElem_cons h1, List.drop_eq_getElem_cons h2]
        by_cases h : a[k] = b[k]
        · rw [if_pos h]
          simp only
          rw [ih (k + 1) n (by omega) (by omega) (by omega)]
          congr 1
          by_cases h3 : a.drop (k + 1) = b.drop (k + 1)
          · rw [if_pos h3, if_pos (by rw [h, h3])]
          · rw [if_neg h3, if_neg (by intro e; injection e with _ e; exact h3 e)]
        · rw [if_neg h]
          simp only
          rw [if_neg (by intro e; injection e with e _; exact h e)]
  have := key a.length 0 n (by omega) (by omega) hn
  simpa using this
theorem equal_ok (fu : Nat) (a b : List Int) (ha : a.length ≤ 4000000) (hf : 4000000 < fu) : F.slices_Equal fu a b = some (decide (a = b)) := by
  unfold F.slices_Equal
  by_cases hl : a.length = b.length
  · rw [bne_false (by omega), cond_false]
    have h := equal_core (body := F.slices_Equal_l1 fu a b) a b hl
      (fun k x y hx hy => by
        have hw := wrap_succ (get_lt hx) (by omega)
        simp only [F.slices_Equal_l1, dec_lt hx, cond_true, idx_nat hx, idx_nat hy, Option.bind_some, hw]
        by_cases h : x = y
        · rw [bne_false h, cond_false, if_pos h]
        · rw [bne_true h, cond_true, if_neg h])
      (by simp only [F.slices_Equal_l1, dec_end, cond_false]) fu (by omega)
    rw [h]
    by_cases h : a = b <;> simp [h, bindE]
  · rw [bne_true (by omega), cond_true, dec_false (fun e => hl (by rw [e]))]
theorem sameList_ok (fu : Nat) (a b : List Int) (ha : a.length ≤ 4000000) (hf : 4000000 < fu) : F.adjointref2_SameList fu a b = some (decide (a = b)) := by
  unfold F.adjointref2_SameList
  by_cases hl : a.length = b.length
  · rw [bne_false (by omega), cond_false]
    have h := equal_core (body := F.adjointref2_SameList_l1 fu a b) a b hl
      (fun k x y hx hy => by
        have hw := wrap_succ (get_lt hx) (by omega)
        simp only [F.adjointref2_SameList_l1, dec_lt hx, cond_true, idx_nat hx, idx_nat hy, Option.bind_some, hw]
        by_cases h : x = y
        · rw [bne_false h, cond_false, if_pos h]
        · rw [bne_true h, cond_true, if_neg h])
      (by simp only [F.adjointref2_SameList_l1, dec_end, cond_false]) fu (by omega)
    rw [h]
    by_cases h : a = b <;> simp [h, bindE]
  · rw [bne_true (by omega), cond_true, dec_false (fun e => hl (by rw [e]))]
def badD (d : Int) : Bool := decide (d < 0) || decide (d > 4096)
def prodF : Int → List Int → Int
 | n, [] => n
 | n, x :: r => prodF (n * x) r
def sizeS (d : List Int) : Int × Int :=
 if d.length > 6 then (0, 3) else if d.any badD then (0, 4) else if hasB d 0 then (0, 0) else if prodF 1 d > 65536 then (0, 5) else (prodF 1 d, 0)
theorem size1_ok (fu : Nat) (d : Int) : F.view_Size_1 fu d = some (badD d) := by
 unfold F.view_Size_1 badD
 rw [cc]; rfl
theorem sizeC_ok (fu : Nat) (s : List Int) (hs : s.length ≤ 4000000) (hf : 4000000 < fu) : F.slices_ContainsFunc fu s = some (s.any badD) := by
 obtain ⟨r, h1, h2⟩ := indexP_loop s (F.view_Size_1 fu) badD (size1_ok fu) (by omega) fu (by omega)
 have h3 : loopF (F.slices_IndexFunc_l1 fu s) fu 0 = some r := h1
 unfold F.slices_ContainsFunc F.slices_IndexFunc
 cases r with
 | brk _ =>
  simp only at h2
  simp only [h3, bindE, Option.bind_some, h2]
  rfl
 | ret i =>
  simp only at h2
  simp only [h3, bindE, Option.bind_some, h2.2]
  simpa using h2.1
theorem prodF_mono : ∀ (l : List Int) (n : Int), 0 ≤ n → (∀ x ∈ l, 1 ≤ x) → n ≤ prodF n l
 | [], n, _, _ => Int.le_refl n
 | x :: r, n, h0, h => by
  have hx := h x List.mem_cons_self
  have h1 : n ≤ n * x := by
   have := Int.mul_le_mul_of_nonneg_left hx h0
   omega
  have := prodF_mono r (n * x) (by omega) fun y hy => h y (List.mem_cons_of_mem _ hy)
  show n ≤ prodF (n * x) r
  omega
theorem prod_exit {ρ : Type} (e : ρ) (k : Int → ρ) : ∀ (l : List Int) (n : Int), 0 ≤ n → n ≤ 65536 → (∀ x ∈ l, 1 ≤ x ∧ x ≤ 4096) →
    foldE (fun (n : Int) x => if n * x > 65536 then some (.inr e) else some (.inl (n * x))) k n l = some (if prodF n l > 65536 then e else k (prodF n l))
  | [], n, _, h1, _ => by
    rw [show prodF n [] = n from rfl, if_neg (by omega)]
    rfl
  | x :: r, n, h0, h1, h => by
    have hx := h x List.mem_cons_self
    have h2 : 0 ≤ n * x := Int.mul_nonneg h0 (by omega)
    rw [show prodF n (x :: r) = prodF (n * x) r from rfl]
    simp only [foldE]
    by_cases hb : n * x > 65536
    · rw [if_pos hb]
      have := prodF_mono r (n * x) h2 fun y hy => (h y (List.mem_cons_of_mem _ hy)).1
      simp only
      rw [if_pos (by omega)]
    · rw [if_neg hb]
      exact prod_exit e k r (n * x) h2 (by omega) fun y hy => h y (List.mem_cons_of_mem _ hy)
def capF (n x : Int) : Int := if 65537 < n * x then 65537 else n * x
theorem capF_zero : ∀ (l : List Int), l.foldl capF 0 = 0
 | [] => rfl
 | x :: r => by
  have : capF 0 x = 0 := by unfold capF; simp
  rw [List.foldl_cons, this]; exact capF_zero r
theorem capF_has : ∀ (l : List Int) (n : Int), 0 ∈ l → l.foldl capF n = 0
  | x :: r, n, h => by
    rw [List.foldl_cons]
    rcases List.mem_cons.1 h with e | h
    · have : capF n x = 0 := by unfold capF; rw [← e]; simp
      rw [this]; exact capF_zero r
    · exact capF_has r _ h
theorem capF_ran : ∀ (l : List Int) (n : Int), 0 ≤ n → n ≤ 65537 → (∀ x ∈ l, 0 ≤ x ∧ x ≤ 4096) → 0 ≤ l.foldl capF n ∧ l.foldl capF n ≤ 65537
 | [], n, h0, h1, _ => ⟨h0, h1⟩
 | x :: r, n, h0, h1, h => by
  have hx := h x List.mem_cons_self
  have h2 : 0 ≤ n * x := Int.mul_nonneg h0 hx.1
  rw [List.foldl_cons]
  refine capF_ran r _ ?_ ?_ fun y hy => h y (List.mem_cons_of_mem _ hy)
  · unfold capF; split <;> omega
  · unfold capF; split <;> omega
theorem mul_ran {n x : Int} (h0 : 0 ≤ n) (h1 : n ≤ 65537) (h2 : 0 ≤ x) (h3 : x ≤ 4096) : IntKind.i64.wrap (n * x) = n * x := by
 have a1 := Int.mul_nonneg h0 h2
 have a2 : n * x ≤ 65537 * 4096 := Int.mul_le_mul h1 h3 h2 (by omega)
 exact i64 (by omega) (by omega)
theorem hasB_mem {l : List Int} {n : Int} : hasB l n = true ↔ n ∈ l := by
  unfold hasB
  rw [List.any_eq_true]
  constructor
  · rintro ⟨x, h1, h2⟩
    simp at h2; subst h2; exact h1
  · intro h; exact ⟨n, h, by simp⟩
theorem good_dims {d : List Int} (h : d.any badD = false) : ∀ x ∈ d, 0 ≤ x ∧ x ≤ 4096 := fun x hx => by
 have := List.any_eq_false.1 h x hx
 simp [badD] at this
 omega
theorem size_ok (fu : Nat) (d : List Int) (hd : d.length ≤ 4000000) (hf : 4000000 < fu) : F.view_Size fu d = some (sizeS d) := by
  unfold F.view_Size sizeS
  by_cases h6 : d.length > 6
  · rw [dec_true (by omega), cond_true, if_pos h6]
  · rw [dec_false (by omega), cond_false, if_neg h6, sizeC_ok fu d hd hf]
    simp only [Option.bind_some]
    cases hb : d.any badD with
    | true => rfl
    | false =>
      have hg := good_dims hb
      simp only [cond_false, Bool.false_eq_true, if_false]
      cases hz : hasB d 0 with
      | true =>
        have hl := loop_acc (body := F.view_Size_l1 fu d) d (fun k => ((d.take k).foldl capF 1, (k : Int))) (Ex.brk (d.foldl capF 1) : Ex Int (Int × Int))
          (fun k x hx => by
            have hw := wrap_succ (get_lt hx) (by omega)
            have hx0 := hg x (List.mem_of_getElem? hx)
            have hr := capF_ran (d.take k) 1 (by omega) (by omega) fun y hy => hg y (List.mem_of_mem_take hy)
            have hm := mul_ran hr.1 hr.2 hx0.1 hx0.2
            have e : (d.take (k + 1)).foldl capF 1 = capF ((d.take k).foldl capF 1) x := by rw [take_succ hx, List.foldl_append]; rfl
            simp only [F.view_Size_l1, dec_lt hx, cond_true, idx_nat hx, Option.bind_some, hw, hm, contains_ok fu d 0 hd hf, hz, Bool.not_true, cc2, Bool.and_false, cond_false, e]
            rfl)
          (by simp only [F.view_Size_l1, dec_end, cond_false, List.take_length]) fu (by omega)
        simp only [List.take_zero, List.foldl_nil] at hl
        rw [show ((0 : Nat) : Int) = 0 from rfl] at hl
        rw [hl, capF_has d 1 (hasB_mem.1 hz)]
        rfl
      | false =>
        have hg1 : ∀ x ∈ d, 1 ≤ x ∧ x ≤ 4096 := fun x hx => by
          have := hg x hx
          have h0 : x ≠ 0 := fun e => by subst e; rw [hasB_mem.2 hx] at hz; cases hz
          omega
        have hl := loop_list (body := F.view_Size_l1 fu d) d (fun (n : {n : Int // 0 ≤ n ∧ n ≤ 65536}) i => (n.1, i))
          (fun n x => if h : n.1 * x > 65536 then some (.inr (Ex.ret ((0 : Int), (5 : Int)))) else if h2 : 0 ≤ n.1 * x then some (.inl ⟨n.1 * x, h2, by omega⟩) else none) (fun n => Ex.brk n.1)
          (fun n k x hx => by
            have hw := wrap_succ (get_lt hx) (by omega)
            have hx0 := hg1 x (List.mem_of_getElem? hx)
            have hm := mul_ran n.2.1 (by have := n.2.2; omega) (by omega) hx0.2
            have h0 : 0 ≤ n.1 * x := Int.mul_nonneg n.2.1 (by omega)
            simp only [F.view_Size_l1, dec_lt hx, cond_true, idx_nat hx, Option.bind_some, hw, hm, contains_ok fu d 0 hd hf, hz, Bool.not_false, cc2, Bool.and_true]
            by_cases h : n.1 * x > 65536
            · rw [dec_true h, cond_true, dif_pos h]; rfl
            · rw [dec_false h, cond_false, dif_neg h, dif_pos h0, if_neg (by omega)]; rfl)
          (fun n => by simp only [F.view_Size_l1, dec_end, cond_false]) fu (by omega) ⟨1, by omega, by omega⟩
        have e : ∀ (l : List Int) (n : {n : Int // 0 ≤ n ∧ n ≤ 65536}), (∀ x ∈ l, 1 ≤ x ∧ x ≤ 4096) → foldE (fun (n : {n : Int // 0 ≤ n ∧ n ≤ 65536}) x => if h : n.1 * x > 65536 then some (.inr (Ex.ret ((0 : Int), (5 : Int)))) else if h2 : 0 ≤ n.1 * x then some (.inl ⟨n.1 * x, h2, by omega⟩) else none) (fun n => (Ex.brk n.1 : Ex Int (Int × Int))) n l
            = foldE (fun (n : Int) x => if n * x > 65536 then some (.inr (Ex.ret ((0 : Int), (5 : Int)))) else some (.inl (n * x))) (fun n => Ex.brk n) n.1 l := by
          intro l
          induction l with
          | nil => intro n _; rfl
          | cons x r ih =>
            intro n h
            have hx0 := h x List.mem_cons_self
            have h0 : 0 ≤ n.1 * x := Int.mul_nonneg n.2.1 (by omega)
            simp only [foldE]
            by_cases hb : n.1 * x > 65536
            · rw [dif_pos hb, if_pos hb]
            · rw [dif_neg hb, dif_pos h0, if_neg hb]
              exact ih _ fun y hy => h y (List.mem_cons_of_mem _ hy)
        rw [hl, e d _ hg1, prod_exit _ _ d 1 (by omega) (by omega) hg1]
        by_cases h : prodF 1 d > 65536
        · simp only [if_pos h, bindE]; rfl
        · simp only [if_neg h, bindE]; rfl
theorem refSize_ok (fu : Nat) (d : List Int) (hd : d.length ≤ 4000000) (hf : 4000000 < fu) : F.adjointref1_Size fu d = some (sizeS d) := by
  unfold F.adjointref1_Size sizeS
  by_cases h6 : d.length > 6
  · rw [dec_true (by omega), cond_true, if_pos h6]
  · rw [dec_false (by omega), cond_false, if_neg h6]
    have hl0 := loop_list (body := F.adjointref1_Size_l1 fu d) d (fun (b : Bool) i => (b, i)) (fun b x => cond (badD x) (some (.inr (Ex.ret ((0 : Int), (4 : Int))))) (some (.inl (b || x == 0)))) (fun b => Ex.brk b)
      (fun b k x hx => by
        have hw := wrap_succ (get_lt hx) (by omega)
        simp only [F.adjointref1_Size_l1, dec_lt hx, cond_true, idx_nat hx, Option.bind_some, hw, cc]
        unfold badD
        cases (decide (x < 0) || decide (x > 4096)) <;> cases b <;> cases (x == 0) <;> rfl)
      (fun b => by simp only [F.adjointref1_Size_l1, dec_end, cond_false]) fu (by omega) false
    have e0 : ∀ (l : List Int) (b : Bool), foldE (fun (b : Bool) (x : Int) => cond (badD x) (some (.inr (Ex.ret ((0 : Int), (4 : Int))))) (some (.inl (b || x == 0)))) (fun b => (Ex.brk b : Ex Bool (Int × Int))) b l = some (if l.any badD then Ex.ret (0, 4) else Ex.brk (b || hasB l 0)) := by
      intro l
      induction l with
      | nil => intro b; simp [foldE, hasB]
      | cons x r ih =>
        intro b
        rw [List.any_cons, show hasB (x :: r) 0 = (x == 0 || hasB r 0) from rfl, ← Bool.or_assoc]
        simp only [foldE]
        cases hb : badD x with
        | true => rfl
        | false =>
          simp only [cond_false, Bool.false_or]
          exact ih _
    rw [hl0, e0]
    cases hb : d.any badD with
    | true => rfl
    | false =>
      have hg := good_dims hb
      simp only [Bool.false_eq_true, if_false, bindE, Bool.false_or]
      cases hz : hasB d 0 with
      | true => rfl
      | false =>
        have hg1 : ∀ x ∈ d, 1 ≤ x ∧ x ≤ 4096 := fun x hx => by
          have := hg x hx
          have h0 : x ≠ 0 := fun e => by subst e; rw [hasB_mem.2 hx] at hz; cases hz
          omega
        have hl := loop_list (body := F.adjointref1_Size_l2 fu d) d (fun (n : {n : Int // 0 ≤ n ∧ n ≤ 65536}) i => (n.1, i))
          (fun n x => if h : n.1 * x > 65536 then some (.inr (Ex.ret ((0 : Int), (5 : Int)))) else if h2 : 0 ≤ n.1 * x then some (.inl ⟨n.1 * x, h2, by omega⟩) else none) (fun n => Ex.brk n.1)
          (fun n k x hx => by
            have hw := wrap_succ (get_lt hx) (by omega)
            have hx0 := hg1 x (List.mem_of_getElem? hx)
            have hm := mul_ran n.2.1 (by have := n.2.2; omega) (by omega) hx0.2
            have h0 : 0 ≤ n.1 * x := Int.mul_nonneg n.2.1 (by omega)
            simp only [F.adjointref1_Size_l2, dec_lt hx, cond_true, idx_nat hx, Option.bind_some, hw, hm]
            by_cases h : n.1 * x > 65536
            · rw [dec_true h, cond_true, dif_pos h]; rfl
            · rw [dec_false h, cond_false, dif_neg h, dif_pos h0]; rfl)
          (fun n => by simp only [F.adjointref1_Size_l2, dec_end, cond_false]) fu (by omega) ⟨1, by omega, by omega⟩
        have e : ∀ (l : List Int) (n : {n : Int // 0 ≤ n ∧ n ≤ 65536}), (∀ x ∈ l, 1 ≤ x ∧ x ≤ 4096) → foldE (fun (n : {n : Int // 0 ≤ n ∧ n ≤ 65536}) x => if h : n.1 * x > 65536 then some (.inr (Ex.ret ((0 : Int), (5 : Int)))) else if h2 : 0 ≤ n.1 * x then some (.inl ⟨n.1 * x, h2, by omega⟩) else none) (fun n => (Ex.brk n.1 : Ex Int (Int × Int))) n l
            = foldE (fun (n : Int) x => if n * x > 65536 then some (.inr (Ex.ret ((0 : Int), (5 : Int)))) else some (.inl (n * x))) (fun n => Ex.brk n) n.1 l := by
          intro l
          induction l with
          | nil => intro n _; rfl
          | cons x r ih =>
            intro n h
            have hx0 := h x List.mem_cons_self
            have h0 : 0 ≤ n.1 * x := Int.mul_nonneg n.2.1 (by omega)
            simp only [foldE]
            by_cases hb : n.1 * x > 65536
            · rw [dif_pos hb, if_pos hb]
            · rw [dif_neg hb, dif_pos h0, if_neg hb]
              exact ih _ fun y hy => h y (List.mem_cons_of_mem _ hy)
        simp only [cond_false]
        rw [hl, e d _ hg1, prod_exit _ _ d 1 (by omega) (by omega) hg1]
        by_cases h : prodF 1 d > 65536
        · simp only [if_pos h, bindE]; rfl
        · simp only [if_neg h, bindE]; rfl
end Go.DN.Pl
