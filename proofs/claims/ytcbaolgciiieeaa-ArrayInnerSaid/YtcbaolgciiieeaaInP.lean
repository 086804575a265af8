/-
  ArrayInner: the plain law: sizes, equal lists, sums of products.
-/
import Derived.Test.YtcbaolgciiieeaaInF
import Derived.Test.YtcbaolgciiieeaaAmY
namespace Go.Proofs.Ytcbaolgciiieeaa
open Go.AM

/-- The product, as long as it is at most 65536. -/
def prodF : Int → List Int → Option Int
  | n, [] => some n
  | n, x :: r => if n * x > 65536 then none else prodF (n * x) r
def bad (d : Int) : Bool := decide (d < 0) || decide (d > 4096)
def sizeS (dims : List Int) : Int × Int :=
  if dims.length > 6 then (0, 3) else if dims.any bad then (0, 4) else if dims.contains 0 then (0, 0) else match prodF 1 dims with
    | none => (0, 5)
    | some n => (n, 0)

theorem size1_ok (fu : Nat) (d : Int) : F.view_Size_1 fu d = some (bad d) := by
  unfold F.view_Size_1 bad
  cases decide (d < 0) <;> simp

theorem containsFunc_ok (fu : Nat) (s : List Int) (h63 : s.length ≤ 9223372036854775807) (hf : s.length < fu) : F.slices_ContainsFunc fu s = some (s.any bad) := by
  obtain ⟨r, h1, h2⟩ := indexP_loop s (F.view_Size_1 fu) bad (size1_ok fu) h63 fu hf
  have h3 : loopF (F.slices_IndexFunc_l1 fu s) fu 0 = some r := h1
  cases r with
  | brk _ =>
    simp only at h2
    simp only [F.slices_ContainsFunc, F.slices_IndexFunc, h3, bindE, Option.bind_some, h2]
    rfl
  | ret i =>
    simp only at h2
    simp only [F.slices_ContainsFunc, F.slices_IndexFunc, h3, bindE, Option.bind_some, h2.2, id]
    simpa using h2.1

theorem contains_ok (fu : Nat) (s : List Int) (v : Int) (h63 : s.length ≤ 9223372036854775807) (hf : s.length < fu) : F.slices_Contains fu s v = some (s.contains v) := by
  obtain ⟨r, h1, h2⟩ := index_loop s v h63 fu hf
  have h3 : loopF (F.slices_Index_l1 fu s v) fu 0 = some r := h1
  cases r with
  | brk _ =>
    simp only at h2
    simp only [F.slices_Contains, F.slices_Index, h3, bindE, Option.bind_some]
    simpa using h2
  | ret i =>
    simp only at h2
    simp only [F.slices_Contains, F.slices_Index, h3, bindE, Option.bind_some, id]
    have := h2.2
    simp [this, h2.1]

theorem equal_ok (fu : Nat) (a b : List Int) (h63 : a.length ≤ 9223372036854775807) (hf : a.length < fu) : F.slices_Equal fu a b = some (decide (a = b)) := by
  by_cases hl : a.length = b.length
  · have h1 := equal_loop a b hl h63 fu hf
    have h3 : loopF (F.slices_Equal_l1 fu a b) fu 0 = some (if a = b then Ex.brk () else Ex.ret false) := h1
    simp only [F.slices_Equal, hl, bne_self_eq_false, cond_false, h3]
    by_cases h : a = b <;> simp [h, bindE]
  · have h1 : ((a.length : Int) != (b.length : Int)) = true := by simp; omega
    have h2 : a ≠ b := fun e => hl (by rw [e])
    simp only [F.slices_Equal, h1, cond_true, h2, decide_false]
theorem sameList_ok (fu : Nat) (a b : List Int) (h63 : a.length ≤ 9223372036854775807) (hf : a.length < fu) : F.adjointref2_SameList fu a b = some (decide (a = b)) := equal_ok fu a b h63 hf

theorem mul_ran {n x : Int} {m : Int} (h0 : 0 ≤ n) (h1 : n ≤ m) (h2 : 0 ≤ x) (h3 : x ≤ 4096) : 0 ≤ n * x ∧ n * x ≤ m * 4096 :=
  ⟨Int.mul_nonneg h0 h2, Int.mul_le_mul h1 h3 h2 (by omega)⟩

theorem size_ok (fu : Nat) (dims : List Int) (h63 : dims.length ≤ 9223372036854775807) (hf : dims.length < fu) : F.view_Size fu dims = some (sizeS dims) := by
  unfold F.view_Size sizeS
  by_cases h6 : dims.length > 6
  · have : decide ((dims.length : Int) > 6) = true := by simp; omega
    simp only [this, cond_true, if_pos h6]
  · have : decide ((dims.length : Int) > 6) = false := by simp; omega
    simp only [this, cond_false, if_neg h6, containsFunc_ok fu dims h63 hf, Option.bind_some]
    cases hb : dims.any bad with
    | true => simp
    | false =>
      simp only [cond_false, Bool.false_eq_true, if_false]
      have hg : ∀ x ∈ dims, 0 ≤ x ∧ x ≤ 4096 := fun x hx => by
        have := List.any_eq_false.1 hb x hx
        simp [bad] at this
        omega
      have hloop := loop_list (body := F.view_Size_l1 fu dims) dims (fun n i => (n, i))
        (fun n x => cond (decide (IntKind.i64.wrap (n * x) > 65536) && !dims.contains 0) (some (.inr (Ex.ret (0, 5)))) (some (.inl (if 65537 < IntKind.i64.wrap (n * x) then 65537 else IntKind.i64.wrap (n * x))))) (fun n => Ex.brk n)
        (fun n k x hx => by
          have hw := wrap_succ (get_lt hx) h63
          simp only [F.view_Size_l1, dec_lt hx, cond_true, idx_nat hx, Option.bind_some, contains_ok fu dims 0 h63 hf, hw]
          cases decide (IntKind.i64.wrap (n * x) > 65536) <;> cases dims.contains 0 <;> rfl)
        (fun n => by simp only [F.view_Size_l1, dec_end, cond_false]) fu hf 1
      rw [hloop]
      clear hloop hb this
      cases hz : dims.contains 0 with
      | true =>
        have key : ∀ (l : List Int) (n : Int), (∀ x ∈ l, 0 ≤ x ∧ x ≤ 4096) → 0 ≤ n → n ≤ 65537 → ∃ m, foldE (fun n x => cond (decide (IntKind.i64.wrap (n * x) > 65536) && !true) (some (.inr (Ex.ret ((0 : Int), (5 : Int))))) (some (.inl (if 65537 < IntKind.i64.wrap (n * x) then 65537 else IntKind.i64.wrap (n * x))))) (fun n => Ex.brk n) n l = some (Ex.brk m) ∧ (n = 0 ∨ 0 ∈ l → m = 0) := by
          intro l
          induction l with
          | nil => intro n _ _ _; exact ⟨n, rfl, fun h => by simpa using h⟩
          | cons x r ih =>
            intro n hr h0 h1
            have hx := hr x (List.mem_cons_self ..)
            have hm := mul_ran h0 h1 hx.1 hx.2
            have hw : IntKind.i64.wrap (n * x) = n * x := i64 (by omega) (by omega)
            simp only [foldE, Bool.not_true, Bool.and_false, cond_false, hw]
            obtain ⟨m, h2, h3⟩ := ih (if 65537 < n * x then 65537 else n * x) (fun y hy => hr y (List.mem_cons_of_mem _ hy)) (by split <;> omega) (by split <;> omega)
            refine ⟨m, by simpa [hw] using h2, fun hor => h3 ?_⟩
            rcases hor with rfl | hor
            · left; simp
            · rcases List.mem_cons.1 hor with rfl | hor
              · left; simp
              · exact .inr hor
        obtain ⟨m, h2, h3⟩ := key dims 1 hg (by omega) (by omega)
        rw [h2]
        have : m = 0 := h3 (.inr (by simpa using hz))
        simp [bindE, this]
      | false =>
        have hz' : ∀ x ∈ dims, x ≠ 0 := fun x hx e => by
          subst e
          have : dims.contains 0 = true := by simpa using hx
          rw [hz] at this; cases this
        have key : ∀ (l : List Int) (n : Int), (∀ x ∈ l, 1 ≤ x ∧ x ≤ 4096) → 0 ≤ n → n ≤ 65536 → foldE (fun n x => cond (decide (IntKind.i64.wrap (n * x) > 65536) && !false) (some (.inr (Ex.ret ((0 : Int), (5 : Int))))) (some (.inl (if 65537 < IntKind.i64.wrap (n * x) then 65537 else IntKind.i64.wrap (n * x))))) (fun n => Ex.brk n) n l = some (match prodF n l with | none => Ex.ret (0, 5) | some m => Ex.brk m) := by
          intro l
          induction l with
          | nil => intro n _ _ _; rfl
          | cons x r ih =>
            intro n hr h0 h1
            have hx := hr x (List.mem_cons_self ..)
            have hm := mul_ran h0 h1 (by omega : 0 ≤ x) hx.2
            have hw : IntKind.i64.wrap (n * x) = n * x := i64 (by omega) (by omega)
            simp only [foldE, Bool.not_false, Bool.and_true, hw, prodF]
            by_cases hgt : n * x > 65536
            · simp [hgt]
            · have h7 : ¬ 65537 < n * x := by omega
              simp only [hgt, decide_false, cond_false, if_false, h7]
              have := ih (n * x) (fun y hy => hr y (List.mem_cons_of_mem _ hy)) hm.1 (by omega)
              simpa using this
        rw [key dims 1 (fun x hx => by have := hg x hx; have := hz' x hx; omega) (by omega) (by omega)]
        cases prodF 1 dims <;> simp [bindE]

theorem refSize_ok (fu : Nat) (dims : List Int) (h63 : dims.length ≤ 9223372036854775807) (hf : dims.length < fu) : F.adjointref1_Size fu dims = some (sizeS dims) := by
  unfold F.adjointref1_Size sizeS
  by_cases h6 : dims.length > 6
  · have : decide ((dims.length : Int) > 6) = true := by simp; omega
    simp only [this, cond_true, if_pos h6]
  · have : decide ((dims.length : Int) > 6) = false := by simp; omega
    simp only [this, cond_false, if_neg h6]
    have hloop := loop_list (body := F.adjointref1_Size_l1 fu dims) dims (fun z i => (z, i))
      (fun z x => cond (bad x) (some (.inr (Ex.ret (0, 4)))) (some (.inl (x == 0 || z)))) (fun z => Ex.brk z)
      (fun z k x hx => by
        have hw := wrap_succ (get_lt hx) h63
        simp only [F.adjointref1_Size_l1, dec_lt hx, cond_true, idx_nat hx, Option.bind_some, hw]
        unfold bad
        cases decide (x < 0) <;> cases decide (x > 4096) <;> cases x == 0 <;> rfl)
      (fun n => by simp only [F.adjointref1_Size_l1, dec_end, cond_false]) fu hf false
    rw [hloop]
    have key : ∀ (l : List Int) (z : Bool), foldE (fun z x => cond (bad x) (some (.inr (Ex.ret ((0 : Int), (4 : Int))))) (some (.inl (x == 0 || z)))) (fun z => Ex.brk z) z l = some (if l.any bad then Ex.ret (0, 4) else Ex.brk (l.contains 0 || z)) := by
      intro l
      induction l with
      | nil => intro z; simp [foldE]
      | cons x r ih =>
        intro z
        simp only [foldE, List.any_cons]
        by_cases hb : bad x = true
        · simp [hb]
        · have hb : bad x = false := by simpa using hb
          have h0 : ((0 : Int) == x) = (x == 0) := by rw [Bool.eq_iff_iff, beq_iff_eq, beq_iff_eq]; exact eq_comm
          simp only [hb, cond_false, ih, Bool.false_or, List.contains_cons]
          rw [h0]
          cases x == 0 <;> cases z <;> simp
    rw [key]
    cases hb : dims.any bad with
    | true => simp [bindE]
    | false =>
      have hg : ∀ x ∈ dims, 0 ≤ x ∧ x ≤ 4096 := fun x hx => by
        have := List.any_eq_false.1 hb x hx
        simp [bad] at this
        omega
      simp only [Bool.false_eq_true, if_false, bindE, Bool.or_false]
      cases hz : dims.contains 0 with
      | true => simp
      | false =>
        simp only [cond_false, Bool.false_eq_true, if_false]
        have hloop2 := loop_list (body := F.adjointref1_Size_l2 fu dims) dims (fun n i => (n, i))
          (fun n x => cond (decide (IntKind.i64.wrap (n * x) > 65536)) (some (.inr (Ex.ret (0, 5)))) (some (.inl (IntKind.i64.wrap (n * x))))) (fun n => Ex.brk n)
          (fun n k x hx => by
            have hw := wrap_succ (get_lt hx) h63
            simp only [F.adjointref1_Size_l2, dec_lt hx, cond_true, idx_nat hx, Option.bind_some, hw]
            cases decide (IntKind.i64.wrap (n * x) > 65536) <;> rfl)
          (fun n => by simp only [F.adjointref1_Size_l2, dec_end, cond_false]) fu hf 1
        rw [hloop2]
        have key2 : ∀ (l : List Int) (n : Int), (∀ x ∈ l, 0 ≤ x ∧ x ≤ 4096) → 0 ≤ n → n ≤ 65536 → foldE (fun n x => cond (decide (IntKind.i64.wrap (n * x) > 65536)) (some (.inr (Ex.ret ((0 : Int), (5 : Int))))) (some (.inl (IntKind.i64.wrap (n * x))))) (fun n => Ex.brk n) n l = some (match prodF n l with | none => Ex.ret (0, 5) | some m => Ex.brk m) := by
          intro l
          induction l with
          | nil => intro n _ _ _; rfl
          | cons x r ih =>
            intro n hr h0 h1
            have hx := hr x (List.mem_cons_self ..)
            have hm := mul_ran h0 h1 hx.1 hx.2
            have hw : IntKind.i64.wrap (n * x) = n * x := i64 (by omega) (by omega)
            simp only [foldE, hw, prodF]
            by_cases hgt : n * x > 65536
            · simp [hgt]
            · simp only [hgt, decide_false, cond_false, if_false]
              exact ih (n * x) (fun y hy => hr y (List.mem_cons_of_mem _ hy)) hm.1 (by omega)
        rw [key2 dims 1 hg (by omega) (by omega)]
        cases prodF 1 dims <;> simp

/-- What is wrong with an array. -/
def wrongS (a : SArray) : Int := if (sizeS a.Dims).2 ≠ 0 then (sizeS a.Dims).2 else if (sizeS a.Dims).1 ≠ (a.Data.length : Int) then 6 else 0

theorem wrong_ok (fu : Nat) (a : SArray) (h63 : a.Dims.length ≤ 9223372036854775807) (hf : a.Dims.length < fu) : F.array_Wrong fu a = some (wrongS a) := by
  unfold F.array_Wrong wrongS
  simp only [size_ok fu a.Dims h63 hf, Option.bind_some]
  by_cases h : (sizeS a.Dims).2 = 0
  · by_cases h2 : (sizeS a.Dims).1 = (a.Data.length : Int)
    · simp [h, h2]
    · have : ((sizeS a.Dims).1 != (a.Data.length : Int)) = true := by simpa using h2
      simp [h, h2, this]
  · have : ((sizeS a.Dims).2 == 0) = false := by simpa using h
    simp [h, this]
theorem refWrong_ok (fu : Nat) (a : SArray) (h63 : a.Dims.length ≤ 9223372036854775807) (hf : a.Dims.length < fu) : F.adjointref2_Wrong fu a = some (wrongS a) := by
  unfold F.adjointref2_Wrong wrongS
  simp only [refSize_ok fu a.Dims h63 hf, Option.bind_some]
  by_cases h : (sizeS a.Dims).2 = 0
  · by_cases h2 : (sizeS a.Dims).1 = (a.Data.length : Int)
    · simp [h, h2]
    · have : ((a.Data.length : Int) != (sizeS a.Dims).1) = true := by simp; omega
      simp [h, h2, this]
  · have : ((sizeS a.Dims).2 != 0) = true := by simpa using h
    simp [h, this]

theorem wrong_len {a : SArray} (h : wrongS a = 0) : (sizeS a.Dims).2 = 0 ∧ (sizeS a.Dims).1 = (a.Data.length : Int) := by
  unfold wrongS at h
  split at h
  · contradiction
  · split at h
    · cases h
    · rename_i h1 h2; exact ⟨by simpa using h1, by simpa using h2⟩

theorem innerLoop (fu : Nat) (a b : SArray) (h : a.Data.length = b.Data.length) (h63 : a.Data.length ≤ 9223372036854775807) (hf : a.Data.length < fu) : ∃ r, loopF (F.array_Inner_l1 fu a b) fu (0, 0) = some r ∧ True := by
  refine loopF_inv (fun x : Int × Int => 0 ≤ x.2 ∧ x.2 ≤ (a.Data.length : Int)) (fun x : Int × Int => a.Data.length - x.2.toNat) (fun _ => True) ?_ fu (0, 0) (by simp) (by simpa using hf)
  rintro ⟨s, i⟩ ⟨h0, h1⟩
  simp only at h0 h1
  by_cases hi : i < (a.Data.length : Int)
  · left
    obtain ⟨x, hx, _⟩ := idx_lt (l := a.Data) h0 hi
    obtain ⟨y, hy, _⟩ := idx_lt (l := b.Data) h0 (by omega)
    refine ⟨_, by simp only [F.array_Inner_l1, hi, decide_true, cond_true, hx, hy, Option.bind_some]; rfl, ?_, ?_⟩
    · simp only; rw [i64 (by omega) (by omega)]; omega
    · simp only; rw [i64 (by omega) (by omega)]; omega
  · right
    exact ⟨s, by simp only [F.array_Inner_l1, hi, decide_false, cond_false], trivial⟩

theorem inner_same (fu : Nat) (a b : SArray) (ha : a.Dims.length ≤ 9223372036854775807) (hb : b.Dims.length ≤ 9223372036854775807) (hd : a.Data.length ≤ 9223372036854775807) (f1 : a.Dims.length < fu) (f2 : b.Dims.length < fu) (f3 : a.Data.length < fu) :
    ∃ r, F.array_Inner fu a b = some r ∧ F.adjointref2_Inner fu a b = some r := by
  simp only [F.array_Inner, F.adjointref2_Inner, wrong_ok fu a ha f1, wrong_ok fu b hb f2, refWrong_ok fu a ha f1, refWrong_ok fu b hb f2, equal_ok fu _ _ ha f1, sameList_ok fu _ _ ha f1, Option.bind_some]
  by_cases h1 : wrongS a = 0
  · by_cases h2 : wrongS b = 0
    · simp only [h1, h2, bne_self_eq_false, cond_false]
      by_cases h3 : a.Dims = b.Dims
      · have e1 := (wrong_len h1).2
        have e2 := (wrong_len h2).2
        rw [h3] at e1
        obtain ⟨r, hr, _⟩ := innerLoop fu a b (by omega) hd f3
        have hr2 : loopF (F.adjointref2_Inner_l1 fu a b) fu (0, 0) = some r := hr
        exact ⟨(r, 0), by simp [h3, hr], by simp [h3, hr2]⟩
      · exact ⟨(0, 6), by simp [h3], by simp [h3]⟩
    · have : (wrongS b != 0) = true := by simpa using h2
      exact ⟨(0, wrongS b), by simp [h1, this], by simp [h1, this]⟩
  · have : (wrongS a != 0) = true := by simpa using h1
    exact ⟨(0, wrongS a), by simp [this], by simp [this]⟩

theorem arrayInnerLaw (a b : SArray) (ka : okSArray a) (kb : okSArray b) : ∃ fu, F.adjointlaw2_ArrayInner fu a b = some true := by
  obtain ⟨r, h1, h2⟩ := inner_same (a.Dims.length + b.Dims.length + a.Data.length + 1) a b ka.1.1 kb.1.1 ka.2.1 (by omega) (by omega) (by omega)
  exact ⟨a.Dims.length + b.Dims.length + a.Data.length + 1, by simp only [F.adjointlaw2_ArrayInner, h1, h2, Option.bind_some, beq_self_eq_true, cond_true]⟩
end Go.Proofs.Ytcbaolgciiieeaa
