/-
  Arrays: the plain law: views: whole, wrong, spread, turned.
-/
import Derived.Test.YtcbaolgciiieeaaAdV
set_option linter.unusedSectionVars false
set_option linter.unusedSimpArgs false
set_option linter.unusedVariables false
namespace Go.DN.Pl
open Go.AM Go.PL
def prodR : List Int → Int
 | [] => 1
 | x :: r => prodR r * x
def stepsR : List Int → List Int
 | [] => []
 | _ :: r => prodR r :: stepsR r
theorem prodF_eq : ∀ (l : List Int) (n : Int), prodF n l = n * prodR l
 | [], n => by simp [prodF, prodR]
 | x :: r, n => by
  rw [show prodF n (x :: r) = prodF (n * x) r from rfl, prodF_eq r, show prodR (x :: r) = prodR r * x from rfl, Int.mul_assoc, Int.mul_comm x]
theorem prodR_pos : ∀ (l : List Int), (∀ x ∈ l, 1 ≤ x) → 1 ≤ prodR l
 | [], _ => Int.le_refl 1
 | x :: r, h => by
  have h1 := prodR_pos r fun y hy => h y (List.mem_cons_of_mem _ hy)
  have h2 := h x List.mem_cons_self
  have := Int.mul_le_mul h1 h2 (by omega) (by omega)
  rw [show prodR (x :: r) = prodR r * x from rfl]; omega
theorem prodR_drop : ∀ (l : List Int), (∀ x ∈ l, 1 ≤ x) → ∀ k, prodR (l.drop k) ≤ prodR l
 | [], _, k => by simp
 | x :: r, h, 0 => by simp
 | x :: r, h, k + 1 => by
  have h1 := prodR_pos r fun y hy => h y (List.mem_cons_of_mem _ hy)
  have h2 := h x List.mem_cons_self
  have h3 := prodR_drop r (fun y hy => h y (List.mem_cons_of_mem _ hy)) k
  have := Int.mul_le_mul_of_nonneg_left h2 (show 0 ≤ prodR r by omega)
  rw [List.drop_succ_cons, show prodR (x :: r) = prodR r * x from rfl]; omega
theorem stepsR_len : ∀ (l : List Int), (stepsR l).length = l.length
 | [] => rfl
 | x :: r => by rw [show stepsR (x :: r) = prodR r :: stepsR r from rfl, List.length_cons, stepsR_len r, List.length_cons]
theorem stepsR_get : ∀ (l : List Int) (k : Nat), k < l.length → atI (stepsR l) k = prodR (l.drop (k + 1))
 | [], k, h => by simp at h
 | x :: r, 0, h => rfl
 | x :: r, k + 1, h => by
  rw [List.drop_succ_cons, ← stepsR_get r k (by simp at h; omega)]; rfl
def stepsS (d : List Int) : List Int := if hasB d 0 then List.replicate d.length 0 else stepsR d
theorem size_zero {d : List Int} (h : (sizeS d).2 = 0) : d.length ≤ 6 ∧ (∀ x ∈ d, 0 ≤ x ∧ x ≤ 4096) ∧ (hasB d 0 = false → (∀ x ∈ d, 1 ≤ x) ∧ prodR d ≤ 65536 ∧ (sizeS d).1 = prodR d) ∧ (hasB d 0 = true → (sizeS d).1 = 0) := by
  unfold sizeS at h ⊢
  by_cases h6 : d.length > 6
  · rw [if_pos h6] at h; simp at h
  · rw [if_neg h6] at h ⊢
    cases hb : d.any badD with
    | true => rw [hb] at h; simp at h
    | false =>
      have hg := good_dims hb
      rw [hb] at h
      simp only [Bool.false_eq_true, if_false] at h ⊢
      refine ⟨by omega, hg, fun hz => ?_, fun hz => ?_⟩
      · rw [hz] at h ⊢
        simp only [Bool.false_eq_true, if_false] at h ⊢
        by_cases h5 : prodF 1 d > 65536
        · rw [if_pos h5] at h; simp at h
        · rw [if_neg h5]
          rw [prodF_eq, Int.one_mul] at h5 ⊢
          refine ⟨fun x hx => ?_, by omega, rfl⟩
          have := hg x hx
          have : x ≠ 0 := fun e => by
            subst e
            have := hasB_mem.2 hx
            rw [this] at hz; cases hz
          omega
      · rw [hz]; rfl
theorem rowMajor_ok (fu : Nat) (d : List Int) (h : (sizeS d).2 = 0) (hf : 4000000 < fu) : F.view_rowMajor fu d = some (stepsS d) := by
 obtain ⟨h6, hg, hp, _⟩ := size_zero h
 unfold F.view_rowMajor F.slices_Backward F.slices_Backward_1 stepsS
 rw [contains_ok fu d 0 (by omega) hf, chk_pos (by omega)]
 simp only [Option.bind_some, Int.toNat_natCast]
 cases hz : hasB d 0 with
 | true => rfl
 | false =>
  obtain ⟨h1, h2, _⟩ := hp hz
  have hl := loop_count (body := F.slices_Backward_1_l1 fu d) d.length (fun j => ((d.length : Int) - 1 - (j : Int), d, prodR (d.drop (d.length - j)), List.replicate (d.length - j) 0 ++ stepsR (d.drop (d.length - j)))) (Ex.brk (d, prodR d, stepsR d))
   (fun j hj => by
    obtain ⟨k, hk⟩ : ∃ k : Nat, d.length - j = k + 1 := ⟨d.length - j - 1, by omega⟩
    have e1 : (d.length : Int) - 1 - (j : Int) = (k : Int) := by omega
    have hx := get_atI (l := d) (show k < d.length by omega)
    have e2 : d.length - (j + 1) = k := by omega
    have e3 : (d.length : Int) - 1 - ((j + 1 : Nat) : Int) = (k : Int) - 1 := by omega
    have hg0 : (List.replicate (k + 1) 0 ++ stepsR (d.drop (k + 1)))[k]? = some (0 : Int) := by
     rw [List.getElem?_append_left (by simp), List.getElem?_replicate]; simp
    have hw : IntKind.i64.wrap ((k : Int) - 1) = (k : Int) - 1 := i64 (by omega) (by omega)
    have hd : d.drop k = atI d k :: d.drop (k + 1) := by
     rw [List.drop_eq_getElem_cons (show k < d.length by omega), ← (List.getElem?_eq_some_iff.1 hx).2]
    have q1 := prodR_drop d h1 k
    have q2 := prodR_pos (d.drop k) fun x hx => h1 x (List.mem_of_mem_drop hx)
    rw [e1, e2, e3, hk]
    rw [hd, show prodR (atI d k :: d.drop (k + 1)) = prodR (d.drop (k + 1)) * atI d k from rfl] at q1 q2
    have hm : IntKind.i64.wrap (prodR (d.drop (k + 1)) * atI d k) = prodR (d.drop (k + 1)) * atI d k := i64 (by omega) (by omega)
    simp only [F.slices_Backward_1_l1, dec_true (show (k : Int) ≥ 0 by omega), cond_true, idx_nat hx, Option.bind_some, F.view_rowMajor_y, idx_nat hg0, hw, hm, Int.toNat_natCast, Bool.not_true, cond_false, List.length_set, natBeq]
    rw [hd, List.replicate_succ', List.append_assoc, List.singleton_append, set_mid _ _ _ _ k (by simp)]
    rfl)
   (by
    have e1 : ¬ ((d.length : Int) - 1 - (d.length : Int) ≥ 0) := by omega
    simp only [F.slices_Backward_1_l1, dec_false e1, cond_false, Nat.sub_self, List.replicate_zero, List.nil_append, List.drop_zero]) fu (by omega)
  have e0 : IntKind.i64.wrap ((d.length : Int) - 1) = (d.length : Int) - 1 - ((0 : Nat) : Int) := by rw [i64 (by omega) (by omega)]; simp
  simp only [Nat.sub_zero, List.drop_length] at hl
  simp only [cond_false, e0]
  rw [show (stepsR ([] : List Int)) = [] from rfl, List.append_nil, show prodR [] = 1 from rfl] at hl
  have hq : (stepsR d).length = (List.replicate d.length (0 : Int)).length := by rw [stepsR_len, List.length_replicate]
  rw [hl]
  simp only [bindE, Option.bind_some, hq, natBeq, cond_true]
  simp
def mulW (n x : Int) : Int := IntKind.wrap .i64 (n * x)
theorem mulW_eq : ∀ (l : List Int) (n : Int), 1 ≤ n → (∀ x ∈ l, 1 ≤ x) → n * prodR l ≤ 65536 → l.foldl mulW n = n * prodR l
 | [], n, _, _, _ => by simp [prodR]
 | x :: r, n, h0, h, hb => by
  have h1 := prodR_pos r fun y hy => h y (List.mem_cons_of_mem _ hy)
  have h2 := h x List.mem_cons_self
  have e : n * prodR (x :: r) = n * x * prodR r := by
   rw [show prodR (x :: r) = prodR r * x from rfl, Int.mul_assoc, Int.mul_comm x]
  rw [e] at hb ⊢
  have h3 : 1 ≤ n * x := by have := Int.mul_le_mul h0 h2 (by omega) (by omega); omega
  have h4 : n * x ≤ n * x * prodR r := by have := Int.mul_le_mul_of_nonneg_left h1 (show 0 ≤ n * x by omega); omega
  have h5 : mulW n x = n * x := i64 (by omega) (by omega)
  rw [List.foldl_cons, h5]
  exact mulW_eq r (n * x) h3 (fun y hy => h y (List.mem_cons_of_mem _ hy)) hb
theorem lpart_drop {α : Type} (l : List α) (k : Nat) : lpart l (k : Int) (l.length : Int) = l.drop k := by
 unfold lpart
 simp only [Int.toNat_natCast]
 exact List.take_of_length_le (by simp)
theorem refSteps_ok (fu : Nat) (d : List Int) (h : (sizeS d).2 = 0) (hf : 4000000 < fu) : F.adjointref1_Steps fu d = some (stepsS d) := by
 obtain ⟨h6, hg, hp, _⟩ := size_zero h
 unfold F.adjointref1_Steps
 have hlen : (stepsS d).length = d.length := by unfold stepsS; split <;> simp [stepsR_len]
 have hl := loop_count (body := F.adjointref1_Steps_l2 fu d) d.length (fun k => ((k : Int), (stepsS d).take k)) (stepsS d)
  (fun k hk => by
   have hx := get_atI hk
   have hw := wrap_succ hk (by omega)
   have hi := loop_acc (body := F.adjointref1_Steps_l1 fu d k) (d.drop (k + 1)) (fun j => (((d.drop (k + 1)).take j).foldl mulW 1, (j : Int))) ((d.drop (k + 1)).foldl mulW 1)
    (fun j x hx => by
     have hw2 := wrap_succ (get_lt hx) (by rw [List.length_drop]; omega)
     have hlt := get_lt hx
     simp only [F.adjointref1_Steps_l1, hw, lpart_drop, dec_lt hx, cond_true, idx_nat hx, Option.bind_some, hw2, take_succ hx, List.foldl_append, List.foldl_cons, List.foldl_nil]
     rfl)
    (by simp only [F.adjointref1_Steps_l1, hw, lpart_drop, dec_end, cond_false, List.take_length]) fu (by rw [List.length_drop]; omega)
   rw [List.take_zero, show ((0 : Nat) : Int) = 0 from rfl, List.foldl_nil] at hi
   have hs : (stepsS d)[k]? = some (if hasB d 0 then 0 else (d.drop (k + 1)).foldl mulW 1) := by
    unfold stepsS
    cases hz : hasB d 0 with
    | true => simp only [if_true]; rw [List.getElem?_replicate, if_pos hk]
    | false =>
     obtain ⟨h1, h2, _⟩ := hp hz
     simp only [Bool.false_eq_true, if_false]
     rw [get_atI (l := stepsR d) (by rw [stepsR_len]; exact hk), stepsR_get d k hk]
     have := prodR_drop d h1 (k + 1)
     rw [mulW_eq _ 1 (by omega) (fun x hx => h1 x (List.mem_of_mem_drop hx)) (by omega), Int.one_mul]
   have hlt := lenT hs
   simp only [F.adjointref1_Steps_l2, dec_lt hx, cond_true, hw, hi, has1_ok fu d 0 (by omega) hf, Option.bind_some]
   rw [chk_pos (by omega), take_succ hs]
   simp only [Option.bind_some]
   have ec : ∀ n : Int, (cond (hasB d 0) (some (0 : Int)) (some n)) = some (if hasB d 0 then 0 else n) := fun n => by cases hasB d 0 <;> rfl
   rw [ec]
   simp only [Option.bind_some]
   rw [chk_app (by simp only [List.length_singleton]; omega) (by simp only [List.length_singleton]; omega)]
   rfl)
  (by
   have : (stepsS d).take d.length = stepsS d := by rw [← hlen]; exact List.take_length
   simp only [F.adjointref1_Steps_l2, dec_end, cond_false, this]) fu (by omega)
 rw [List.take_zero, show ((0 : Nat) : Int) = 0 from rfl] at hl
 simp only [hl, Option.bind_some]
def nilV : SView := ⟨0, [], []⟩
def wholeS (d : List Int) : SView × Int := if (sizeS d).2 = 0 then (⟨0, d, stepsS d⟩, 0) else (nilV, (sizeS d).2)
theorem whole_ok (fu : Nat) (d : List Int) (hd : d.length ≤ 4000000) (hf : 4000000 < fu) : F.view_Whole fu d = some (wholeS d) := by
 unfold F.view_Whole wholeS
 simp only [size_ok fu d hd hf, Option.bind_some]
 by_cases h : (sizeS d).2 = 0
 · simp only [bne_false h, cond_false, clone_ok fu d (by omega), rowMajor_ok fu d h hf, Option.bind_some, if_pos h]
 · simp only [bne_true h, cond_true, if_neg h]; rfl
theorem whole1_ok (fu : Nat) (d : List Int) (hd : d.length ≤ 4000000) (hf : 4000000 < fu) : F.adjointref1_Whole fu d = some (wholeS d) := by
 unfold F.adjointref1_Whole wholeS
 simp only [refSize_ok fu d hd hf, Option.bind_some]
 by_cases h : (sizeS d).2 = 0
 · simp only [bne_false h, cond_false, refSteps_ok fu d h hf, Option.bind_some, if_pos h]
 · simp only [bne_true h, cond_true, if_neg h]; rfl
def nearB (n : Int) : Bool := decide (n ≥ -1099511627776) && decide (n ≤ 1099511627776)
def wrongS (v : SView) : Int :=
 if (sizeS v.Dims).2 ≠ 0 then (sizeS v.Dims).2 else if v.Steps.length ≠ v.Dims.length then 6 else if (!(nearB v.Start) || v.Steps.any fun s => !(nearB s)) then 4 else 0
theorem near_ok (fu : Nat) (n : Int) : F.view_near fu n = some (nearB n) := by unfold F.view_near; rw [cc2]; rfl
theorem far_ok (fu : Nat) (n : Int) : F.adjointref1_far fu n = some (!(nearB n)) := by
 unfold F.adjointref1_far
 rw [cc]
 simp only [Option.bind_some]
 congr 1
 unfold nearB
 rw [Bool.eq_iff_iff]
 simp
 omega
theorem nearC_ok (fu : Nat) (s : List Int) (hs : s.length ≤ 4000000) (hf : 4000000 < fu) : F.slices_ContainsFunc_2 fu s = some (s.any fun s => !(nearB s)) := by
 obtain ⟨r, h1, h2⟩ := indexP_loop s (F.view_Wrong_1 fu) (fun s => !(nearB s)) (fun x => by unfold F.view_Wrong_1; rw [near_ok]; rfl) (by omega) fu (by omega)
 have h3 : loopF (F.slices_IndexFunc_2_l1 fu s) fu 0 = some r := h1
 unfold F.slices_ContainsFunc_2 F.slices_IndexFunc_2
 cases r with
 | brk _ =>
  simp only at h2
  simp only [h3, bindE, Option.bind_some, h2]
  rfl
 | ret i =>
  simp only at h2
  simp only [h3, bindE, Option.bind_some, h2.2]
  simpa using h2.1
theorem wrong_ok (fu : Nat) (v : SView) (hd : v.Dims.length ≤ 4000000) (hs : v.Steps.length ≤ 4000000) (hf : 4000000 < fu) : F.view_Wrong fu v = some (wrongS v) := by
  unfold F.view_Wrong wrongS
  simp only [size_ok fu v.Dims hd hf, Option.bind_some]
  by_cases h : (sizeS v.Dims).2 = 0
  · rw [if_neg (by omega), bne_false h, cond_false]
    by_cases h2 : v.Steps.length = v.Dims.length
    · rw [if_neg (by omega), bne_false (by omega), cond_false]
      simp only [near_ok, nearC_ok fu _ hs hf, Option.bind_some, cc]
      cases (!(nearB v.Start) || v.Steps.any fun s => !(nearB s)) <;> rfl
    · rw [if_pos (by omega), bne_true (by omega), cond_true]
  · rw [if_pos h, bne_true h, cond_true]
theorem wrong1_ok (fu : Nat) (v : SView) (hd : v.Dims.length ≤ 4000000) (hs : v.Steps.length ≤ 4000000) (hf : 4000000 < fu) : F.adjointref1_Wrong fu v = some (wrongS v) := by
  unfold F.adjointref1_Wrong wrongS
  simp only [refSize_ok fu v.Dims hd hf, Option.bind_some]
  by_cases h : (sizeS v.Dims).2 = 0
  · rw [if_neg (by omega), bne_false h, cond_false]
    by_cases h2 : v.Steps.length = v.Dims.length
    · rw [if_neg (by omega), bne_false (by omega), cond_false]
      simp only [far_ok, Option.bind_some]
      cases nearB v.Start with
      | false => rfl
      | true =>
        have hl := loop_ends (body := F.adjointref1_Wrong_l1 fu v) v.Steps (fun k => (k : Int)) (fun s => if !(nearB s) then some (Ex.ret 4 : Ex Unit Int) else none) (Ex.brk ())
          (fun k x hx => by
            have hw := wrap_succ (get_lt hx) (by omega)
            simp only [F.adjointref1_Wrong_l1, dec_lt hx, cond_true, idx_nat hx, Option.bind_some, hw, far_ok]
            cases nearB x <;> rfl)
          (by simp only [F.adjointref1_Wrong_l1, dec_end, cond_false]) fu (by omega)
        rw [show ((0 : Nat) : Int) = 0 from rfl] at hl
        rw [Bool.not_true, cond_false, hl, findCst]
        cases v.Steps.any fun s => !(nearB s) <;> rfl
    · rw [if_pos (by omega), bne_true (by omega), cond_true]
  · rw [if_pos h, bne_true h, cond_true]
theorem wrong_zero {v : SView} (h : wrongS v = 0) : (sizeS v.Dims).2 = 0 ∧ v.Steps.length = v.Dims.length ∧ nearB v.Start = true ∧ ∀ s ∈ v.Steps, nearB s = true := by
  unfold wrongS at h
  split at h
  · omega
  · split at h
    · omega
    · split at h
      · omega
      · rename_i h1 h2 h3
        rw [Bool.not_eq_true, Bool.or_eq_false_iff, List.any_eq_false] at h3
        refine ⟨by omega, by omega, by simpa using h3.1, fun s hs => by simpa using h3.2 s hs⟩
end Go.DN.Pl
