/-
  Arrays: the plain law: views: whole, wrong, spread, turned.
-/
import Derived.Test.YtcbaolgciiieeaaGreatAdV
set_option linter.unusedSectionVars false
set_option linter.unusedSimpArgs false
set_option linter.unusedVariables false
namespace Go.DN.Pl
open Go.AM Go.PL
def prodR : List Int → Int
 | [] => 1
 | x :: r => prodR r * x
def stepsR : List Int → List Int
 | [] => []
 | _ :: r => prodR r :: stepsR r
theorem prodF_eq : ∀ (l : List Int) (n : Int), prodF n l = n * prodR l
 | [], n => by simp [prodF, prodR]
 | x :: r, n => by
  rw [show prodF n (x :: r) = prodF (n * x) r from rfl, prodF_eq r, show prodR (x :: r) = prodR r * x from rfl, Int.mul_assoc, Int.mul_comm x]
theorem prodR_pos : ∀ (l : List Int), (∀ x ∈ l, 1 ≤ x) → 1 ≤ prodR l
 | [], _ => Int.le_refl 1
 | x :: r, h => by
  have h1 := prodR_pos r fun y hy => h y (List.mem_cons_of_mem _ hy)
  have h2 := h x List.mem_cons_self
  have := Int.mul_le_mul h1 h2 (by omega) (by omega)
  rw [show prodR (x :: r) = prodR r * x from rfl]; omega
theorem prodR_drop : ∀ (l : List Int), (∀ x ∈ l, 1 ≤ x) → ∀ k, prodR (l.drop k) ≤ prodR l
 | [], _, k => by simp
 | x :: r, h, 0 => by simp
 | x :: r, h, k + 1 => by
  have h1 := prodR_pos r fun y hy => h y (List.mem_cons_of_mem _ hy)
  have h2 := h x List.mem_cons_self
  have h3 := prodR_drop r (fun y hy => h y (List.mem_cons_of_mem _ hy)) k
  have := Int.mul_le_mul_of_nonneg_left h2 (show 0 ≤ prodR r by omega)
  rw [List.drop_succ_cons, show prodR (x :: r) = prodR r * x from rfl]; omega
theorem stepsR_len : ∀ (l : List Int), (stepsR l).length = l.length
 | [] => rfl
 | x :: r => by rw [show stepsR (x :: r) = prodR r :: stepsR r from rfl, List.length_cons, stepsR_len r, List.length_cons]
theorem stepsR_get : ∀ (l : List Int) (k : Nat), k < l.length → atI (stepsR l) k = prodR (l.drop (k + 1))
 | [], k, h => by simp at h
 | x :: r, 0, h => rfl
 | x :: r, k + 1, h => by
  rw [List.drop_succ_cons, ← stepsR_get r k (by simp at h; omega)]; rfl
def stepsS (d : List Int) : List Int := if hasB d 0 then List.replicate d.length 0 else stepsR d
theorem size_zero {d : List Int} (h : (sizeS d).2 = 0) : d.length ≤ 6 ∧ (∀ x ∈ d, 0 ≤ x ∧ x ≤ 4096) ∧ (hasB d 0 = false → (∀ x ∈ d, 1 ≤ x) ∧ prodR d ≤ 65536 ∧ (sizeS d).1 = prodR d) ∧ (hasB d 0 = true → (sizeS d).1 = 0) := by
  unfold sizeS at h ⊢
  by_cases h6 : d.length > 6
  · rw [if_pos h6] at h; simp at h
  · rw [if_neg h6] at h ⊢
    cases hb : d.any badD with
    | true => rw [hb] at h; simp at h
    | false =>
      have hg := good_dims hb
      rw [hb] at h
      simp only [Bool.false_eq_true, if_false] at h ⊢
      refine ⟨by omega, hg, fun hz => ?_, fun hz => ?_⟩
      · rw [hz] at h ⊢
        simp only [Bool.false_eq_true, if_false] at h ⊢
        by_cases h5 : prodF 1 d > 65536
        · rw [if_pos h5] at h; simp at h
        · rw [if_neg h5]
          rw [prodF_eq, Int.one_mul] at h5 ⊢
          refine ⟨fun x hx => ?_, by omega, rfl⟩
          have := hg x hx
          have : x ≠ 0 := fun e => by
            subst e
            have := hasB_mem.2 hx
            rw [this] at hz; cases hz
          omega
      · rw [hz]; rfl
def mulW (n x : Int) : Int := IntKind.wrap .i64 (n * x)
theorem mulW_eq : ∀ (l : List Int) (n : Int), 1 ≤ n → (∀ x ∈ l, 1 ≤ x) → n * prodR l ≤ 65536 → l.foldl mulW n = n * prodR l
 | [], n, _, _, _ => by simp [prodR]
 | x :: r, n, h0, h, hb => by
  have h1 := prodR_pos r fun y hy => h y (List.mem_cons_of_mem _ hy)
  have h2 := h x List.mem_cons_self
  have e : n * prodR (x :: r) = n * x * prodR r := by
   rw [show prodR (x :: r) = prodR r * x from rfl, Int.mul_assoc, Int.mul_comm x]
  rw [e] at hb ⊢
  have h3 : 1 ≤ n * x := by have := Int.mul_le_mul h0 h2 (by omega) (by omega); omega
  have h4 : n * x ≤ n * x * prodR r := by have := Int.mul_le_mul_of_nonneg_left h1 (show 0 ≤ n * x by omega); omega
  have h5 : mulW n x = n * x := i64 (by omega) (by omega)
  rw [List.foldl_cons, h5]
  exact mulW_eq r (n * x) h3 (fun y hy => h y (List.mem_cons_of_mem _ hy)) hb
theorem lpart_drop {α : Type} (l : List α) (k : Nat) : lpart l (k : Int) (l.length : Int) = l.drop k := by
 unfold lpart
 simp only [Int.toNat_natCast]
 exact List.take_of_length_le (by simp)
theorem refSteps_ok (fu : Nat) (d : List Int) (h : (sizeS d).2 = 0) (hf : 4000000 < fu) : F.adjointref1_Steps fu d = some (stepsS d) := by
 obtain ⟨h6, hg, hp, _⟩ := size_zero h
 unfold F.adjointref1_Steps
 have hlen : (stepsS d).length = d.length := by unfold stepsS; split <;> simp [stepsR_len]
 have hl := loop_count (body := F.adjointref1_Steps_l2 fu d) d.length (fun k => ((k : Int), (stepsS d).take k)) (stepsS d)
  (fun k hk => by
   have hx := get_atI hk
   have hw := wrap_succ hk (by omega)
   have hi := loop_acc (body := F.adjointref1_Steps_l1 fu d k) (d.drop (k + 1)) (fun j => (((d.drop (k + 1)).take j).foldl mulW 1, (j : Int))) ((d.drop (k + 1)).foldl mulW 1)
    (fun j x hx => by
     have hw2 := wrap_succ (get_lt hx) (by rw [List.length_drop]; omega)
     have hlt := get_lt hx
     simp only [F.adjointref1_Steps_l1, hw, lpart_drop, dec_lt hx, cond_true, idx_nat hx, Option.bind_some, hw2, take_succ hx, List.foldl_append, List.foldl_cons, List.foldl_nil]
     rfl)
    (by simp only [F.adjointref1_Steps_l1, hw, lpart_drop, dec_end, cond_false, List.take_length]) fu (by rw [List.length_drop]; omega)
   rw [List.take_zero, show ((0 : Nat) : Int) = 0 from rfl, List.foldl_nil] at hi
   have hs : (stepsS d)[k]? = some (if hasB d 0 then 0 else (d.drop (k + 1)).foldl mulW 1) := by
    unfold stepsS
    cases hz : hasB d 0 with
    | true => simp only [if_true]; rw [List.getElem?_replicate, if_pos hk]
    | false =>
     obtain ⟨h1, h2, _⟩ := hp hz
     simp only [Bool.false_eq_true, if_false]
     rw [get_atI (l := stepsR d) (by rw [stepsR_len]; exact hk), stepsR_get d k hk]
     have := prodR_drop d h1 (k + 1)
     rw [mulW_eq _ 1 (by omega) (fun x hx => h1 x (List.mem_of_mem_drop hx)) (by omega), Int.one_mul]
   have hlt := lenT hs
   simp only [F.adjointref1_Steps_l2, dec_lt hx, cond_true, hw, hi, has1_ok fu d 0 (by omega) hf, Option.bind_some]
   rw [chk_pos (by omega), take_succ hs]
   simp only [Option.bind_some]
   have ec : ∀ n : Int, (cond (hasB d 0) (some (0 : Int)) (some n)) = some (if hasB d 0 then 0 else n) := fun n => by cases hasB d 0 <;> rfl
   rw [ec]
   simp only [Option.bind_some]
   rw [chk_app (by simp only [List.length_singleton]; omega) (by simp only [List.length_singleton]; omega)]
   rfl)
  (by
   have : (stepsS d).take d.length = stepsS d := by rw [← hlen]; exact List.take_length
   simp only [F.adjointref1_Steps_l2, dec_end, cond_false, this]) fu (by omega)
 rw [List.take_zero, show ((0 : Nat) : Int) = 0 from rfl] at hl
 simp only [hl, Option.bind_some]
end Go.DN.Pl
