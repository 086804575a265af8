/-
  Arrays: the plain law: what operations cost; plain operations.
-/
import Derived.Test.YtongekoajbcliaaAeE
set_option linter.unusedSectionVars false
set_option linter.unusedSimpArgs false
set_option linter.unusedVariables false
set_option maxRecDepth 20000
namespace Go.DN.Pl
open Go.AM Go.PL
theorem prodR_append (l m : List Int) : prodR (l ++ m) = prodR l * prodR m := by
 induction l with
 | nil => simp [prodR]
 | cons x r ih =>
  rw [List.cons_append, show prodR (x :: (r ++ m)) = prodR (r ++ m) * x from rfl, ih, show prodR (x :: r) = prodR r * x from rfl, Int.mul_assoc, Int.mul_comm (prodR m), Int.mul_assoc]
theorem prodR_perm {l m : List Int} (h : l.Perm m) : prodR l = prodR m := by
 induction h with
 | nil => rfl
 | cons x _ ih => rw [show ∀ r : List Int, prodR (x :: r) = prodR r * x from fun _ => rfl, show ∀ r : List Int, prodR (x :: r) = prodR r * x from fun _ => rfl, ih]
 | swap x y l => rw [show prodR (y :: x :: l) = prodR l * x * y from rfl, show prodR (x :: y :: l) = prodR l * y * x from rfl, Int.mul_assoc, Int.mul_comm x, ← Int.mul_assoc]
 | trans _ _ h1 h2 => exact h1.trans h2
theorem freeU_mem (ins : List Int) : ∀ (k : Nat) (x : Int), x ∈ freeU ins k ↔ (0 ≤ x ∧ x < (k : Int)) ∧ x ∉ ins
  | 0, x => by
    rw [show freeU ins 0 = [] from rfl]
    simp only [List.not_mem_nil, false_iff, not_and]
    intro h; omega
  | k + 1, x => by
    have ih := freeU_mem ins k x
    rw [show freeU ins (k + 1) = if hasB ins k then freeU ins k else freeU ins k ++ [(k : Int)] from rfl]
    split
    · rename_i hb
      rw [ih]
      have hm := hasB_mem.1 hb
      constructor
      · rintro ⟨h1, h2⟩; exact ⟨by omega, h2⟩
      · rintro ⟨h1, h2⟩
        have : x ≠ (k : Int) := fun e => h2 (e ▸ hm)
        exact ⟨by omega, h2⟩
    · rename_i hb
      have hm : (k : Int) ∉ ins := fun h => hb (hasB_mem.2 h)
      rw [List.mem_append, ih, List.mem_singleton]
      constructor
      · rintro (⟨h1, h2⟩ | h1)
        · exact ⟨by omega, h2⟩
        · subst h1; exact ⟨by omega, hm⟩
      · rintro ⟨h1, h2⟩
        by_cases e : x = (k : Int)
        · exact .inr e
        · exact .inl ⟨by omega, h2⟩
theorem freeU_nodup (ins : List Int) : ∀ k, (freeU ins k).Nodup
  | 0 => List.nodup_nil
  | k + 1 => by
    rw [show freeU ins (k + 1) = if hasB ins k then freeU ins k else freeU ins k ++ [(k : Int)] from rfl]
    split
    · exact freeU_nodup ins k
    · rw [List.nodup_append]
      refine ⟨freeU_nodup ins k, by simp, fun a ha b hb e => ?_⟩
      rw [List.mem_singleton] at hb
      have := ((freeU_mem ins k a).1 ha).1
      omega
def iota (n : Nat) : List Int := (List.range n).map fun (i : Nat) => (i : Int)
theorem iota_mem (n : Nat) (x : Int) : x ∈ iota n ↔ 0 ≤ x ∧ x < (n : Int) := by
  unfold iota
  rw [List.mem_map]
  constructor
  · rintro ⟨i, hi, rfl⟩
    rw [List.mem_range] at hi
    omega
  · rintro ⟨h1, h2⟩
    exact ⟨x.toNat, List.mem_range.2 (by omega), by omega⟩
theorem iota_nodup (n : Nat) : (iota n).Nodup := by
 unfold iota
 rw [List.Nodup, List.pairwise_map]
 exact List.nodup_range.imp fun h e => h (by omega)
theorem split_perm {l : List Int} {n : Nat} (h : onceB l n = true) : (l ++ freeU l n).Perm (iota n) := by
  obtain ⟨h1, h2⟩ := onceB_iff.1 h
  refine (List.perm_ext_iff_of_nodup ?_ (iota_nodup n)).2 fun x => ?_
  · rw [List.nodup_append]
    refine ⟨h2, freeU_nodup l n, fun a ha b hb e => ?_⟩
    subst e
    exact ((freeU_mem l n a).1 hb).2 ha
  · rw [List.mem_append, freeU_mem, iota_mem]
    constructor
    · rintro (h | h)
      · exact h1 x h
      · exact h.1
    · intro h
      by_cases hx : x ∈ l
      · exact .inl hx
      · exact .inr ⟨h, hx⟩
theorem chosen_iota (a : List Int) : chosenL a (iota a.length) = a := by
 unfold chosenL iota
 rw [List.map_map]
 apply List.ext_getElem?
 intro i
 rw [List.getElem?_map]
 by_cases hi : i < a.length
 · rw [List.getElem?_range hi, get_atI hi]; rfl
 · rw [List.getElem?_eq_none (by rw [List.length_range]; omega), List.getElem?_eq_none (by omega)]; rfl
theorem prod_split {a l : List Int} (h : onceB l a.length = true) : prodR (chosenL a l) * prodR (keepU a l a.length) = prodR a := by
 have hp := prodR_perm ((split_perm h).map fun i => atI a i.toNat)
 rw [List.map_append, prodR_append] at hp
 rw [show prodR ((iota a.length).map fun i => atI a i.toNat) = prodR (chosenL a (iota a.length)) from rfl, chosen_iota] at hp
 exact hp
theorem size_ran {d : List Int} (h : (sizeS d).2 = 0) : 0 ≤ (sizeS d).1 ∧ (sizeS d).1 ≤ 65536 := by
 obtain ⟨_, _, h1, h2⟩ := size_zero h
 cases hb : hasB d 0 with
 | true => rw [h2 hb]; omega
 | false =>
  obtain ⟨h3, h4, h5⟩ := h1 hb
  have := prodR_pos d h3
  omega
def sumZ (l : List (List Int)) : Int := (l.map fun x => (sizeS x).1).sum
theorem sumZ_app (l m : List (List Int)) : sumZ (l ++ m) = sumZ l + sumZ m := by unfold sumZ; rw [List.map_append, List.sum_append]
theorem sumZ_ran : ∀ (l : List (List Int)), (∀ x ∈ l, (sizeS x).2 = 0) → 0 ≤ sumZ l ∧ sumZ l ≤ 65536 * (l.length : Int)
 | [], _ => by simp [sumZ]
 | x :: r, h => by
  have h1 := size_ran (h x List.mem_cons_self)
  have h2 := sumZ_ran r fun y hy => h y (List.mem_cons_of_mem _ hy)
  have : sumZ (x :: r) = (sizeS x).1 + sumZ r := by simp [sumZ]
  rw [this, List.length_cons]
  omega
theorem weightL_ok (fu : Nat) (args : List (List Int)) (n : Int) (ha : okArgs args) (hz : ∀ a ∈ args, (sizeS a).2 = 0) (hn : 0 ≤ n ∧ n ≤ 65536) (hf : 4000000 < fu) : loopF (F.array_Weight_l1 fu args) fu (n, 0) = some (n + sumZ args) := by
 have hl := loop_acc (body := F.array_Weight_l1 fu args) args (fun k => (n + sumZ (args.take k), (k : Int))) (n + sumZ args)
  (fun k x hx => by
   have hk := get_lt hx
   have hw := wrap_succ hk (by have := ha.1; omega)
   have hxz := hz x (List.mem_of_getElem? hx)
   have h1 := size_ran hxz
   have h2 := sumZ_ran (args.take k) fun y hy => hz y (List.mem_of_mem_take hy)
   rw [lenT hx] at h2
   have := ha.1
   simp only [F.array_Weight_l1, dec_lt hx, cond_true, idx_nat hx, Option.bind_some, hw, size_ok fu x (by have := ha.2 x (List.mem_of_getElem? hx); omega) hf]
   rw [take_succ hx, sumZ_app, i64 (by omega) (by omega), show sumZ [x] = (sizeS x).1 by simp [sumZ], Int.add_assoc])
  (by simp only [F.array_Weight_l1, dec_end, cond_false, List.take_length]) fu (by have := ha.1; omega)
 rw [show sumZ (args.take 0) = 0 from rfl, Int.add_zero] at hl
 exact hl
theorem weightR3_ok (fu : Nat) (op : SOp) (args : List (List Int)) (n w : Int) (ha : okArgs args) (hz : ∀ a ∈ args, (sizeS a).2 = 0) (hn : 0 ≤ n ∧ n ≤ 65536) (hw0 : 0 ≤ w ∧ w ≤ 10000000000) (hf : 4000000 < fu) :
    loopF (F.adjointref2_Weight_l3 fu op args n) fu (w, 0) = some (w + sumZ args + if op.Kind = 17 then n * (args.length : Int) else 0) := by
  have hl := loop_acc (body := F.adjointref2_Weight_l3 fu op args n) args (fun k => (w + sumZ (args.take k) + (if op.Kind = 17 then n * (k : Int) else 0), (k : Int))) (w + sumZ args + if op.Kind = 17 then n * (args.length : Int) else 0)
    (fun k x hx => by
      have hk := get_lt hx
      have hw := wrap_succ hk (by have := ha.1; omega)
      have hxz := hz x (List.mem_of_getElem? hx)
      have h1 := size_ran hxz
      have h2 := sumZ_ran (args.take k) fun y hy => hz y (List.mem_of_mem_take hy)
      rw [lenT hx] at h2
      have := ha.1
      have h3 : 0 ≤ n * (k : Int) := Int.mul_nonneg hn.1 (by omega)
      have h4 : n * (k : Int) ≤ 65536 * 1048576 := Int.mul_le_mul hn.2 (by omega) (by omega) (by omega)
      simp only [F.adjointref2_Weight_l3, dec_lt hx, cond_true, idx_nat hx, Option.bind_some, hw, refSize_ok fu x (by have := ha.2 x (List.mem_of_getElem? hx); omega) hf]
      rw [take_succ hx, sumZ_app, show sumZ [x] = (sizeS x).1 by simp [sumZ]]
      by_cases hj : op.Kind = 17
      · simp only [hj, beq_self_eq_true, cond_true, if_true, Option.bind_some]
        rw [i64 (n := w + sumZ (args.take k) + n * (k : Int) + (sizeS x).1) (by omega) (by omega), i64 (by omega) (by omega)]
        congr 3
        have : n * ((k : Int) + 1) = n * (k : Int) + n := by rw [Int.mul_add, Int.mul_one]
        have e : ((k + 1 : Nat) : Int) = (k : Int) + 1 := by omega
        rw [e, this]; omega
      · have hb : (op.Kind == 17) = false := by simp [hj]
        simp only [hb, cond_false, if_neg hj, Option.bind_some, Int.add_zero]
        rw [i64 (by omega) (by omega), Int.add_assoc])
    (by simp only [F.adjointref2_Weight_l3, dec_end, cond_false, List.take_length]) fu (by have := ha.1; omega)
  rw [show sumZ (args.take 0) = 0 from rfl, show ((0 : Nat) : Int) = 0 from rfl, Int.mul_zero, ite_self, Int.add_zero, Int.add_zero] at hl
  exact hl
theorem foldW_zero : ∀ l : List Int, l.foldl (fun n x => IntKind.i64.wrap (n * x)) 0 = 0
 | [] => rfl
 | x :: r => by rw [List.foldl_cons, Int.zero_mul]; exact foldW_zero r
theorem weightR1_ok (fu : Nat) (op : SOp) (a : List Int) (r : List (List Int)) (d : List Int) (ha : op.At.length ≤ 1048576) (hr : ∀ x ∈ op.At, 0 ≤ x ∧ x < (a.length : Int)) (hf : 4000000 < fu) :
  loopF (F.adjointref2_Weight_l1 fu op (a :: r)) fu (d, 0) = some (if hasB (chosenL a op.At) 0 then [0] else d) := by
 have hl := loop_acc (body := F.adjointref2_Weight_l1 fu op (a :: r)) op.At (fun k => (if hasB ((chosenL a op.At).take k) 0 then [0] else d, (k : Int))) (if hasB (chosenL a op.At) 0 then [0] else d)
  (fun k x hx => by
   have hw := wrap_succ (get_lt hx) (by omega)
   have hx2 := hr x (List.mem_of_getElem? hx)
   have hc := chosenL_get (d := a) hx
   simp only [F.adjointref2_Weight_l1, dec_lt hx, cond_true, idx_nat hx, Option.bind_some, hw, idx0, idx_in hx2]
   rw [take_succ hc]
   unfold hasB
   rw [List.any_append]
   simp only [List.any_cons, List.any_nil, Bool.or_false]
   cases h1 : atI a x.toNat == 0 <;> cases h2 : ((chosenL a op.At).take k).any fun x => x == 0 <;> rfl)
  (by simp only [F.adjointref2_Weight_l1, dec_end, cond_false, takeC]) fu (by omega)
 rw [List.take_zero, show ((0 : Nat) : Int) = 0 from rfl] at hl
 exact hl
theorem weightR2_ok (fu : Nat) (op : SOp) (a : List Int) (r : List (List Int)) (n : Int) (ha : op.At.length ≤ 1048576) (hr : ∀ x ∈ op.At, 0 ≤ x ∧ x < (a.length : Int)) (hf : 4000000 < fu) :
  loopF (F.adjointref2_Weight_l2 fu op (a :: r)) fu (n, 0) = some ((chosenL a op.At).foldl (fun n x => IntKind.i64.wrap (n * x)) n) := by
 have hl := loop_acc (body := F.adjointref2_Weight_l2 fu op (a :: r)) op.At (fun k => (((chosenL a op.At).take k).foldl (fun n x => IntKind.i64.wrap (n * x)) n, (k : Int))) ((chosenL a op.At).foldl (fun n x => IntKind.i64.wrap (n * x)) n)
  (fun k x hx => by
   have hw := wrap_succ (get_lt hx) (by omega)
   have hx2 := hr x (List.mem_of_getElem? hx)
   have hc := chosenL_get (d := a) hx
   simp only [F.adjointref2_Weight_l2, dec_lt hx, cond_true, idx_nat hx, Option.bind_some, hw, idx0, idx_in hx2]
   rw [take_succ hc, List.foldl_append, List.foldl_cons, List.foldl_nil])
  (by simp only [F.adjointref2_Weight_l2, dec_end, cond_false, takeC]) fu (by omega)
 rw [List.take_zero, show ((0 : Nat) : Int) = 0 from rfl, List.foldl_nil] at hl
 exact hl
theorem capW_has : ∀ (l : List Int) (n : Int), 0 ∈ l → l.foldl capW n = 0
  | [], n, h => by cases h
  | x :: r, n, h => by
    have z : ∀ l : List Int, l.foldl capW 0 = 0 := fun l => by
      induction l with
      | nil => rfl
      | cons y s ih => rw [List.foldl_cons, show capW 0 y = 0 by unfold capW; rw [Int.zero_mul]; rfl]; exact ih
    rw [List.foldl_cons]
    rcases List.mem_cons.1 h with e | h
    · subst e
      rw [show capW n 0 = 0 by unfold capW; rw [Int.mul_zero]; rfl]
      exact z r
    · exact capW_has r _ h
theorem capW_prod : ∀ (l : List Int) (n : Int), 1 ≤ n → (∀ x ∈ l, 1 ≤ x) → n * prodR l ≤ 65536 → l.foldl capW n = n * prodR l
 | [], n, _, _, _ => by simp [prodR]
 | x :: r, n, h0, h1, h2 => by
  have hx := h1 x List.mem_cons_self
  have hr := prodR_pos r fun y hy => h1 y (List.mem_cons_of_mem _ hy)
  rw [show prodR (x :: r) = prodR r * x from rfl] at h2 ⊢
  have e : n * (prodR r * x) = n * x * prodR r := by rw [Int.mul_comm (prodR r), Int.mul_assoc]
  rw [e] at h2 ⊢
  have hnx : 1 ≤ n * x := by have := Int.mul_le_mul h0 hx (by omega) (by omega); omega
  have hle : n * x ≤ n * x * prodR r := by
   have := Int.mul_le_mul_of_nonneg_left hr (show 0 ≤ n * x by omega)
   omega
  rw [List.foldl_cons, show capW n x = n * x by
   unfold capW
   rw [i64 (by omega) (by omega), if_neg (by omega)]]
  exact capW_prod r _ hnx (fun y hy => h1 y (List.mem_cons_of_mem _ hy)) h2
theorem foldW_prod : ∀ (l : List Int) (n : Int), 1 ≤ n → (∀ x ∈ l, 1 ≤ x) → n * prodR l ≤ 4294967296 → l.foldl (fun n x => IntKind.i64.wrap (n * x)) n = n * prodR l
 | [], n, _, _, _ => by simp [prodR]
 | x :: r, n, h0, h1, h2 => by
  have hx := h1 x List.mem_cons_self
  have hr := prodR_pos r fun y hy => h1 y (List.mem_cons_of_mem _ hy)
  rw [show prodR (x :: r) = prodR r * x from rfl] at h2 ⊢
  have e : n * (prodR r * x) = n * x * prodR r := by rw [Int.mul_comm (prodR r), Int.mul_assoc]
  rw [e] at h2 ⊢
  have hnx : 1 ≤ n * x := by have := Int.mul_le_mul h0 hx (by omega) (by omega); omega
  have hle : n * x ≤ n * x * prodR r := by
   have := Int.mul_le_mul_of_nonneg_left hr (show 0 ≤ n * x by omega)
   omega
  rw [List.foldl_cons, i64 (by omega) (by omega)]
  exact foldW_prod r _ hnx (fun y hy => h1 y (List.mem_cons_of_mem _ hy)) h2
theorem hasB_app0 (l m : List Int) : hasB (l ++ m) 0 = (hasB l 0 || hasB m 0) := hasB_app l m 0
theorem inner_same (op : SOp) (a b : List Int) (ha : (sizeS a).2 = 0) (hd : (dotS op a b).2 = 0) (hs : (sizeS (dotS op a b).1).2 = 0) :
    (chosenL a op.At).foldl (fun n x => IntKind.i64.wrap (n * x)) (sizeS (if hasB (chosenL a op.At) 0 then [0] else (dotS op a b).1)).1 = (sizeS (dotS op a b).1).1 * (chosenL a op.At).foldl capW 1 ∧
      0 ≤ (sizeS (dotS op a b).1).1 * (chosenL a op.At).foldl capW 1 ∧ (sizeS (dotS op a b).1).1 * (chosenL a op.At).foldl capW 1 ≤ 4294967296 := by
  have hn := size_ran hs
  cases hz : hasB (chosenL a op.At) 0 with
  | true =>
    rw [if_pos rfl, show (sizeS [0]).1 = 0 from rfl, foldW_zero, capW_has _ _ (hasB_mem.1 hz), Int.mul_zero]
    omega
  | false =>
    rw [if_neg (by simp)]
    by_cases h0 : (sizeS (dotS op a b).1).1 = 0
    · rw [h0, foldW_zero, Int.zero_mul]; omega
    · have herr : dotErr op a b = false := by
        unfold dotS at hd
        cases he : dotErr op a b with
        | false => rfl
        | true => rw [he] at hd; simp at hd
      have hval : (dotS op a b).1 = dotL op a b := by unfold dotS; rw [herr]; rfl
      rw [hval] at h0 hs hn ⊢
      obtain ⟨_, _, q1, q2⟩ := size_zero hs
      have hdz : hasB (dotL op a b) 0 = false := by
        cases hb : hasB (dotL op a b) 0 with
        | false => rfl
        | true => exact absurd (q2 hb) h0
      unfold dotErr at herr
      simp only [Bool.or_eq_false_iff, Bool.not_eq_false'] at herr
      obtain ⟨⟨_, hoA, _⟩, _⟩ := herr
      unfold dotL at hdz
      rw [hasB_app0, hasB_app0, Bool.or_eq_false_iff, Bool.or_eq_false_iff] at hdz
      obtain ⟨⟨z1, z2⟩, _⟩ := hdz
      obtain ⟨_, hga, p1, _⟩ := size_zero ha
      have hps := prod_split hoA
      have haz : hasB a 0 = false := by
        cases hb : hasB a 0 with
        | false => rfl
        | true =>
          exfalso
          have hm := hasB_mem.1 hb
          rw [← chosen_iota a] at hm
          have : (0 : Int) ∈ (op.At ++ op.Lo ++ freeU (op.At ++ op.Lo) a.length).map fun i => atI a i.toNat := ((split_perm hoA).map _).mem_iff.2 hm
          rw [List.map_append, List.map_append, List.mem_append, List.mem_append] at this
          rcases this with (h | h) | h
          · have := hasB_mem.2 (show (0 : Int) ∈ chosenL a op.At from h); rw [this] at hz; cases hz
          · have := hasB_mem.2 (show (0 : Int) ∈ chosenL a op.Lo from h); rw [this] at z1; cases z1
          · have := hasB_mem.2 (show (0 : Int) ∈ keepU a (op.At ++ op.Lo) a.length from h); rw [this] at z2; cases z2
      obtain ⟨p2, p3, _⟩ := p1 haz
      have pos : ∀ l : List Int, (∀ x ∈ l, x ∈ a) → ∀ x ∈ l, 1 ≤ x := fun l h x hx => p2 x (h x hx)
      have hin : ∀ l : List Int, (∀ x ∈ l, 0 ≤ x ∧ x < (a.length : Int)) → ∀ y ∈ chosenL a l, y ∈ a := by
        intro l h y hy
        unfold chosenL at hy
        obtain ⟨i, hi, rfl⟩ := List.mem_map.1 hy
        have := h i hi
        exact List.mem_of_getElem? (get_atI (l := a) (k := i.toNat) (by omega))
      have mA := once_mem hoA
      have c1 := pos _ (hin op.At fun x hx => mA x (List.mem_append_left _ hx))
      have c2 := pos _ (hin op.Lo fun x hx => mA x (List.mem_append_right _ hx))
      have c3 := pos _ (hin (freeU (op.At ++ op.Lo) a.length) fun x hx => freeU_ran _ _ x hx)
      have r1 := prodR_pos _ c1
      have r2 := prodR_pos _ c2
      have r3 : 1 ≤ prodR (keepU a (op.At ++ op.Lo) a.length) := prodR_pos _ c3
      have e1 : prodR (chosenL a (op.At ++ op.Lo)) = prodR (chosenL a op.At) * prodR (chosenL a op.Lo) := by
        unfold chosenL; rw [List.map_append, prodR_append]
      rw [e1] at hps
      have hA : prodR (chosenL a op.At) ≤ 65536 := by
        have := Int.mul_le_mul_of_nonneg_left r2 (show 0 ≤ prodR (chosenL a op.At) by omega)
        have h3 := Int.mul_le_mul_of_nonneg_left r3 (show 0 ≤ prodR (chosenL a op.At) * prodR (chosenL a op.Lo) by omega)
        omega
      have hn1 : 1 ≤ (sizeS (dotL op a b)).1 := by omega
      have hbound : (sizeS (dotL op a b)).1 * prodR (chosenL a op.At) ≤ 65536 * 65536 := Int.mul_le_mul hn.2 hA (by omega) (by omega)
      have hcap : (chosenL a op.At).foldl capW 1 = prodR (chosenL a op.At) := by
        rw [capW_prod _ 1 (by omega) c1 (by omega), Int.one_mul]
      rw [hcap, foldW_prod _ _ hn1 c1 (by omega)]
      have := Int.mul_nonneg (show 0 ≤ (sizeS (dotL op a b)).1 by omega) (show 0 ≤ prodR (chosenL a op.At) by omega)
      omega
theorem weight_same (fu : Nat) (op : SOp) (args : List (List Int)) (ho : okOp op) (ha : okArgs args) (hf : 4000000 < fu) :
    ∃ r : Int × Int, F.array_Weight fu op args = some r ∧ F.adjointref2_Weight fu op args = some r := by
  obtain ⟨⟨d, e⟩, h1, h2, h3, h4⟩ := dims_same fu op args ho ha hf
  replace h3 : d.length ≤ 6 := h3
  unfold F.array_Weight F.adjointref2_Weight
  simp only [h1, h2, Option.bind_some]
  by_cases he : e = 0
  · obtain ⟨hs, h0, hw1, q, hq, hfin⟩ := h4 he
    replace hs : (sizeS d).2 = 0 := hs
    have hz : ∀ a ∈ args, (sizeS a).2 = 0 := firstW_zero hw1
    have hn := size_ran hs
    have hsum := sumZ_ran args hz
    have hal := ha.1
    subst he
    rw [show ((0 : Int) != 0) = false from rfl]
    simp only [cond_false, size_ok fu d (by omega) hf, refSize_ok fu d (by omega) hf, Option.bind_some, weightL_ok fu args (sizeS d).1 ha hz hn hf]
    by_cases hk : op.Kind = 16
    · have hkb : (op.Kind == 16) = true := by simp [hk]
      obtain ⟨a, b, rfl⟩ := len2 (l := args) (by have := (right_many h0).2.1 (by rw [hk]; decide); rw [hk, show manyS 16 = 2 from rfl] at this; omega)
      have la := (size_small (hz a List.mem_cons_self)).1
      have lb := (size_small (hz b (List.mem_cons_of_mem _ List.mem_cons_self))).1
      have hfit : F.array_fits fu op [a, b] = some 0 := by rw [fits_ok fu op _ ha hf, if_neg (by omega), hw1]
      have hqd := (k_dot fu op ho hf hk a b [] la lb hfit).2.1
      have eq : q = dotS op a b := Option.some.inj (hq.2.1.symm.trans hqd)
      subst eq
      have hd2 : (dotS op a b).2 = 0 := by
        unfold finS at hfin
        split at hfin
        · exact (congrArg Prod.snd hfin).symm
        · rename_i h5; omega
      have hd1 : d = (dotS op a b).1 := by
        unfold finS at hfin
        rw [if_neg (by omega)] at hfin
        split at hfin
        · rename_i h5; exact absurd (congrArg Prod.snd hfin).symm h5
        · exact congrArg Prod.fst hfin
      obtain ⟨p, hp1, hp2⟩ := pair_ok fu op a b ho (by omega) (by omega) hf
      obtain ⟨_, hinn⟩ := hp2 hd2
      have hat := ho.2.1
      have herr : dotErr op a b = false := by
        unfold dotS at hd2
        cases he : dotErr op a b with
        | false => rfl
        | true => rw [he] at hd2; simp at hd2
      unfold dotErr at herr
      simp only [Bool.or_eq_false_iff, Bool.not_eq_false'] at herr
      obtain ⟨⟨_, hoA, _⟩, _⟩ := herr
      have mA := once_mem hoA
      have hr : ∀ x ∈ op.At, 0 ≤ x ∧ x < (a.length : Int) := fun x hx => mA x (List.mem_append_left _ hx)
      have hin := inner_same op a b (hz a List.mem_cons_self) hd2 (hd1 ▸ hs)
      rw [← hd1] at hin
      rw [← hinn] at hin
      have hls : (if hasB (chosenL a op.At) 0 then [0] else d).length ≤ 4000000 := by
        split
        · simp
        · omega
      simp only [hkb, cond_true, idx0, idx1, hp1, Option.bind_some, amb2_self, amb_self, weightR1_ok fu op a [b] d hat hr hf, refSize_ok fu _ hls hf, weightR2_ok fu op a [b] _ hat hr hf, hin.1]
      have hk17 : op.Kind ≠ 17 := by omega
      have m1 : IntKind.i64.wrap (2 * (sizeS d).1) = 2 * (sizeS d).1 := i64 (by omega) (by omega)
      have m2 : 2 * (sizeS d).1 * p.inner = 2 * ((sizeS d).1 * p.inner) := by rw [Int.mul_assoc]
      have m3 : IntKind.i64.wrap (2 * ((sizeS d).1 * p.inner)) = 2 * ((sizeS d).1 * p.inner) := i64 (by omega) (by omega)
      simp only [List.length_cons, List.length_nil] at hsum
      have m4 : IntKind.i64.wrap ((sizeS d).1 + sumZ [a, b] + 2 * ((sizeS d).1 * p.inner)) = (sizeS d).1 + sumZ [a, b] + 2 * ((sizeS d).1 * p.inner) := i64 (by omega) (by omega)
      have m5 : IntKind.i64.wrap ((sizeS d).1 + 2 * ((sizeS d).1 * p.inner)) = (sizeS d).1 + 2 * ((sizeS d).1 * p.inner) := i64 (by omega) (by omega)
      simp only [m1, m2, m3, m4, m5, weightR3_ok fu op [a, b] 0 _ ha hz ⟨by omega, by omega⟩ (show 0 ≤ (sizeS d).1 + 2 * ((sizeS d).1 * p.inner) ∧ (sizeS d).1 + 2 * ((sizeS d).1 * p.inner) ≤ 10000000000 by omega) hf, if_neg hk17, Option.bind_some, Int.add_zero]
      refine ⟨_, rfl, ?_⟩
      congr 2
      omega
    · have hkb : (op.Kind == 16) = false := by simp [hk]
      simp only [hkb, cond_false, Option.bind_some, weightR3_ok fu op args (sizeS d).1 (sizeS d).1 ha hz hn ⟨hn.1, by omega⟩ hf]
      by_cases hj : op.Kind = 17
      · have hjb : (op.Kind == 17) = true := by simp [hj]
        have h5 : 0 ≤ (sizeS d).1 * (args.length : Int) := Int.mul_nonneg hn.1 (by omega)
        have h6 : (sizeS d).1 * (args.length : Int) ≤ 65536 * 1048576 := Int.mul_le_mul hn.2 (by omega) (by omega) (by omega)
        simp only [hjb, cond_true, if_pos hj, Option.bind_some]
        rw [i64 (n := (sizeS d).1 * (args.length : Int)) (by omega) (by omega), i64 (by omega) (by omega)]
        exact ⟨_, rfl, rfl⟩
      · have hjb : (op.Kind == 17) = false := by simp [hj]
        simp only [hjb, cond_false, if_neg hj, Option.bind_some, Int.add_zero]
        exact ⟨_, rfl, rfl⟩
  · rw [bne_true he]
    exact ⟨_, rfl, rfl⟩
end Go.DN.Pl
