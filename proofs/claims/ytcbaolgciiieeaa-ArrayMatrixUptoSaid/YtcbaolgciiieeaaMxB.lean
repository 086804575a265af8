/-
  Arrays: the plain law of matrices: turned; products.
-/
import Derived.Test.YtcbaolgciiieeaaMxA
set_option linter.unusedSectionVars false
set_option linter.unusedSimpArgs false
set_option linter.unusedVariables false
set_option maxRecDepth 20000
namespace Go.DN.Pl
open Go.AM Go.PL
def d2 (m n : Nat) : List Int := [(m : Int), (n : Int)]
theorem size2 {m n : Nat} (h : (sizeS (d2 m n)).2 = 0) : m ≤ 4096 ∧ n ≤ 4096 ∧ m * n ≤ 65536 ∧ (sizeS (d2 m n)).1 = ((m * n : Nat) : Int) := by
 obtain ⟨_, hr, hp, hz⟩ := size_zero h
 have h1 := hr (m : Int) (by simp [d2])
 have h2 := hr (n : Int) (by simp [d2])
 cases hb : hasB (d2 m n) 0 with
 | false =>
  obtain ⟨_, h3, h4⟩ := hp hb
  have e : prodR (d2 m n) = ((m * n : Nat) : Int) := by
   simp only [d2, prodR, Int.mul_one, Int.one_mul, Int.natCast_mul, Int.mul_comm]
  rw [e] at h3 h4
  exact ⟨by omega, by omega, by omega, h4⟩
 | true =>
  have h3 := hasB_mem.1 hb
  have h4 : m = 0 ∨ n = 0 := by simp [d2] at h3; omega
  have h5 : m * n = 0 := by rcases h4 with h | h <;> rw [h] <;> simp
  rw [hz hb, h5]
  exact ⟨by omega, by omega, by omega, rfl⟩
theorem size2_swap {m n : Nat} (h : (sizeS (d2 m n)).2 = 0) : (sizeS (d2 n m)).2 = 0 := by
  obtain ⟨h1, h2, h3, _⟩ := size2 h
  refine sizeS_ok (by simp [d2]) (fun x hx => ?_) (fun _ => ?_)
  · simp [d2] at hx
    omega
  · have e : prodR (d2 n m) = ((m * n : Nat) : Int) := by
      simp only [d2, prodR, Int.mul_one, Int.one_mul, Int.natCast_mul, Int.mul_comm]
    rw [e]
    omega
theorem steps2 {m n : Nat} (h : (sizeS (d2 m n)).2 = 0) : ∃ t0 t1, stepsS (d2 m n) = [t0, t1] ∧ (0 ≤ t0 ∧ t0 ≤ 4096) ∧ (0 ≤ t1 ∧ t1 ≤ 4096) ∧ (m ≠ 0 → n ≠ 0 → t0 = (n : Int) ∧ t1 = 1) := by
 obtain ⟨h1, h2, h3, _⟩ := size2 h
 unfold stepsS
 cases hb : hasB (d2 m n) 0 with
 | true =>
  have h3 := hasB_mem.1 hb
  have h4 : m = 0 ∨ n = 0 := by simp [d2] at h3; omega
  exact ⟨0, 0, rfl, by omega, by omega, fun a b => by omega⟩
 | false =>
  refine ⟨(n : Int), 1, ?_, by omega, by omega, fun _ _ => ⟨rfl, rfl⟩⟩
  simp [d2, stepsR, prodR]
theorem view2_right {m n : Nat} {t0 t1 : Int} (h : (sizeS (d2 m n)).2 = 0) (h0 : 0 ≤ t0 ∧ t0 ≤ 4096) (h1 : 0 ≤ t1 ∧ t1 ≤ 4096) : wrongS ⟨0, d2 m n, [t0, t1]⟩ = 0 := by
 unfold wrongS
 rw [if_neg (by simpa using h), if_neg (by simp [d2]), if_neg]
 rw [Bool.not_eq_true, Bool.or_eq_false_iff, List.any_eq_false]
 refine ⟨rfl, fun s hs => ?_⟩
 have hs' : 0 ≤ s ∧ s ≤ 4096 := by
  simp at hs
  rcases hs with h | h <;> rw [h] <;> assumption
 unfold nearB
 simp
 omega
theorem reads2_mk (s t0 t1 : Int) (m n : Nat) : reads2 s t0 t1 m n = mk m n fun i j => IntKind.i64.wrap (IntKind.i64.wrap (s + IntKind.i64.wrap ((i : Int) * t0)) + IntKind.i64.wrap ((j : Int) * t1)) := by
 unfold reads2 rdF mk
 rw [List.flatMap_map]
 exact flat_range (fun i j => IntKind.i64.wrap (IntKind.i64.wrap (s + IntKind.i64.wrap ((i : Int) * t0)) + IntKind.i64.wrap ((j : Int) * t1))) n m
theorem small_mul {i : Nat} {t : Int} (hi : i ≤ 4096) (h0 : 0 ≤ t) (h1 : t ≤ 4096) : 0 ≤ (i : Int) * t ∧ (i : Int) * t ≤ 16777216 := by
 refine ⟨Int.mul_nonneg (by omega) h0, ?_⟩
 have h2 : (i : Int) * t ≤ 4096 * t := Int.mul_le_mul_of_nonneg_right (by omega) h0
 omega
theorem read_at {i j : Nat} {t0 t1 : Int} (hi : i ≤ 4096) (hj : j ≤ 4096) (h0 : 0 ≤ t0 ∧ t0 ≤ 4096) (h1 : 0 ≤ t1 ∧ t1 ≤ 4096) :
  IntKind.i64.wrap (IntKind.i64.wrap (0 + IntKind.i64.wrap ((i : Int) * t0)) + IntKind.i64.wrap ((j : Int) * t1)) = (i : Int) * t0 + (j : Int) * t1 := by
 obtain ⟨a1, a2⟩ := small_mul hi h0.1 h0.2
 obtain ⟨b1, b2⟩ := small_mul hj h1.1 h1.2
 rw [i64 (n := (i : Int) * t0) (by omega) (by omega), i64 (n := (j : Int) * t1) (by omega) (by omega), Int.zero_add, i64 (n := (i : Int) * t0) (by omega) (by omega), i64 (by omega) (by omega)]
theorem reads_at (fu : Nat) {m n : Nat} {t0 t1 : Int} (h : (sizeS (d2 m n)).2 = 0) (h0 : 0 ≤ t0 ∧ t0 ≤ 4096) (h1 : 0 ≤ t1 ∧ t1 ≤ 4096) (hf : 4000000 < fu) :
  F.view_Reads fu ⟨0, d2 m n, [t0, t1]⟩ = some (mk m n fun i j => (i : Int) * t0 + (j : Int) * t1, 0) := by
 obtain ⟨hm, hn, _, _⟩ := size2 h
 have hr := reads_ok fu 0 t0 t1 m n (view2_right h h0 h1) hm hn hf
 have e : reads2 0 t0 t1 m n = mk m n fun i j => (i : Int) * t0 + (j : Int) * t1 := by
  rw [reads2_mk]
  exact mk_ext fun i j hi hj => read_at (by omega) (by omega) h0 h1
 rw [← e]
 exact hr
theorem mk_at {a b : Nat} {g : Nat → Nat → Int} {k : Nat} {p : Int} (h : (mk a b g)[k]? = some p) : ∃ i j, i < a ∧ j < b ∧ k = i * b + j ∧ p = g i j := by
 have hk : k < a * b := by have := get_lt h; rwa [mk_len] at this
 have hb : 0 < b := by
  rcases Nat.eq_zero_or_pos b with h0 | h0
  · rw [h0, Nat.mul_zero] at hk; omega
  · exact h0
 have hi : k / b < a := Nat.div_lt_of_lt_mul (by rw [Nat.mul_comm]; exact hk)
 have hj : k % b < b := Nat.mod_lt _ hb
 have e : k = k / b * b + k % b := by rw [Nat.mul_comm]; exact (Nat.div_add_mod k b).symm
 refine ⟨k / b, k % b, hi, hj, e, ?_⟩
 have h2 := mk_get (f := g) hi hj
 rw [← e] at h2
 exact Option.some.inj (h.symm.trans h2)
theorem gather_mk (fu : Nat) {a b : Nat} {v : SView} {q : Nat → Nat → Int} {f : Nat → Nat → Int} {src z : List Int} (hr : F.view_Reads fu v = some (mk a b q, 0)) (hz : z.length = a * b) (hs : a * b ≤ 65536)
  (hq : ∀ i j, i < a → j < b → idx src (q i j) = some (f i j)) (hf : 4000000 < fu) : F.array_gather fu v src z = some (mk a b f) := by
 refine gather_fill fu src (mk a b q) z (mk a b f) v hr (by rw [mk_len, hz]) (by rw [mk_len, hz]) (by omega) (fun k p hp => ?_) hf
 obtain ⟨i, j, hi, hj, rfl, rfl⟩ := mk_at hp
 exact ⟨f i j, hq i j hi hj, mk_get hi hj⟩
theorem gather_id (fu : Nat) {m n : Nat} {t0 t1 : Int} (f : Nat → Nat → Int) (z : List Int) (h : (sizeS (d2 m n)).2 = 0) (hst : stepsS (d2 m n) = [t0, t1]) (hz : z.length = m * n) (hf : 4000000 < fu) :
  F.array_gather fu ⟨0, d2 m n, [t0, t1]⟩ (mk m n f) z = some (mk m n f) := by
 obtain ⟨u0, u1, e, h0, h1, h2⟩ := steps2 h
 rw [hst] at e
 obtain ⟨q0, e⟩ := List.cons.inj e
 obtain ⟨q1, _⟩ := List.cons.inj e
 subst q0
 subst q1
 obtain ⟨_, _, hmn, _⟩ := size2 h
 refine gather_mk fu (reads_at fu h h0 h1 hf) hz hmn (fun i j hi hj => ?_) hf
 obtain ⟨rfl, rfl⟩ := h2 (by omega) (by omega)
 have : (i : Int) * (n : Int) + (j : Int) * 1 = ((i * n + j : Nat) : Int) := by rw [Int.mul_one, Int.natCast_add, Int.natCast_mul]
 rw [this]
 exact idx_nat (mk_get hi hj)
theorem gather_turn (fu : Nat) {m n : Nat} {t0 t1 : Int} (f : Nat → Nat → Int) (z : List Int) (h : (sizeS (d2 m n)).2 = 0) (hst : stepsS (d2 m n) = [t0, t1]) (hz : z.length = n * m) (hf : 4000000 < fu) :
  F.array_gather fu ⟨0, d2 n m, [t1, t0]⟩ (mk m n f) z = some (mk n m fun j i => f i j) := by
 obtain ⟨u0, u1, e, h0, h1, h2⟩ := steps2 h
 rw [hst] at e
 obtain ⟨q0, e⟩ := List.cons.inj e
 obtain ⟨q1, _⟩ := List.cons.inj e
 subst q0
 subst q1
 obtain ⟨_, _, hmn, _⟩ := size2 h
 refine gather_mk fu (reads_at fu (size2_swap h) h1 h0 hf) hz (by rw [Nat.mul_comm]; exact hmn) (fun j i hj hi => ?_) hf
 obtain ⟨rfl, rfl⟩ := h2 (by omega) (by omega)
 have : (j : Int) * 1 + (i : Int) * (n : Int) = ((i * n + j : Nat) : Int) := by rw [Int.mul_one, Int.natCast_add, Int.natCast_mul, Int.add_comm]
 rw [this]
 exact idx_nat (mk_get hi hj)
theorem turn2 {m n : Nat} {t0 t1 : Int} (h : (sizeS (d2 m n)).2 = 0) (hst : stepsS (d2 m n) = [t0, t1]) : turnS ⟨0, d2 m n, stepsS (d2 m n)⟩ [1, 0] = (⟨0, d2 n m, [t1, t0]⟩, 0) := by
 unfold turnS
 rw [whole_wrong h, if_neg (by simp), if_pos ⟨rfl, show onceB _ 2 = true by decide⟩, hst]
 rfl
theorem turn2_id {m n : Nat} {t0 t1 : Int} (h : (sizeS (d2 m n)).2 = 0) (hst : stepsS (d2 m n) = [t0, t1]) : turnS ⟨0, d2 m n, stepsS (d2 m n)⟩ [0, 1] = (⟨0, d2 m n, [t0, t1]⟩, 0) := by
 unfold turnS
 rw [whole_wrong h, if_neg (by simp), if_pos ⟨rfl, show onceB _ 2 = true by decide⟩, hst]
 rfl
theorem turned_core (fu : Nat) (a : SArray) (p : List Int) {m n : Nat} (v : SView) (out : List Int) (hd : a.Dims = d2 m n) (h : (sizeS (d2 m n)).2 = 0) (hl : a.Data.length = m * n) (hp : p.length ≤ 10) (ht : turnS ⟨0, d2 m n, stepsS (d2 m n)⟩ p = (v, 0)) (hol : out.length = m * n)
  (hg : F.array_gather fu v a.Data (List.replicate a.Data.length (0 : Int)) = some out) (hf : 4000000 < fu) : F.array_turned fu a p = some out := by
 obtain ⟨_, _, hmn, _⟩ := size2 h
 have hs : (stepsS (d2 m n)).length ≤ 4000000 := by rw [steps_len]; simp [d2]
 have hc : chk ((0 : Int) ≤ (a.Data.length : Int) ∧ (a.Data.length : Int) ≤ (a.Data.length : Int) ∧ ((8 : Nat) : Int) * (a.Data.length : Int) ≤ 281474976710656 ∧ (a.Data.length : Int) ≤ 9223372036854775807) = some () := chk_pos ⟨by omega, by omega, by omega, by omega⟩
 have hb : Nat.beq (List.length out) (List.length (List.replicate a.Data.length (0 : Int))) = true := by rw [List.length_replicate, hol, hl]; exact Nat.beq_refl _
 unfold F.array_turned
 simp only [hd, whole_ok fu (d2 m n) (by simp [d2]) hf, show wholeS (d2 m n) = (⟨0, d2 m n, stepsS (d2 m n)⟩, 0) from if_pos h, Option.bind_some, turn_ok fu ⟨0, d2 m n, stepsS (d2 m n)⟩ p (by simp [d2]) hs (by omega) hf, ht, hc, Int.toNat_natCast, hg, hb, cond_true]
theorem turned_ok (fu : Nat) (a : SArray) {m n : Nat} (f : Nat → Nat → Int) (hd : a.Dims = d2 m n) (h : (sizeS (d2 m n)).2 = 0) (hD : a.Data = mk m n f) (hf : 4000000 < fu) : F.array_turned fu a [1, 0] = some (mk n m fun j i => f i j) := by
 obtain ⟨t0, t1, e, _⟩ := steps2 h
 have hl : a.Data.length = m * n := by rw [hD, mk_len]
 exact turned_core fu a [1, 0] _ _ hd h hl (by simp) (turn2 h e) (by rw [mk_len, Nat.mul_comm]) (by rw [hD]; exact gather_turn fu f _ h e (by rw [List.length_replicate, mk_len, Nat.mul_comm]) hf) hf
theorem turned_id (fu : Nat) (a : SArray) {m n : Nat} (f : Nat → Nat → Int) (hd : a.Dims = d2 m n) (h : (sizeS (d2 m n)).2 = 0) (hD : a.Data = mk m n f) (hf : 4000000 < fu) : F.array_turned fu a [0, 1] = some (mk m n f) := by
 obtain ⟨t0, t1, e, _⟩ := steps2 h
 have hl : a.Data.length = m * n := by rw [hD, mk_len]
 exact turned_core fu a [0, 1] _ _ hd h hl (by simp) (turn2_id h e) (by rw [mk_len]) (by rw [hD]; exact gather_id fu f _ h e (by rw [List.length_replicate, mk_len]) hf) hf
def turnOp : SOp := ⟨11, [], [1, 0], [], [], [], 0⟩
def mat (m n : Nat) (f : Nat → Nat → Int) : SArray := ⟨d2 m n, mk m n f⟩
theorem mat_right {m n : Nat} {f : Nat → Nat → Int} (h : (sizeS (d2 m n)).2 = 0) : wrongA (mat m n f) = 0 :=
 wrongA_of h (by show (sizeS (d2 m n)).1 = ((mk m n f).length : Int); rw [mk_len]; exact (size2 h).2.2.2)
theorem mat_of {a : SArray} (h : wrongA a = 0) (hl : a.Dims.length = 2) : ∃ m n f, (sizeS (d2 m n)).2 = 0 ∧ a = mat m n f := by
 obtain ⟨x, y, hd⟩ := len2 hl
 obtain ⟨h1, h2⟩ := wrongA_zero h
 have hr := (size_small h1).2
 rw [hd] at hr
 have hx := hr x (by simp)
 have hy := hr y (by simp)
 have e : a.Dims = d2 x.toNat y.toNat := by rw [hd]; unfold d2; rw [Int.toNat_of_nonneg hx.1, Int.toNat_of_nonneg hy.1]
 have hz : (sizeS (d2 x.toNat y.toNat)).2 = 0 := by rw [← e]; exact h1
 have hlen : a.Data.length = x.toNat * y.toNat := by
  have := (size2 hz).2.2.2
  rw [← e, h2] at this
  omega
 refine ⟨x.toNat, y.toNat, fun i j => a.Data.getD (i * y.toNat + j) 0, hz, ?_⟩
 obtain ⟨d, l⟩ := a
 show SArray.mk d l = SArray.mk _ _
 congr 1
 exact mk_of hlen
theorem turnOp_ok (fu : Nat) {m n : Nat} (f : Nat → Nat → Int) (h : (sizeS (d2 m n)).2 = 0) (hf : 4000000 < fu) : F.adjointlaw2_one fu turnOp (mat m n f) = some (mat n m fun j i => f i j, true) := by
 obtain ⟨t0, t1, e, _⟩ := steps2 h
 have h' := size2_swap h
 have hop : okOp turnOp := ⟨by simp [turnOp], by simp [turnOp], by simp [turnOp], by simp [turnOp], by simp [turnOp]⟩
 have hfit : F.array_fits fu turnOp [d2 m n] = some 0 := by
  rw [fits_ok fu _ _ ⟨by simp, fun x hx => by simp at hx; rw [hx]; simp [d2]⟩ hf]
  show some (if rightS 11 1 ≠ 0 then rightS 11 1 else firstW szE [d2 m n]) = some 0
  rw [show rightS 11 1 = 0 from rfl, firstW_cons]
  unfold szE
  rw [if_pos h]
  rfl
 have hlk : lookS turnOp (d2 m n) = (⟨0, d2 n m, [t1, t0]⟩, 0) := turn2 h e
 have hRS := k_look fu turnOp hop hf (by show (11 : Int) = 9 ∨ (11 : Int) = 11 ∨ (11 : Int) = 13 ∨ (11 : Int) = 15; omega) (d2 m n) [] h hfit
 rw [hlk] at hRS
 have hD : F.array_Dims fu turnOp (List.map (·.Dims) [mat m n f]) = some (d2 n m, 0) := by
  show F.array_Dims fu turnOp [d2 m n] = _
  rw [hRS.1]
  unfold finS
  rw [if_neg (by simp), if_neg (by simpa using h')]
 obtain ⟨_, _, _, hsz⟩ := size2 h'
 have hzl : (List.replicate (sizeS (d2 n m)).1.toNat (0 : Int)).length = n * m := by rw [List.length_replicate, hsz]; omega
 have hG := gather_turn fu f (List.replicate (sizeS (d2 n m)).1.toNat (0 : Int)) h e hzl hf
 have hb : Nat.beq (List.length (mk n m fun j i => f i j)) (List.length (List.replicate (sizeS (d2 n m)).1.toNat (0 : Int))) = true := by rw [mk_len, hzl]; exact Nat.beq_refl _
 have hF : F.array_fill fu turnOp [mat m n f] (d2 n m) (List.replicate (sizeS (d2 n m)).1.toNat 0) = some (mk n m fun j i => f i j) := by
  have hl2 := look_ok fu turnOp hop hf (d2 m n) h
  rw [hlk] at hl2
  unfold F.array_fill
  simp only [show turnOp.Kind = 11 from rfl, Int.reduceBEq, cond_true, cond_false, Option.bind_some, idx0, show (mat m n f).Dims = d2 m n from rfl, show (mat m n f).Data = mk m n f from rfl, hl2, amb2_self, hG, hb]
 have hDo := do_good fu turnOp [mat m n f] (d2 n m) (mk n m fun j i => f i j) (by simp) (fun x hx => by simp at hx; rw [hx]; exact mat_right h) rfl hD h' hF (by rw [mk_len, hsz]; omega) hf
 unfold F.adjointlaw2_one
 rw [hDo]
 rfl
end Go.DN.Pl
