/-
  TrainOrders: the plain law.
-/
import Derived.Test.YtimngflnekddpaaToF
import Derived.Test.YtimngflnekddpaaAmY
namespace Go.Proofs.Ytimngflnekddpaa
open Go.AM

/-- An order of 0..n-1: in range, and no number twice. -/
structure Perm (n : Nat) (l : List Int) : Prop where
  len : l.length = n
  ran : ∀ (k : Nat) (v : Int), l[k]? = some v → 0 ≤ v ∧ v < n
  inj : ∀ (j k : Nat) (v : Int), l[j]? = some v → l[k]? = some v → j = k

theorem Perm.swap {n : Nat} {l : List Int} (h : Perm n l) {i j : Nat} {x y : Int} (hi : l[i]? = some x) (hj : l[j]? = some y) : Perm n ((l.set i y).set j x) := by
  have hi' : i < l.length := (List.getElem?_eq_some_iff.1 hi).1
  have hj' : j < l.length := (List.getElem?_eq_some_iff.1 hj).1
  have key : ∀ k : Nat, ((l.set i y).set j x)[k]? = if k = j then some x else if k = i then some y else l[k]? := by
    intro k
    rw [List.getElem?_set, List.getElem?_set, List.length_set]
    by_cases e1 : j = k
    · subst e1; simp [hj']
    · rw [if_neg e1, if_neg (Ne.symm e1)]
      by_cases e2 : i = k
      · subst e2; simp [hi']
      · rw [if_neg e2, if_neg (Ne.symm e2)]
  -- the place from which each place is filled
  have src : ∀ (k : Nat) (v : Int), ((l.set i y).set j x)[k]? = some v → l[if k = j then i else if k = i then j else k]? = some v := by
    intro k v hk
    rw [key] at hk
    by_cases e1 : k = j
    · rw [if_pos e1] at hk ⊢; rw [hi]; exact hk
    · rw [if_neg e1] at hk ⊢
      by_cases e2 : k = i
      · rw [if_pos e2] at hk ⊢; rw [hj]; exact hk
      · rw [if_neg e2] at hk ⊢; exact hk
  refine ⟨by rw [List.length_set, List.length_set]; exact h.len, fun k v hk => h.ran _ v (src k v hk), fun a b v ha hb => ?_⟩
  have := h.inj _ _ v (src a v ha) (src b v hb)
  split at this <;> split at this <;> (try split at this) <;> (try split at this) <;> omega

/-- The list 0..n-1. -/
def upto (n : Nat) : List Int := (List.range n).map Int.ofNat
theorem upto_len (n : Nat) : (upto n).length = n := by simp [upto]
theorem upto_get {n k : Nat} (h : k < n) : (upto n)[k]? = some (k : Int) := by simp [upto, h]
theorem upto_succ (n : Nat) : upto (n + 1) = upto n ++ [(n : Int)] := by simp [upto, List.range_succ]
theorem upto_perm (n : Nat) : Perm n (upto n) := by
  have hg : ∀ (k : Nat) (v : Int), (upto n)[k]? = some v → v = k ∧ k < n := fun k v h => by
    have hk := (List.getElem?_eq_some_iff.1 h).1
    rw [upto_len] at hk
    rw [upto_get hk] at h
    cases h
    exact ⟨rfl, hk⟩
  refine ⟨upto_len n, fun k v h => ?_, fun j k v h1 h2 => ?_⟩
  · have := hg k v h; omega
  · have := hg j v h1; have := hg k v h2; omega

theorem refOrder_l1_eq (fu : Nat) (seed : ByteArray) : F.refOrder_l1 fu seed = F.trainOrder_l1 fu seed := by
  funext ⟨s, i⟩
  simp only [F.refOrder_l1, F.trainOrder_l1, Int.mul_comm]

/-- The seed's number. -/
theorem hash_ok (fu : Nat) (seed : ByteArray) (hs : seed.size < fu) (h63 : seed.size ≤ 9223372036854775807) : ∃ r, loopF (F.trainOrder_l1 fu seed) fu (0, 0) = some r ∧ True := by
  refine loopF_inv (fun x : Int × Int => 0 ≤ x.2 ∧ x.2 ≤ (seed.size : Int)) (fun x : Int × Int => seed.size - x.2.toNat) (fun _ => True) ?_ fu (0, 0) (by simp) (by simpa using hs)
  rintro ⟨s, i⟩ ⟨h0, h1⟩
  simp only at h0 h1
  by_cases h : i < (seed.size : Int)
  · left
    obtain ⟨c, hc, _⟩ := bidx_lt h0 h
    refine ⟨_, by simp only [F.trainOrder_l1, h, decide_true, cond_true, hc, Option.bind_some]; rfl, ?_, ?_⟩
    · simp only; rw [i64 (by omega) (by omega)]; omega
    · simp only; rw [i64 (by omega) (by omega)]; omega
  · right
    exact ⟨s, by simp only [F.trainOrder_l1, h, decide_false, cond_false], trivial⟩

theorem fill_train (fu n : Nat) (hn : n ≤ 4096) (hf : n < fu) : loopF (F.trainOrder_l2 fu (n : Int)) fu (0, List.replicate (Int.toNat (n : Int)) (0 : Int)) = some (upto n) := by
  refine loopF_val (fun x : Int × List Int => ∃ k : Nat, x.1 = (k : Int) ∧ k ≤ n ∧ x.2 = upto k ++ List.replicate (n - k) 0) (fun x : Int × List Int => n - x.1.toNat) _ ?_ fu _ ⟨0, rfl, by omega, by simp [upto]⟩ (by simpa using hf)
  rintro ⟨i, l⟩ ⟨k, rfl, hk, rfl⟩
  by_cases h : k < n
  · left
    have e : List.replicate (n - k) (0 : Int) = 0 :: List.replicate (n - (k + 1)) 0 := by
      have : n - k = (n - (k + 1)) + 1 := by omega
      rw [this, List.replicate_succ]
    have hx : idx (upto k ++ List.replicate (n - k) (0 : Int)) (k : Int) = some 0 := idx_nat (by
      rw [e, List.getElem?_append_right (by rw [upto_len]; exact Nat.le_refl _), upto_len, Nat.sub_self]; rfl)
    have hc : decide ((k : Int) < ((List.replicate (Int.toNat (n : Int)) (0 : Int)).length : Int)) = true := by simp; omega
    refine ⟨_, by simp only [F.trainOrder_l2, hc, cond_true, hx, Option.bind_some]; rfl, ⟨k + 1, ?_, by omega, ?_⟩, ?_⟩
    · simp only; rw [i64 (by omega) (by omega)]; rfl
    · simp only [Int.toNat_natCast]
      rw [e, upto_succ, List.set_append_right _ _ (by rw [upto_len]; exact Nat.le_refl _), upto_len, Nat.sub_self]
      simp
    · simp only; rw [i64 (by omega) (by omega)]; omega
  · right
    obtain rfl : k = n := by omega
    have hc : decide ((k : Int) < ((List.replicate (Int.toNat (k : Int)) (0 : Int)).length : Int)) = false := by simp
    simp only [F.trainOrder_l2, hc, cond_false]
    simp

theorem fill_ref (fu n : Nat) (hn : n ≤ 4096) (hf : n < fu) : loopF (F.refOrder_l2 fu (n : Int)) fu (0, ([] : List Int)) = some (upto n) := by
  refine loopF_val (fun x : Int × List Int => ∃ k : Nat, x.1 = (k : Int) ∧ k ≤ n ∧ x.2 = upto k) (fun x : Int × List Int => n - x.1.toNat) _ ?_ fu _ ⟨0, rfl, by omega, rfl⟩ (by simpa using hf)
  rintro ⟨i, l⟩ ⟨k, rfl, hk, rfl⟩
  by_cases h : k < n
  · left
    have hc : decide ((k : Int) < (n : Int)) = true := by simp; omega
    have hm : chk ((upto k).length + 1 ≤ maxLen ∧ ((upto k).length + 1) * 8 ≤ 140737488355328) = some () := chk_pos (by rw [upto_len]; simp only [maxLen]; omega)
    refine ⟨_, by simp only [F.refOrder_l2, hc, cond_true, hm, Option.bind_some]; rfl, ⟨k + 1, ?_, by omega, (upto_succ k).symm⟩, ?_⟩
    · simp only; rw [i64 (by omega) (by omega)]; rfl
    · simp only; rw [i64 (by omega) (by omega)]; omega
  · right
    obtain rfl : k = n := by omega
    have hc : decide ((k : Int) < (k : Int)) = false := by simp
    simp only [F.refOrder_l2, hc, cond_false]

theorem shift (y : Int) (h0 : 0 ≤ y) (h1 : y ≤ 18446744073709551615) : IntKind.u64.wrap (Int.tdiv y 8589934592) = Int.fdiv y (2 ^ (min (Int.toNat 33) (IntKind.bits .u64))) := by
  have e : (2 : Int) ^ (min (Int.toNat 33) (IntKind.bits .u64)) = 8589934592 := by decide
  rw [e, IntWalk.u64_quo y _ ⟨h0, h1, by omega⟩, Int.fdiv_eq_ediv_of_nonneg _ (by omega)]

theorem l3_eq (fu : Nat) : F.refOrder_l3 fu = F.trainOrder_l3 fu := by
  funext ⟨s, i, l⟩
  have e1 : decide (i ≥ 1) = decide (i > 0) := by rw [decide_eq_decide]; omega
  simp only [F.refOrder_l3, F.trainOrder_l3, Int.mul_comm 6364136223846793005, e1]
  rw [shift _ (u64_ran _).1 (u64_ran _).2]

theorem shuffle (fu n : Nat) (hn : n ≤ 4096) (hf : n < fu) (s : Int) (i : Int) (hi : i < n) (l : List Int) (hl : Perm n l) : ∃ r, loopF (F.trainOrder_l3 fu) fu (s, i, l) = some r ∧ Perm n r := by
  refine loopF_inv (fun x : Int × Int × List Int => x.2.1 < (n : Int) ∧ Perm n x.2.2) (fun x : Int × Int × List Int => x.2.1.toNat) (fun r => Perm n r) ?_ fu _ ⟨hi, hl⟩ (by simp only; omega)
  rintro ⟨s, i, l⟩ ⟨h1, h2⟩
  simp only at h1 h2
  by_cases h : i > 0
  · left
    have hw : IntKind.u64.wrap (IntKind.i64.wrap (i + 1)) = i + 1 := by rw [i64 (by omega) (by omega), u64 (by omega) (by omega)]
    generalize hz : Int.fdiv (IntKind.u64.wrap ((IntKind.u64.wrap (s * 6364136223846793005)) + 1442695040888963407)) (2 ^ (min (Int.toNat 33) (IntKind.bits .u64))) = z
    have hz0 : 0 ≤ z := by
      rw [← hz, Int.fdiv_eq_ediv_of_nonneg _ (by decide)]
      exact Int.ediv_nonneg (u64_ran _).1 (by decide)
    have hj : 0 ≤ Int.tmod z (i + 1) ∧ Int.tmod z (i + 1) < i + 1 := by
      rw [Int.tmod_eq_emod_of_nonneg hz0]
      exact ⟨Int.emod_nonneg _ (by omega), Int.emod_lt_of_pos _ (by omega)⟩
    have hj' : IntKind.i64.wrap (Int.tmod z (i + 1)) = Int.tmod z (i + 1) := i64 (by omega) (by omega)
    generalize hjd : Int.tmod z (i + 1) = j at hj hj'
    obtain ⟨x, hx, hx'⟩ := idx_lt (l := l) (i := j) hj.1 (by rw [h2.len]; omega)
    obtain ⟨y, hy, hy'⟩ := idx_lt (l := l) (i := i) (by omega) (by rw [h2.len]; omega)
    obtain ⟨x3, hx3, _⟩ := idx_lt (l := l.set i.toNat x) (i := j) hj.1 (by rw [List.length_set, h2.len]; omega)
    have hc : chk (i + 1 ≠ 0) = some () := chk_pos (by omega)
    refine ⟨_, by simp only [F.trainOrder_l3, h, decide_true, cond_true, hw, hz, hc, hjd, hj', hx, hy, hx3, Option.bind_some]; rfl, ⟨?_, ?_⟩, ?_⟩
    · simp only; rw [i64 (by omega) (by omega)]; omega
    · exact h2.swap hy' hx'
    · simp only; rw [i64 (by omega) (by omega)]; omega
  · right
    exact ⟨l, by simp only [F.trainOrder_l3, h, decide_false, cond_false], h2⟩

theorem same_ok (fu : Nat) (l : List Int) (hl : l.length < fu) (h63 : l.length ≤ 9223372036854775807) : F.SameList fu l l = some true := by
  have : loopF (F.SameList_l1 fu l l) fu 0 = some (.brk ()) := by
    refine loopF_val (fun i : Int => 0 ≤ i ∧ i ≤ (l.length : Int)) (fun i : Int => l.length - i.toNat) _ ?_ fu 0 (by simp) (by simpa using hl)
    rintro i ⟨h0, h1⟩
    by_cases h : i < (l.length : Int)
    · left
      obtain ⟨x, hx, _⟩ := idx_lt h0 h
      refine ⟨_, by simp only [F.SameList_l1, h, decide_true, cond_true, hx, Option.bind_some, bne_self_eq_false, cond_false]; rfl, ?_, ?_⟩
      · rw [i64 (by omega) (by omega)]; omega
      · rw [i64 (by omega) (by omega)]; omega
    · right
      simp only [F.SameList_l1, h, decide_false, cond_false]
  simp only [F.SameList, bne_self_eq_false, cond_false, this, bindE]

theorem seen_ok (fu n : Nat) (hn : n ≤ 4096) (hf : n < fu) (r : List Int × Int) (hr : Perm n r.1) : loopF (F.TrainOrders_l1 fu r) fu (0, List.replicate (Int.toNat (r.1.length : Int)) false) = some (.brk ()) := by
  refine loopF_val (fun x : Int × List Bool => ∃ k : Nat, x.1 = (k : Int) ∧ k ≤ n ∧ x.2.length = n ∧ ∀ j v, k ≤ j → r.1[j]? = some v → x.2[v.toNat]? = some false) (fun x : Int × List Bool => n - x.1.toNat) _ ?_ fu _ ⟨0, rfl, by omega, by simp [hr.len], fun j v _ hv => ?_⟩ (by simpa using hf)
  · rintro ⟨i, seen⟩ ⟨k, rfl, hk, hlen, hseen⟩
    simp only at hlen hseen
    by_cases h : k < n
    · left
      obtain ⟨v, hv, hv'⟩ := idx_lt (l := r.1) (i := (k : Int)) (by omega) (by rw [hr.len]; omega)
      simp only [Int.toNat_natCast] at hv'
      have hran := hr.ran k v hv'
      have hs := hseen k v (Nat.le_refl _) hv'
      have hs' : idx seen v = some false := by
        have := idx_nat hs
        rwa [Int.toNat_of_nonneg hran.1] at this
      have c1 : decide ((k : Int) < (r.1.length : Int)) = true := by rw [hr.len]; simp; omega
      have c2 : decide (v < 0) = false := by simp; omega
      have c3 : decide (v ≥ (seen.length : Int)) = false := by rw [hlen]; simp; omega
      refine ⟨_, by simp only [F.TrainOrders_l1, c1, cond_true, hv, c2, c3, cond_false, hs', Option.bind_some]; rfl, ⟨k + 1, ?_, by omega, ?_, ?_⟩, ?_⟩
      · simp only; rw [i64 (by omega) (by omega)]; rfl
      · simp only [List.length_set]; exact hlen
      · intro j u hj hu
        have hne : v.toNat ≠ u.toNat := fun e => by
          have h1 := hr.ran j u hu
          have : u = v := by omega
          subst this
          have := hr.inj j k u hu hv'
          omega
        simp only
        rw [List.getElem?_set_ne hne]
        exact hseen j u (by omega) hu
      · simp only; rw [i64 (by omega) (by omega)]; omega
    · right
      obtain rfl : k = n := by omega
      have c1 : decide ((k : Int) < (r.1.length : Int)) = false := by rw [hr.len]; simp
      simp only [F.TrainOrders_l1, c1, cond_false]
  · have := hr.ran j v hv
    simp only [Int.toNat_natCast, hr.len]
    rw [List.getElem?_replicate, if_pos (by omega)]

/-- What both functions give. -/
theorem order_ok (fu : Nat) (seed : ByteArray) (rows epoch : Int) (hs : seed.size < fu) (h63 : seed.size ≤ 9223372036854775807) (hf : 4096 < fu) :
    ∃ n r, F.trainOrder fu seed rows epoch = some r ∧ F.refOrder fu seed rows epoch = some r ∧ n ≤ 4096 ∧ Perm n r.1 := by
  have e : F.refOrder_l1 fu seed = F.trainOrder_l1 fu seed := refOrder_l1_eq fu seed
  by_cases hb : rows < 0 ∨ rows > 4096 ∨ epoch < 0 ∨ epoch > 1048576
  · have hc : cond (decide (rows < 0)) (some true) (cond (decide (rows > 4096)) (some true) (cond (decide (epoch < 0)) (some true) (some (decide (epoch > 1048576))))) = some true := by
      by_cases h1 : rows < 0
      · simp [h1]
      · by_cases h2 : rows > 4096
        · simp [h1, h2]
        · by_cases h3 : epoch < 0
          · simp [h1, h2, h3]
          · have h4 : epoch > 1048576 := by omega
            simp [h1, h2, h3, h4]
    exact ⟨0, ([], 4), by simp only [F.trainOrder, hc, Option.bind_some, cond_true], by simp only [F.refOrder, hc, Option.bind_some, cond_true], by omega, ⟨rfl, fun k v h => by simp at h, fun j k v h => by simp at h⟩⟩
  · have hc : cond (decide (rows < 0)) (some true) (cond (decide (rows > 4096)) (some true) (cond (decide (epoch < 0)) (some true) (some (decide (epoch > 1048576))))) = some false := by
      have h1 : ¬ rows < 0 := by omega
      have h2 : ¬ rows > 4096 := by omega
      have h3 : ¬ epoch < 0 := by omega
      have h4 : ¬ epoch > 1048576 := by omega
      simp [h1, h2, h3, h4]
    obtain ⟨s, hs1, _⟩ := hash_ok fu seed hs h63
    obtain ⟨n, rfl⟩ : ∃ n : Nat, rows = n := ⟨rows.toNat, by omega⟩
    have hn : n ≤ 4096 := by omega
    have hk : chk (0 ≤ (n : Int) ∧ (8 : Int) * (n : Int) ≤ 281474976710656 ∧ (n : Int) ≤ 9223372036854775807) = some () := chk_pos (by omega)
    have hl1 := fill_train fu n hn (by omega)
    have hl2 := fill_ref fu n hn (by omega)
    obtain ⟨r, hr1, hr2⟩ := shuffle fu n hn (by omega) (IntKind.u64.wrap ((IntKind.u64.wrap ((IntKind.u64.wrap (s * 1099511628211)) + (IntKind.u64.wrap epoch))) + 1)) (IntKind.i64.wrap ((n : Int) - 1)) (by rw [i64 (by omega) (by omega)]; omega) _ (upto_perm n)
    refine ⟨n, (r, 0), ?_, ?_, hn, hr2⟩
    · simp only [F.trainOrder, hc, Option.bind_some, cond_false, hs1, hk, hl1, hr1]
    · simp only [F.refOrder, hc, Option.bind_some, cond_false, e, hs1, hl2, l3_eq, Int.mul_comm 1099511628211, hr1]

theorem law (seed : ByteArray) (rows epoch : Int) (h63 : seed.size ≤ 9223372036854775807) : ∃ fu, F.TrainOrders fu seed rows epoch = some true := by
  refine ⟨seed.size + 4097, ?_⟩
  obtain ⟨n, r, h1, h2, hn, hp⟩ := order_ok (seed.size + 4097) seed rows epoch (by omega) h63 (by omega)
  have h3 := same_ok (seed.size + 4097) r.1 (by rw [hp.len]; omega) (by rw [hp.len]; omega)
  have h4 := seen_ok (seed.size + 4097) n hn (by omega) r hp
  have h5 : chk (0 ≤ (r.1.length : Int) ∧ (1 : Int) * (r.1.length : Int) ≤ 281474976710656 ∧ (r.1.length : Int) ≤ 9223372036854775807) = some () := chk_pos (by rw [hp.len]; omega)
  simp only [F.TrainOrders, h1, h2, h3, h4, h5, Option.bind_some, Bool.not_true, cond_false, bne_self_eq_false, bindE]
end Go.Proofs.Ytimngflnekddpaa
