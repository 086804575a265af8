/-
  Arrays: the plain law: views cut, flipped.
-/
import Derived.Test.YtcbaolgciiieeaaAdY
set_option linter.unusedSectionVars false
set_option linter.unusedSimpArgs false
set_option linter.unusedVariables false
namespace Go.DN.Pl
open Go.AM Go.PL
theorem sizeS_ok {d : List Int} (h6 : d.length ≤ 6) (hg : ∀ x ∈ d, 0 ≤ x ∧ x ≤ 4096) (hp : hasB d 0 = false → prodR d ≤ 65536) : (sizeS d).2 = 0 := by
 unfold sizeS
 rw [if_neg (by omega)]
 have hb : d.any badD = false := by
  rw [List.any_eq_false]
  intro x hx
  have := hg x hx
  simp [badD]
  omega
 rw [hb]
 simp only [Bool.false_eq_true, if_false]
 cases hz : hasB d 0 with
 | true => rfl
 | false =>
  have := hp hz
  simp only [Bool.false_eq_true, if_false]
  rw [if_neg (by rw [prodF_eq]; omega)]
theorem prodR_le : ∀ (a b : List Int), a.length = b.length → (∀ k, k < a.length → 1 ≤ atI a k ∧ atI a k ≤ atI b k) → 1 ≤ prodR a ∧ prodR a ≤ prodR b
 | [], [], _, _ => by simp [prodR]
 | [], _ :: _, h, _ => by simp at h
 | _ :: _, [], h, _ => by simp at h
 | x :: r, y :: s, hl, h => by
  have h1 : 1 ≤ x ∧ x ≤ y := h 0 (by simp)
  have h2 := prodR_le r s (by simpa using hl) fun k hk => h (k + 1) (by simpa using hk)
  rw [show prodR (x :: r) = prodR r * x from rfl, show prodR (y :: s) = prodR s * y from rfl]
  have a1 := Int.mul_le_mul h2.2 h1.2 (by omega) (by omega)
  have a2 := Int.mul_le_mul h2.1 h1.1 (by omega) (by omega)
  omega
theorem shrink {d e : List Int} (h : (sizeS d).2 = 0) (hl : e.length = d.length) (he : ∀ k, k < e.length → 0 ≤ atI e k ∧ atI e k ≤ atI d k) : (sizeS e).2 = 0 := by
  obtain ⟨h6, hg, hp, _⟩ := size_zero h
  refine sizeS_ok (by omega) (fun x hx => ?_) fun hz => ?_
  · obtain ⟨k, hk⟩ := List.getElem?_of_mem hx
    have h1 := he k (get_lt hk)
    have h2 := hg _ (List.mem_of_getElem? (get_atI (l := d) (show k < d.length by have := get_lt hk; omega)))
    rw [atI_get hk] at h1
    omega
  · have hne : ∀ k, k < e.length → 1 ≤ atI e k := fun k hk => by
      have h1 := he k hk
      have : atI e k ≠ 0 := fun e0 => by
        have := hasB_mem.2 (List.mem_of_getElem? (get_atI hk))
        rw [e0, hz] at this; cases this
      omega
    have hz2 : hasB d 0 = false := by
      cases hh : hasB d 0 with
      | false => rfl
      | true =>
        obtain ⟨k, hk⟩ := List.getElem?_of_mem (hasB_mem.1 hh)
        have h1 := he k (by have := get_lt hk; omega)
        have h2 := hne k (by have := get_lt hk; omega)
        rw [atI_get hk] at h1; omega
    have := prodR_le e d hl fun k hk => ⟨hne k hk, (he k hk).2⟩
    have := (hp hz2).2.1
    omega
def doneS (v : SView) : SView × Int := if wrongS v = 0 then (v, 0) else (nilV, 5)
theorem wrong_four {v : SView} (h1 : (sizeS v.Dims).2 = 0) (h2 : v.Steps.length = v.Dims.length) : wrongS v = 0 ∨ wrongS v = 4 := by
 unfold wrongS
 rw [if_neg (by omega), if_neg (by omega)]
 split
 · exact .inr rfl
 · exact .inl rfl
theorem done_ok (fu : Nat) (v : SView) (h1 : (sizeS v.Dims).2 = 0) (h2 : v.Steps.length = v.Dims.length) (hf : 4000000 < fu) : F.view_done fu v = some (doneS v) := by
 have h6 := (size_zero h1).1
 unfold F.view_done doneS
 simp only [wrong_ok fu v (by omega) (by omega) hf, Option.bind_some]
 rcases wrong_four h1 h2 with h | h
 · rw [h, if_pos rfl]; rfl
 · rw [h, if_neg (by omega)]; rfl
theorem made_ok (fu : Nat) (v : SView) (h1 : (sizeS v.Dims).2 = 0) (h2 : v.Steps.length = v.Dims.length) (hf : 4000000 < fu) : F.adjointref1_made fu v = some (doneS v) := by
 have h6 := (size_zero h1).1
 unfold F.adjointref1_made doneS
 simp only [wrong1_ok fu v (by omega) (by omega) hf, Option.bind_some]
 rcases wrong_four h1 h2 with h | h
 · rw [h, if_pos rfl]; rfl
 · rw [h, if_neg (by omega)]; rfl
def keptS (lo hi st : Int) : Int := (hi - lo + st - 1).tdiv st
theorem kept_ran {lo hi st : Int} (h0 : lo ≤ hi) (h1 : hi - lo ≤ 4096) (h2 : 1 ≤ st) : keptS lo hi st = (hi - lo + st - 1) / st ∧ 0 ≤ keptS lo hi st ∧ keptS lo hi st ≤ hi - lo := by
  have e : keptS lo hi st = (hi - lo + st - 1) / st := Int.tdiv_eq_ediv_of_nonneg (by omega)
  refine ⟨e, ?_, ?_⟩
  · rw [e]; exact Int.ediv_nonneg (by omega) (by omega)
  · rw [e]
    apply Int.le_of_lt_add_one
    rw [Int.ediv_lt_iff_lt_mul (by omega)]
    have : (hi - lo + 1) * st = (hi - lo) * st + st := by rw [Int.add_mul, Int.one_mul]
    have h3 : (hi - lo) * 1 ≤ (hi - lo) * st := Int.mul_le_mul_of_nonneg_left h2 (by omega)
    omega
theorem kept_ok (fu : Nat) (lo hi st : Int) (hl : 0 ≤ lo) (h0 : lo ≤ hi) (h1 : hi ≤ 4096) (h2 : 1 ≤ st) (h3 : st ≤ 4096) (hf : 4000000 < fu) : F.adjointref1_Kept fu lo hi st = some (keptS lo hi st) := by
 unfold F.adjointref1_Kept
 obtain ⟨e, e0, e1⟩ := kept_ran h0 (by omega) h2
 obtain ⟨c, hc⟩ : ∃ c : Nat, keptS lo hi st = c := ⟨(keptS lo hi st).toNat, by omega⟩
 have q1 : ∀ k : Nat, k < c → lo + (k : Int) * st < hi := fun k hk => by
  have : ((k : Int) + 1) ≤ (hi - lo + st - 1) / st := by rw [← e]; omega
  rw [Int.le_ediv_iff_mul_le (by omega), Int.add_mul, Int.one_mul] at this
  omega
 have q2 : ¬ (lo + (c : Int) * st < hi) := fun h => by
  have : ¬ ((c : Int) + 1 ≤ (hi - lo + st - 1) / st) := by rw [← e]; omega
  rw [Int.le_ediv_iff_mul_le (by omega), Int.add_mul, Int.one_mul] at this
  omega
 have h := loop_count (body := F.adjointref1_Kept_l1 fu hi st) c (fun k => ((k : Int), lo + (k : Int) * st)) (c : Int)
  (fun k hk => by
   have hw := wrap_succ hk (by omega)
   have a1 := q1 k hk
   have a2 : 0 ≤ (k : Int) * st := Int.mul_nonneg (by omega) (by omega)
   have a3 : ((k + 1 : Nat) : Int) * st = (k : Int) * st + st := by rw [Int.natCast_add, Int.add_mul]; simp
   have w : IntKind.i64.wrap (lo + (k : Int) * st + st) = lo + ((k + 1 : Nat) : Int) * st := by rw [i64 (by omega) (by omega)]; omega
   simp only [F.adjointref1_Kept_l1, dec_true a1, cond_true, hw, w])
  (by simp only [F.adjointref1_Kept_l1, dec_false q2, cond_false]) fu (by omega)
 rw [show ((0 : Nat) : Int) = 0 from rfl, Int.zero_mul, Int.add_zero] at h
 simp only [h, Option.bind_some, hc]
def badC (v : SView) (lo hi st : List Int) (k : Nat) : Bool :=
 decide (atI lo k < 0) || (decide (atI lo k > atI hi k) || (decide (atI hi k > atI v.Dims k) || (decide (atI st k < 1) || decide (atI st k > 4096))))
def startW (v : SView) (lo : List Int) : Nat → Int
 | 0 => v.Start
 | k + 1 => IntKind.wrap .i64 (startW v lo k + IntKind.wrap .i64 (atI lo k * atI v.Steps k))
def cutD (lo hi st : List Int) (k : Nat) : List Int := (List.range k).map fun (i : Nat) => keptS (atI lo i) (atI hi i) (atI st i)
def cutT (v : SView) (st : List Int) (k : Nat) : List Int := (List.range k).map fun (i : Nat) => IntKind.wrap .i64 (atI v.Steps i * atI st i)
theorem cutD_succ (lo hi st : List Int) (k : Nat) : cutD lo hi st (k + 1) = cutD lo hi st k ++ [keptS (atI lo k) (atI hi k) (atI st k)] := by
 unfold cutD; rw [List.range_succ, List.map_append]; rfl
theorem cutT_succ (v : SView) (st : List Int) (k : Nat) : cutT v st (k + 1) = cutT v st k ++ [IntKind.wrap .i64 (atI v.Steps k * atI st k)] := by
 unfold cutT; rw [List.range_succ, List.map_append]; rfl
theorem cutD_len (lo hi st : List Int) (k : Nat) : (cutD lo hi st k).length = k := by unfold cutD; simp
theorem cutT_len (v : SView) (st : List Int) (k : Nat) : (cutT v st k).length = k := by unfold cutT; simp
theorem cutD_get (lo hi st : List Int) (n k : Nat) (h : k < n) : atI (cutD lo hi st n) k = keptS (atI lo k) (atI hi k) (atI st k) := by
 apply atI_get
 unfold cutD
 rw [List.getElem?_map, List.getElem?_range h]; rfl
def lenC (v : SView) (lo hi st : List Int) : Bool := ((lo.length : Int) != v.Dims.length) || (((hi.length : Int) != v.Dims.length) || ((st.length : Int) != v.Dims.length))
theorem lenC_eq {v : SView} {lo hi st : List Int} (h : lenC v lo hi st = false) : lo.length = v.Dims.length ∧ hi.length = v.Dims.length ∧ st.length = v.Dims.length := by
 unfold lenC at h
 simp at h
 omega
def cutV (v : SView) (lo hi st : List Int) : SView := ⟨startW v lo v.Dims.length, cutD lo hi st v.Dims.length, cutT v st v.Dims.length⟩
def cutS (v : SView) (lo hi st : List Int) : SView × Int :=
 if wrongS v ≠ 0 then (nilV, wrongS v) else if lenC v lo hi st then (nilV, 6) else if (List.range v.Dims.length).any (badC v lo hi st) then (nilV, 4) else doneS (cutV v lo hi st)
theorem badC_no {v : SView} {lo hi st : List Int} {k : Nat} (h : badC v lo hi st k = false) : 0 ≤ atI lo k ∧ atI lo k ≤ atI hi k ∧ atI hi k ≤ atI v.Dims k ∧ 1 ≤ atI st k ∧ atI st k ≤ 4096 := by
 simp [badC] at h
 omega
theorem cut_size {v : SView} {lo hi st : List Int} (hs : (sizeS v.Dims).2 = 0) (hb : (List.range v.Dims.length).any (badC v lo hi st) = false) : (sizeS (cutV v lo hi st).Dims).2 = 0 ∧ (cutV v lo hi st).Steps.length = (cutV v lo hi st).Dims.length := by
 refine ⟨shrink hs (cutD_len _ _ _ _) fun k hk => ?_, by unfold cutV; simp only [cutD_len, cutT_len]⟩
 have hk : k < v.Dims.length := by rwa [show (cutV v lo hi st).Dims = cutD lo hi st v.Dims.length from rfl, cutD_len] at hk
 obtain ⟨b1, b2, b3, b4, b5⟩ := badC_no (any_range.1 hb k hk)
 have := (size_zero hs).2.1 _ (List.mem_of_getElem? (get_atI hk))
 obtain ⟨_, r1, r2⟩ := kept_ran b2 (by omega) b4
 rw [show (cutV v lo hi st).Dims = cutD lo hi st v.Dims.length from rfl, cutD_get _ _ _ _ _ hk]
 omega
theorem cut_ok (fu : Nat) (v : SView) (lo hi st : List Int) (hd : v.Dims.length ≤ 4000000) (hs : v.Steps.length ≤ 4000000) (hf : 4000000 < fu) : F.view_Cut fu v lo hi st = some (cutS v lo hi st) := by
  unfold F.view_Cut cutS
  simp only [wrong_ok fu v hd hs hf, Option.bind_some]
  by_cases hw0 : wrongS v = 0
  · rw [if_neg (by omega), bne_false hw0, cond_false]
    obtain ⟨hsz, hsl, _⟩ := wrong_zero hw0
    simp only [cc, Option.bind_some]
    rw [show (((lo.length : Int) != v.Dims.length) || (((hi.length : Int) != v.Dims.length) || ((st.length : Int) != v.Dims.length))) = lenC v lo hi st from rfl]
    cases hc : lenC v lo hi st with
    | true => rfl
    | false =>
      obtain ⟨e1, e2, e3⟩ := lenC_eq hc
      have h := loop_at (body := F.view_Cut_l1 fu v lo hi st) v.Dims.length (fun k => ((k : Int), 0, [], [], startW v lo k, cutD lo hi st k, cutT v st k)) (fun k => if badC v lo hi st k then some (Ex.ret (nilV, 4)) else none) (Ex.brk (0, [], [], startW v lo v.Dims.length, cutD lo hi st v.Dims.length, cutT v st v.Dims.length))
        (fun k hk _ => by
          have hx := get_atI hk
          have hw := wrap_succ hk (by omega)
          have i1 := idx_nat (get_atI (l := lo) (show k < lo.length by omega))
          have i2 := idx_nat (get_atI (l := hi) (show k < hi.length by omega))
          have i3 := idx_nat (get_atI (l := st) (show k < st.length by omega))
          have i4 := idx_nat (get_atI (l := v.Steps) (show k < v.Steps.length by omega))
          simp only [F.view_Cut_l1, dec_lt hx, cond_true, idx_nat hx, i1, i2, i3, i4, Option.bind_some, hw, cc]
          rw [show (decide (atI lo k < 0) || (decide (atI lo k > atI hi k) || (decide (atI hi k > atI v.Dims k) || (decide (atI st k < 1) || decide (atI st k > 4096))))) = badC v lo hi st k from rfl]
          cases hb : badC v lo hi st k with
          | true => rfl
          | false =>
            obtain ⟨b1, b2, b3, b4, b5⟩ := badC_no hb
            have hdr := (size_zero hsz).2.1 _ (List.mem_of_getElem? hx)
            obtain ⟨_, r1, r2⟩ := kept_ran b2 (by omega) b4
            have w1 : IntKind.i64.wrap (atI hi k - atI lo k) = atI hi k - atI lo k := i64 (by omega) (by omega)
            have w2 : IntKind.i64.wrap (atI hi k - atI lo k + atI st k) = atI hi k - atI lo k + atI st k := i64 (by omega) (by omega)
            have w3 : IntKind.i64.wrap (atI hi k - atI lo k + atI st k - 1) = atI hi k - atI lo k + atI st k - 1 := i64 (by omega) (by omega)
            have w4 : IntKind.i64.wrap (Int.tdiv (atI hi k - atI lo k + atI st k - 1) (atI st k)) = keptS (atI lo k) (atI hi k) (atI st k) := by
              rw [show Int.tdiv (atI hi k - atI lo k + atI st k - 1) (atI st k) = keptS (atI lo k) (atI hi k) (atI st k) from rfl, i64 (by omega) (by omega)]
            have l1 := cutD_len lo hi st k
            have l2 := cutT_len v st k
            simp only [cond_false, w1, w2, w3, w4, chk_pos (show atI st k ≠ 0 by omega), Option.bind_some, amb_self, amb2_self, amb3_self, amb4_self, Bool.false_eq_true, if_false]
            rw [chk_app (by simp only [List.length_singleton]; omega) (by simp only [List.length_singleton]; omega), chk_app (by simp only [List.length_singleton]; omega) (by simp only [List.length_singleton]; omega), cutD_succ, cutT_succ]
            rfl)
        (fun _ => by simp only [F.view_Cut_l1, dec_end, cond_false]) fu (by omega)
      rw [show ((0 : Nat) : Int) = 0 from rfl, show startW v lo 0 = v.Start from rfl, show cutD lo hi st 0 = [] from rfl, show cutT v st 0 = [] from rfl] at h
      rw [cond_false, h, findCst]
      cases hb : (List.range v.Dims.length).any (badC v lo hi st) with
      | true => rfl
      | false =>
        obtain ⟨z1, z2⟩ := cut_size (lo := lo) (hi := hi) (st := st) hsz hb
        have := done_ok fu (cutV v lo hi st) z1 z2 hf
        unfold cutV at this
        simp only [Bool.false_eq_true, if_false, bindE, this, Option.bind_some]
        rfl
  · rw [if_pos hw0, bne_true hw0, cond_true]; rfl
theorem cut1_ok (fu : Nat) (v : SView) (lo hi st : List Int) (hd : v.Dims.length ≤ 4000000) (hs : v.Steps.length ≤ 4000000) (hf : 4000000 < fu) : F.adjointref1_Cut fu v lo hi st = some (cutS v lo hi st) := by
  unfold F.adjointref1_Cut cutS
  simp only [wrong1_ok fu v hd hs hf, Option.bind_some]
  by_cases hw0 : wrongS v = 0
  · rw [if_neg (by omega), bne_false hw0, cond_false]
    obtain ⟨hsz, hsl, _⟩ := wrong_zero hw0
    simp only [cc, Option.bind_some]
    rw [show (((lo.length : Int) != v.Dims.length) || (((hi.length : Int) != v.Dims.length) || ((st.length : Int) != v.Dims.length))) = lenC v lo hi st from rfl]
    cases hc : lenC v lo hi st with
    | true => rfl
    | false =>
      obtain ⟨e1, e2, e3⟩ := lenC_eq hc
      have h := loop_at (body := F.adjointref1_Cut_l1 fu v lo hi st) v.Dims.length (fun k => ((k : Int), 0, [], [])) (fun k => if badC v lo hi st k then some (Ex.ret (nilV, 4)) else none) (Ex.brk (0, [], []))
        (fun k hk _ => by
          have hx := get_atI hk
          have hw := wrap_succ hk (by omega)
          have i1 := idx_nat (get_atI (l := lo) (show k < lo.length by omega))
          have i2 := idx_nat (get_atI (l := hi) (show k < hi.length by omega))
          have i3 := idx_nat (get_atI (l := st) (show k < st.length by omega))
          simp only [F.adjointref1_Cut_l1, dec_lt hx, cond_true, idx_nat hx, i1, i2, i3, Option.bind_some, hw, cc]
          rw [show (decide (atI lo k < 0) || (decide (atI hi k < atI lo k) || (decide (atI v.Dims k < atI hi k) || (decide (atI st k < 1) || decide (atI st k > 4096))))) = badC v lo hi st k from rfl]
          cases badC v lo hi st k <;> rfl)
        (fun _ => by simp only [F.adjointref1_Cut_l1, dec_end, cond_false]) fu (by omega)
      rw [show ((0 : Nat) : Int) = 0 from rfl] at h
      rw [cond_false, h, findCst]
      cases hb : (List.range v.Dims.length).any (badC v lo hi st) with
      | true => rfl
      | false =>
        have h2 := loop_count (body := F.adjointref1_Cut_l2 fu v lo hi st) v.Dims.length (fun k => ((k : Int), startW v lo k, cutD lo hi st k, cutT v st k)) (startW v lo v.Dims.length, cutD lo hi st v.Dims.length, cutT v st v.Dims.length)
          (fun k hk => by
            have hx := get_atI hk
            have hw := wrap_succ hk (by omega)
            have i1 := idx_nat (get_atI (l := lo) (show k < lo.length by omega))
            have i2 := idx_nat (get_atI (l := hi) (show k < hi.length by omega))
            have i3 := idx_nat (get_atI (l := st) (show k < st.length by omega))
            have i4 := idx_nat (get_atI (l := v.Steps) (show k < v.Steps.length by omega))
            obtain ⟨b1, b2, b3, b4, b5⟩ := badC_no (any_range.1 hb k hk)
            have hdr := (size_zero hsz).2.1 _ (List.mem_of_getElem? hx)
            have l1 := cutD_len lo hi st k
            have l2 := cutT_len v st k
            simp only [F.adjointref1_Cut_l2, dec_lt hx, cond_true, i1, i2, i3, i4, Option.bind_some, hw, kept_ok fu _ _ _ b1 b2 (by omega) b4 b5 hf, amb_self, amb2_self, amb3_self, amb4_self]
            rw [chk_app (by simp only [List.length_singleton]; omega) (by simp only [List.length_singleton]; omega), chk_app (by simp only [List.length_singleton]; omega) (by simp only [List.length_singleton]; omega), cutD_succ, cutT_succ]
            simp only [Option.bind_some, amb_self, amb2_self, amb3_self, amb4_self]
            rfl)
          (by simp only [F.adjointref1_Cut_l2, dec_end, cond_false]) fu (by omega)
        rw [show ((0 : Nat) : Int) = 0 from rfl, show startW v lo 0 = v.Start from rfl, show cutD lo hi st 0 = [] from rfl, show cutT v st 0 = [] from rfl] at h2
        obtain ⟨z1, z2⟩ := cut_size (lo := lo) (hi := hi) (st := st) hsz hb
        have := made_ok fu (cutV v lo hi st) z1 z2 hf
        unfold cutV at this
        simp only [Bool.false_eq_true, if_false, bindE, h2, this, Option.bind_some]
        rfl
  · rw [if_pos hw0, bne_true hw0, cond_true]; rfl
end Go.DN.Pl
