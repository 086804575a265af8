/-
  Arrays: the plain law of rows: the reference's walk over all indices.
-/
import Derived.Test.YtcbaolgciiieeaaGreatRwA
set_option linter.unusedSectionVars false
set_option linter.unusedSimpArgs false
set_option linter.unusedVariables false
set_option maxRecDepth 20000
namespace Go.DN.Pl
open Go.AM Go.PL
def fl (n : Nat) (f : Nat → Int) : List Int := (List.range n).map f
theorem fl_len (n : Nat) (f : Nat → Int) : (fl n f).length = n := by unfold fl; simp
theorem fl_get {n k : Nat} {f : Nat → Int} (h : k < n) : (fl n f)[k]? = some (f k) := by
 unfold fl; rw [List.getElem?_map, List.getElem?_range h]; rfl
theorem fl_at {n k : Nat} {f : Nat → Int} (h : k < n) : atI (fl n f) k = f k := atI_get (fl_get h)
theorem fl_set {n r : Nat} {f : Nat → Int} (v : Int) : (fl n f).set r v = fl n fun k => if k = r then v else f k := by
  apply List.ext_getElem?
  intro k
  by_cases hk : k < n
  · rw [fl_get hk, List.getElem?_set]
    by_cases e : r = k
    · subst e
      rw [if_pos rfl, if_pos (by rw [fl_len]; exact hk), if_pos rfl]
    · rw [if_neg e, fl_get hk, if_neg (fun h => e h.symm)]
  · rw [List.getElem?_eq_none (by rw [List.length_set, fl_len]; omega), List.getElem?_eq_none (by rw [fl_len]; omega)]
theorem fl_of (a : List Int) : a = fl a.length (atI a) := by
 apply List.ext_getElem?
 intro k
 by_cases hk : k < a.length
 · rw [fl_get hk]; exact get_atI hk
 · rw [List.getElem?_eq_none (by omega), List.getElem?_eq_none (by rw [fl_len]; omega)]
theorem fl_ext {n : Nat} {f g : Nat → Int} (h : ∀ k, k < n → f k = g k) : fl n f = fl n g := by
 unfold fl
 exact List.map_congr_left fun k hk => h k (List.mem_range.1 hk)
def isNext (d a b : List Int) : Prop := okIx d b ∧ rankU d b d.length = rankU d a d.length + 1
theorem next_loop (fu : Nat) (d a : List Int) (hd : ∀ k, k < d.length → atI d k ≤ 4096) (ha : okIx d a) (hn : d.length ≤ 100) : ∀ (r f : Nat), r ≤ d.length → r < f → (∀ k, r ≤ k → k < d.length → atI a k = atI d k - 1) →
    (∃ b, loopF (F.adjointref1_Next_l1 fu d) f ((r : Int) - 1, fl d.length fun k => if k < r then atI a k else 0) = some (.ret (b, true)) ∧ isNext d a b) ∨ ∃ m, loopF (F.adjointref1_Next_l1 fu d) f ((r : Int) - 1, fl d.length fun k => if k < r then atI a k else 0) = some (.brk m)
  | 0, f + 1, _, _, _ => .inr ⟨_, by
      simp only [loopF, F.adjointref1_Next_l1, dec_false (show ¬ (((0 : Nat) : Int) - 1 ≥ 0) by omega), cond_false]
      rfl⟩
  | r + 1, f + 1, hr, hf, he => by
    have hr' : r < d.length := by omega
    obtain ⟨a0, a1⟩ := ha.2 r hr'
    have hdr := hd r hr'
    have e1 : (((r + 1 : Nat) : Int) - 1) = (r : Int) := by omega
    have g1 : idx (fl d.length fun k => if k < r + 1 then atI a k else 0) (r : Int) = some (atI a r) := by
      have := idx_nat (fl_get (n := d.length) (f := fun k => if k < r + 1 then atI a k else 0) hr')
      rwa [if_pos (by omega)] at this
    have w1 : IntKind.i64.wrap (atI a r + 1) = atI a r + 1 := i64 (by omega) (by omega)
    have s1 : (fl d.length fun k => if k < r + 1 then atI a k else 0).set r (atI a r + 1) = fl d.length fun k => if k = r then atI a r + 1 else if k < r + 1 then atI a k else 0 := fl_set _
    have g2 : idx (fl d.length fun k => if k = r then atI a r + 1 else if k < r + 1 then atI a k else 0) (r : Int) = some (atI a r + 1) := by
      have := idx_nat (fl_get (n := d.length) (f := fun k => if k = r then atI a r + 1 else if k < r + 1 then atI a k else 0) hr')
      rwa [if_pos rfl] at this
    have g3 : idx d (r : Int) = some (atI d r) := idx_nat (get_atI hr')
    by_cases hlt : atI a r + 1 < atI d r
    · refine .inl ⟨fl d.length fun k => if k = r then atI a r + 1 else if k < r + 1 then atI a k else 0, ?_, ?_, ?_⟩
      · simp only [loopF, F.adjointref1_Next_l1, e1, dec_true (show (r : Int) ≥ 0 by omega), cond_true, g1, Option.bind_some, w1, Int.toNat_natCast, s1, g2, g3, dec_true hlt]
      · refine ⟨fl_len _ _, fun k hk => ?_⟩
        rw [fl_at hk]
        by_cases e : k = r
        · subst e; rw [if_pos rfl]; omega
        · rw [if_neg e]
          have := ha.2 k hk
          split <;> omega
      · refine (rank_next (j := r) (fun k hk => ?_) ?_ (fun k hk1 hk2 => ?_) (Nat.le_refl _)).2 hr'
        · rw [fl_at (by omega), if_neg (by omega), if_pos (by omega)]
        · rw [fl_at hr', if_pos rfl]
        · rw [fl_at hk2, if_neg (by omega), if_neg (by omega)]
          exact ⟨rfl, he k (by omega) hk2⟩
    · have s2 : (fl d.length fun k => if k = r then atI a r + 1 else if k < r + 1 then atI a k else 0).set r 0 = fl d.length fun k => if k < r then atI a k else 0 := by
        rw [fl_set]
        refine fl_ext fun k hk => ?_
        by_cases e : k = r
        · subst e; rw [if_pos rfl, if_neg (by omega)]
        · rw [if_neg e, if_neg e]
          by_cases e2 : k < r
          · rw [if_pos (by omega), if_pos e2]
          · rw [if_neg (by omega), if_neg e2]
      have w2 : IntKind.i64.wrap ((r : Int) - 1) = (r : Int) - 1 := i64 (by omega) (by omega)
      have step : loopF (F.adjointref1_Next_l1 fu d) (f + 1) (((r + 1 : Nat) : Int) - 1, fl d.length fun k => if k < r + 1 then atI a k else 0) = loopF (F.adjointref1_Next_l1 fu d) f ((r : Int) - 1, fl d.length fun k => if k < r then atI a k else 0) := by
        simp only [loopF, F.adjointref1_Next_l1, e1, dec_true (show (r : Int) ≥ 0 by omega), cond_true, g1, Option.bind_some, w1, Int.toNat_natCast, s1, g2, g3, dec_false hlt, cond_false, s2, w2]
      rw [step]
      exact next_loop fu d a hd ha hn r f (by omega) (by omega) fun k hk1 hk2 => by
        by_cases e : k = r
        · subst e; omega
        · exact he k (by omega) hk2
theorem next_ok (fu : Nat) (d a : List Int) (hd : ∀ k, k < d.length → atI d k ≤ 4096) (ha : okIx d a) (hn : d.length ≤ 100) (hf : 4000000 < fu) :
  (∃ b, F.adjointref1_Next fu d a = some (b, true) ∧ isNext d a b) ∨ ∃ m, F.adjointref1_Next fu d a = some (m, false) := by
 have hc : chk (([] : List Int).length + a.length ≤ maxLen ∧ (([] : List Int).length + a.length) * 8 ≤ 140737488355328) = some () := chk_app (by have := ha.1; simp only [List.length_nil]; omega) (by have := ha.1; simp only [List.length_nil]; omega)
 have hw : IntKind.i64.wrap ((d.length : Int) - 1) = (d.length : Int) - 1 := i64 (by omega) (by omega)
 have e : ([] : List Int) ++ a = fl d.length fun k => if k < d.length then atI a k else 0 := by
  rw [List.nil_append]
  refine (fl_of a).trans ?_
  rw [ha.1]
  exact fl_ext fun k hk => by rw [if_pos hk]
 unfold F.adjointref1_Next
 rw [hc, hw, e]
 simp only [Option.bind_some]
 rcases next_loop fu d a hd ha hn d.length fu (Nat.le_refl _) (by omega) (fun k h1 h2 => by omega) with ⟨b, h1, h2⟩ | ⟨m, h1⟩
 · exact .inl ⟨b, by rw [h1]; rfl, h2⟩
 · exact .inr ⟨m, by rw [h1]; rfl⟩
theorem all_loop (fu : Nat) (d : List Int) (N : Nat) (hN : prodU d d.length = (N : Int)) (hN2 : N ≤ 65536) (hd : ∀ k, k < d.length → atI d k ≤ 4096) (hn : d.length ≤ 100) (hf : 4000000 < fu) : ∀ (q f : Nat) (a : List Int) (l : List (List Int)), okIx d a → (N : Int) - rankU d a d.length ≤ (q : Int) → q + 1 < f → l.length + q ≤ 1000000 → (∀ x ∈ l, okIx d x) →
    ∃ r, loopF (F.adjointref1_All_l1 fu d) f (a, true, l) = some r ∧ (∀ x ∈ r, okIx d x) ∧ r.length ≤ 1000000
  | 0, _, a, _, ha, hq, _, _, _ => by
    have := (rank_ran ha (Nat.le_refl d.length)).2
    rw [hN] at this
    omega
  | q + 1, f + 1, a, l, ha, hq, hf2, hl, hx => by
    rcases next_ok fu d a hd ha hn hf with ⟨b, h1, h2, h3⟩ | ⟨m, h1⟩
    · have hc : chk (l.length + [b].length ≤ maxLen ∧ (l.length + [b].length) * 24 ≤ 140737488355328) = some () := chk_app (by simp only [List.length_singleton]; omega) (by simp only [List.length_singleton]; omega)
      have step : loopF (F.adjointref1_All_l1 fu d) (f + 1) (a, true, l) = loopF (F.adjointref1_All_l1 fu d) f (b, true, l ++ [b]) := by
        simp only [loopF, F.adjointref1_All_l1, cond_true, h1, Option.bind_some, hc]
      rw [step]
      refine all_loop fu d N hN hN2 hd hn hf q f b (l ++ [b]) h2 (by omega) (by omega) (by rw [List.length_append, List.length_singleton]; omega) fun x hxm => ?_
      rcases List.mem_append.1 hxm with h | h
      · exact hx x h
      · rw [List.mem_singleton.1 h]; exact h2
    · obtain ⟨g, rfl⟩ : ∃ g, f = g + 1 := ⟨f - 1, by omega⟩
      refine ⟨l, ?_, hx, by omega⟩
      simp only [loopF, F.adjointref1_All_l1, cond_true, h1, Option.bind_some, cond_false]
theorem all_ok (fu : Nat) (d : List Int) (hs : (sizeS d).2 = 0) (hf : 4000000 < fu) : ∃ r, F.adjointref1_All fu d = some r ∧ (∀ x ∈ r, okIx d x) ∧ r.length ≤ 1000000 := by
  obtain ⟨h6, hg, hp, hz⟩ := size_zero hs
  unfold F.adjointref1_All
  rw [refSize_ok fu d (by omega) hf]
  simp only [Option.bind_some]
  by_cases h0 : (sizeS d).1 = 0
  · rw [h0, show ((0 : Int) == 0) = true from rfl]
    exact ⟨[], rfl, fun x hx => absurd hx List.not_mem_nil, by simp⟩
  · have hb : hasB d 0 = false := by
      cases h : hasB d 0 with
      | false => rfl
      | true => exact absurd (hz h) h0
    obtain ⟨p1, p2, p3⟩ := hp hb
    rw [show ((sizeS d).1 == 0) = false by simp [h0]]
    have hc : chk ((0 : Int) ≤ (d.length : Int) ∧ (d.length : Int) ≤ (d.length : Int) ∧ ((8 : Nat) : Int) * (d.length : Int) ≤ 281474976710656 ∧ (d.length : Int) ≤ 9223372036854775807) = some () := chk_pos ⟨by omega, by omega, by omega, by omega⟩
    have hpos := prodR_pos d p1
    have hzero : okIx d (List.replicate d.length (0 : Int)) := ⟨List.length_replicate, fun k hk => by
      have : atI (List.replicate d.length (0 : Int)) k = 0 := atI_get (by rw [List.getElem?_replicate, if_pos hk])
      have h1 := p1 _ (List.mem_of_getElem? (get_atI hk))
      omega⟩
    have hr0 := (rank_ran hzero (Nat.le_refl d.length)).1
    obtain ⟨r, h1, h2, h3⟩ := all_loop fu d (prodR d).toNat (by rw [prodU_all]; omega) (by omega) (fun k hk => (hg _ (List.mem_of_getElem? (get_atI hk))).2) (by omega) hf 65537 fu (List.replicate d.length (0 : Int)) [List.replicate d.length (0 : Int)] hzero (by omega) (by omega) (by simp) (fun x hx => by rw [List.mem_singleton.1 hx]; exact hzero)
    refine ⟨r, ?_, h2, h3⟩
    simp only [cond_false, hc, Option.bind_some, Int.toNat_natCast, h1]
end Go.DN.Pl
