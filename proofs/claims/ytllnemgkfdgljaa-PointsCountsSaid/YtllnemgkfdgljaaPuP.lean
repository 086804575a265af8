/-
  Points: the plain law: the walks of PointsAll (printed by wip/tools/points_walks2.py).
-/
import Derived.Test.YtllnemgkfdgljaaPsP
set_option linter.unusedSectionVars false
set_option linter.unusedSimpArgs false
namespace Go.Proofs.Ytllnemgkfdgljaa
open Go.AM
set_option linter.unusedVariables false

theorem walk_loopP {σ τ ρ : Type} (P : σ → List (List Int) → Prop) {y : List Int → σ → σ × Jp} (hP1 : ∀ a b s, P s (a ++ b) → P s a) (hP2 : ∀ a b s, P s (a ++ b) → (runY y a s).2 = .go → P (runY y a s).1 b)
    {body : τ → Option (τ ⊕ ρ)} (st : List Int → σ → τ) (brk : List Int → σ → ρ) (ret : List Int → σ → Jp → ρ) (L N k : Nat) (E : Nat → List (List Int)) (pre : List Int) (hkL : k < L) (hN : N ≤ 4096)
    (hstep : ∀ (i : Nat) (x : List Int) (s : σ), i < N → x.length = L → Ran x → x.take k = pre → x.getD k 0 = (i : Int) → P s (E i) → ∃ x' : List Int, x'.length = L ∧ Ran x' ∧ x'.take k = pre ∧
      body (st x s) = some (if (runY y (E i) s).2 = .go then .inl (st (x'.set k ((i + 1 : Nat) : Int)) (runY y (E i) s).1) else .inr (ret x' (runY y (E i) s).1 (runY y (E i) s).2)))
    (hend : ∀ (x : List Int) (s : σ), x.length = L → x.getD k 0 = (N : Int) → body (st x s) = some (.inr (brk x s)))
    (fu : Nat) (x : List Int) (s : σ) (hl : x.length = L) (hr : Ran x) (ht : x.take k = pre) (h0 : x.getD k 0 = 0) (hf : N < fu) (hP : P s ((List.range N).flatMap E)) :
    ∃ x' : List Int, x'.length = L ∧ Ran x' ∧ x'.take k = pre ∧ loopF body fu (st x s) = some (if (runY y ((List.range N).flatMap E) s).2 = .go then brk x' (runY y ((List.range N).flatMap E) s).1 else ret x' (runY y ((List.range N).flatMap E) s).1 (runY y ((List.range N).flatMap E) s).2) := by
  have key : ∀ (m i fuel : Nat) (x : List Int) (s : σ), i + m = N → m < fuel → x.length = L → Ran x → x.take k = pre → x.getD k 0 = (i : Int) → P s ((List.range' i m).flatMap E) →
      ∃ x' : List Int, x'.length = L ∧ Ran x' ∧ x'.take k = pre ∧ loopF body fuel (st x s) = some (if (runY y ((List.range' i m).flatMap E) s).2 = .go then brk x' (runY y ((List.range' i m).flatMap E) s).1 else ret x' (runY y ((List.range' i m).flatMap E) s).1 (runY y ((List.range' i m).flatMap E) s).2) := by
    intro m
    induction m with
    | zero =>
      intro i fuel x s h1 h2 hl hr ht hi _
      obtain ⟨fuel, rfl⟩ : ∃ f, fuel = f + 1 := ⟨fuel - 1, by omega⟩
      have : i = N := by omega
      subst this
      refine ⟨x, hl, hr, ht, ?_⟩
      simp only [loopF, hend x s hl hi, List.range'_zero, List.flatMap_nil, runY, if_true]
    | succ m ih =>
      intro i fuel x s h1 h2 hl hr ht hi hp
      obtain ⟨fuel, rfl⟩ : ∃ f, fuel = f + 1 := ⟨fuel - 1, by omega⟩
      rw [List.range'_succ, List.flatMap_cons] at hp ⊢
      obtain ⟨x1, a1, a2, a3, a4⟩ := hstep i x s (by omega) hl hr ht hi (hP1 _ _ _ hp)
      rw [runY_append]
      by_cases hg : (runY y (E i) s).2 = .go
      · rw [if_pos hg] at a4
        obtain ⟨x2, b1, b2, b3, b4⟩ := ih (i + 1) fuel (x1.set k ((i + 1 : Nat) : Int)) (runY y (E i) s).1 (by omega) (by omega) (by rw [List.length_set]; exact a1)
          (fun z hz => by
            rcases List.mem_or_eq_of_mem_set hz with h | h
            · exact a2 z h
            · subst h; omega)
          (by rw [List.take_set, List.set_eq_of_length_le (by rw [List.length_take]; omega)]; exact a3)
          (by rw [List.getD_eq_getElem?_getD, List.getElem?_set_self (by omega)]; rfl) (hP2 _ _ _ hp hg)
        refine ⟨x2, b1, b2, b3, ?_⟩
        simp only [loopF, a4, hg, if_true]
        exact b4
      · rw [if_neg hg] at a4
        refine ⟨x1, a1, a2, a3, ?_⟩
        simp only [loopF, a4, hg, if_false]
  have := key N 0 fu x s (by omega) hf hl hr ht h0 (by rw [← List.range_eq_range']; exact hP)
  rw [← List.range_eq_range'] at this
  exact this

def yB : List Int → List (List Int) → List (List Int) × Jp := fun a s => (s ++ [a], .go)
theorem runB : ∀ (l s : List (List Int)), runY yB l s = (s ++ l, .go)
  | [], s => by simp [runY]
  | a :: l, s => by
    have e : yB a s = (s ++ [a], .go) := rfl
    simp only [runY, e, if_true]
    rw [runB l]
    simp
theorem walkB_y (fu : Nat) (x : List Int) (s : List (List Int)) (h : s.length + 1 ≤ 4096) : F.plain_Points_y2 fu x s = some (yB x s).1 := by
  have c := chk_pos (p := (List.length s) + (List.length [x]) ≤ maxLen ∧ ((List.length s) + (List.length [x])) * 24 ≤ 140737488355328) (by simp only [List.length_singleton, maxLen]; omega)
  simp only [F.plain_Points_y2, c, Option.bind_some]
  rfl
def PB (s l : List (List Int)) : Prop := s.length + l.length ≤ 4096
theorem PB1 : ∀ a b s, PB s (a ++ b) → PB s a := fun a b s h => by unfold PB at *; rw [List.length_append] at h; omega
theorem PB2 : ∀ a b s, PB s (a ++ b) → (runY yB a s).2 = .go → PB (runY yB a s).1 b := fun a b s h _ => by rw [runB]; unfold PB at *; simp only [List.length_append] at h ⊢; omega

/-- The second pass: what is yielded is what was listed. -/
def yD (L : List (List Int)) : List Int → Bool × Bool × Int → (Bool × Bool × Int) × Jp := fun a s =>
  ((s.1 && !s.2.1 && decide (L[s.2.2.toNat]? = some a), decide (s.2.2 + 1 > (L.length : Int) / 2), s.2.2 + 1), if s.2.2 + 1 > (L.length : Int) / 2 then .ex else .go)
theorem loopD (fu : Nat) (x : List Int) (L : List (List Int)) (n : Int) (hx : x.length ≤ 4) (h0 : 0 ≤ n) (hf : 10 < fu) (c : Bool) (hc : c = true → ∃ q, L[n.toNat]? = some q ∧ q.length = x.length) :
    ∃ l6 : List Int, l6.length = x.length ∧ loopF (F.plain_Points_1_3_l1 fu x L n) fu (0, x, c) = some (l6, c && decide (L[n.toNat]? = some x)) := by
  obtain ⟨⟨l6, c7⟩, h1, h2, h3⟩ := loopF_inv (body := F.plain_Points_1_3_l1 fu x L n)
    (fun s : Int × List Int × Bool => ∃ k : Nat, s.1 = (k : Int) ∧ k ≤ x.length ∧ s.2.1.length = x.length ∧ (∀ j, k ≤ j → s.2.1[j]? = x[j]?) ∧ s.2.2 = (c && decide (∀ q, L[n.toNat]? = some q → x.take k = q.take k)))
    (fun s => x.length - s.1.toNat) (fun r => r.1.length = x.length ∧ r.2 = (c && decide (L[n.toNat]? = some x))) (by
      rintro ⟨i, x4, c5⟩ ⟨k, e1, hk, e2, e3, e4⟩
      simp only at e1 e2 e3 e4
      subst e1
      by_cases h : k < x.length
      · left
        have hxk : x[k]? = some x[k] := List.getElem?_eq_getElem h
        have hx4 : x4[k]? = some x[k] := by rw [e3 k (Nat.le_refl _)]; exact hxk
        have hw : IntKind.i64.wrap ((k : Int) + 1) = ((k + 1 : Nat) : Int) := wrap_succ h (by omega)
        refine ⟨(((k + 1 : Nat) : Int), x4.set k (-1), (c && decide (∀ q, L[n.toNat]? = some q → x.take (k + 1) = q.take (k + 1)))), ?_, ⟨k + 1, rfl, by omega, by simpa using e2, fun j hj => ?_, rfl⟩, by simp only; omega⟩
        · simp only [F.plain_Points_1_3_l1, dec_lt hxk, cond_true, idx_nat hx4, Option.bind_some, Int.toNat_natCast, hw]
          cases c with
          | false =>
            simp only [Bool.false_and] at e4 ⊢
            subst e4
            simp only [cond_false, Option.bind_some]
          | true =>
            obtain ⟨q, hq, hql⟩ := hc rfl
            have hqk : q[k]? = some (q[k]'(by omega)) := List.getElem?_eq_getElem (by omega)
            have hiff : ∀ m, decide (∀ q', L[n.toNat]? = some q' → x.take m = q'.take m) = decide (x.take m = q.take m) := fun m => by
              rw [decide_eq_decide]
              constructor
              · intro h; exact h q hq
              · intro h q' hq'; rw [hq] at hq'; cases hq'; exact h
            rw [hiff] at e4 ⊢
            simp only [Bool.true_and] at e4 ⊢
            have hidx : idx L n = some q := by unfold idx; rw [if_pos h0]; exact hq
            have hlq : decide ((k : Int) < (q.length : Int)) = true := by simp; omega
            have hstep : decide (x.take (k + 1) = q.take (k + 1)) = (decide (x.take k = q.take k) && (x[k] == q[k]'(by omega))) := by
              have h7 : x.take (k + 1) = q.take (k + 1) ↔ (x.take k = q.take k ∧ x[k] = q[k]'(by omega)) := by
                rw [List.take_add_one, List.take_add_one, hxk, hqk]
                simp only [Option.toList_some]
                constructor
                · intro h5
                  have := List.append_inj h5 (by rw [List.length_take, List.length_take]; omega)
                  exact ⟨this.1, by simpa using this.2⟩
                · rintro ⟨h5, h6⟩; rw [h5, h6]
              rw [Bool.eq_iff_iff, decide_eq_true_iff, h7, Bool.and_eq_true, decide_eq_true_iff, beq_iff_eq]
            rw [hstep]
            subst e4
            by_cases hd : x.take k = q.take k
            · have hd : decide (x.take k = q.take k) = true := by simpa using hd
              simp only [hd, cond_true, hidx, hlq, idx_nat hqk, Option.bind_some, Bool.true_and]
            · have hd : decide (x.take k = q.take k) = false := by simpa using hd
              simp only [hd, cond_false, Option.bind_some, Bool.false_and]
        · rw [List.getElem?_set_ne (by omega)]
          exact e3 j (by omega)
      · right
        have : k = x.length := by omega
        subst this
        refine ⟨(x4, c5), by simp only [F.plain_Points_1_3_l1, dec_end, cond_false], e2, ?_⟩
        simp only
        rw [e4]
        cases c with
        | false => rfl
        | true =>
          obtain ⟨q, hq, hql⟩ := hc rfl
          rw [Bool.true_and, Bool.true_and, decide_eq_decide, hq]
          constructor
          · intro h
            have := h q rfl
            rw [List.take_length, ← hql, List.take_length] at this
            rw [this]
          · intro h q' hq'
            cases hq'
            cases h
            rfl) fu (0, x, c) ⟨0, rfl, by omega, rfl, fun _ _ => rfl, by cases c <;> simp⟩ (by simp only; omega)
  refine ⟨l6, h2, ?_⟩
  rw [h1]
  simp only at h3
  rw [h3]
theorem walkD_y (fu : Nat) (L : List (List Int)) (hL : L.length ≤ 4096) (x : List Int) (s : Bool × Bool × Int) (hx : x.length ≤ 4) (hf : 10 < fu) (h0 : 0 ≤ s.2.2) (h1 : s.2.2 ≤ 2048) :
    ∃ l6 : List Int, l6.length = x.length ∧ F.plain_Points_1_3 fu x s.1 s.2.1 s.2.2 L = some (Jp.isGo (yD L x s).2, l6, (yD L x s).1.1, (yD L x s).1.2.1, (yD L x s).1.2.2) := by
  obtain ⟨b1, b2, n⟩ := s
  simp only at h0 h1
  have hw : IntKind.i64.wrap (n + 1) = n + 1 := i64 (by omega) (by omega)
  have hw2 : IntKind.i64.wrap (Int.tdiv (List.length L : Int) 2) = (L.length : Int) / 2 := by rw [Int.tdiv_eq_ediv_of_nonneg (by omega), i64 (by omega) (by omega)]
  have hc2 : ∃ c, (cond b1 (cond (!b2) (cond (decide (n < (List.length L : Int))) ((idx L n).bind fun x1 => some ((List.length x : Int) == (List.length x1 : Int))) (some false)) (some false)) (some false)) = some c ∧
      (c = true → ∃ q, L[n.toNat]? = some q ∧ q.length = x.length) ∧ (c && decide (L[n.toNat]? = some x)) = (b1 && !b2 && decide (L[n.toNat]? = some x)) := by
    cases b1 with
    | false => exact ⟨false, rfl, fun h => (by cases h), by simp⟩
    | true =>
      cases b2 with
      | true => exact ⟨false, rfl, fun h => (by cases h), by simp⟩
      | false =>
        by_cases hn : n < (L.length : Int)
        · obtain ⟨q, q1, q2⟩ := idx_lt (l := L) h0 hn
          have hd : decide (n < (L.length : Int)) = true := by simpa using hn
          refine ⟨((List.length x : Int) == (List.length q : Int)), by simp only [cond_true, Bool.not_false, hd, q1, Option.bind_some], fun h => ⟨q, q2, ?_⟩, ?_⟩
          · simp only [beq_iff_eq] at h; omega
          · rw [q2]
            by_cases e : q = x
            · subst e; simp
            · have : decide (some q = some x) = false := by simpa using e
              rw [this]; simp
        · have hd : decide (n < (L.length : Int)) = false := by simpa using hn
          refine ⟨false, by simp only [cond_true, Bool.not_false, hd, cond_false], fun h => (by cases h), ?_⟩
          rw [List.getElem?_eq_none (by omega)]
          simp
  obtain ⟨c, e1, e2, e3⟩ := hc2
  obtain ⟨l6, f1, f2⟩ := loopD fu x L n hx h0 hf c e2
  refine ⟨l6, f1, ?_⟩
  unfold F.plain_Points_1_3
  simp only [e1, Option.bind_some, f2, hw, hw2, e3, yD]
  by_cases hg : n + 1 > (L.length : Int) / 2
  · simp [hg, Jp.isGo]
  · simp [hg, Jp.isGo]
def PD (L : List (List Int)) (s : Bool × Bool × Int) (_ : List (List Int)) : Prop := L.length ≤ 4096 ∧ 0 ≤ s.2.2 ∧ s.2.2 ≤ 2048
theorem PD1 (L : List (List Int)) : ∀ a b s, PD L s (a ++ b) → PD L s a := fun _ _ _ h => h
theorem PD2 (L : List (List Int)) : ∀ a b s, PD L s (a ++ b) → (runY (yD L) a s).2 = .go → PD L (runY (yD L) a s).1 b
  | [], _, _, h, _ => h
  | x :: a, b, s, h, hg => by
    simp only [runY] at hg ⊢
    by_cases e : (yD L x s).2 = .go
    · rw [if_pos e] at hg ⊢
      refine PD2 L a b _ ⟨h.1, ?_, ?_⟩ hg
      · simp only [yD]; have := h.2.1; omega
      · simp only [yD] at e ⊢
        split at e
        · cases e
        · have := h.1; omega
    · rw [if_neg e] at hg
      exact absurd hg e
theorem runD (L : List (List Int)) : ∀ (l : List (List Int)) (n : Nat), L.drop n = l → (runY (yD L) l (true, false, (n : Int))).1.1 = true
  | [], _, _ => rfl
  | x :: l, n, h => by
    have hn : L[n]? = some x := by
      have := congrArg (·[0]?) h
      simpa using this
    have ht : L.drop (n + 1) = l := by
      rw [← List.drop_drop, h]; rfl
    simp only [runY]
    by_cases e : (yD L x (true, false, (n : Int))).2 = .go
    · rw [if_pos e]
      have hy : (yD L x (true, false, (n : Int))).1 = (true, false, ((n + 1 : Nat) : Int)) := by
        simp only [yD] at e ⊢
        split at e
        · cases e
        · rename_i h5
          simp [hn, h5]
      rw [hy]
      exact runD L l (n + 1) ht
    · rw [if_neg e]
      simp [yD, hn]


theorem walkB_ok {p : SPoints} (g : Good p) : ∀ (fu k : Nat) (x : List Int) (s : List (List Int)), k ≤ p.Box.length → x.length = p.Box.length → Ran x → 5000 + (p.Box.length - k) < fu → PB s ((ext (p.Box.drop k) (x.take k)).filter (sat p)) →
    ∃ x' : List Int, x'.length = p.Box.length ∧ Ran x' ∧ x'.take k = x.take k ∧ F.points_walk_4 fu p (k : Int) x s = some (Jp.isGo (runY yB ((ext (p.Box.drop k) (x.take k)).filter (sat p)) s).2, x', (runY yB ((ext (p.Box.drop k) (x.take k)).filter (sat p)) s).1) := by
  have h4 := g.len
  intro fu
  induction fu with
  | zero => intro k x s _ _ _ h _; omega
  | succ fu ih =>
    intro k x s hk hl hr hf hP
    show ∃ x' : List Int, x'.length = p.Box.length ∧ Ran x' ∧ x'.take k = x.take k ∧ F.points_walk_4_body fu (F.points_walk_4 fu) p (k : Int) x s = _
    unfold F.points_walk_4_body
    rw [hopeless_ok fu g hr hl k (by omega), Option.bind_some]
    rcases Bool.eq_false_or_eq_true (p.Rows.any fun r => decide (hopV r p x k < 0)) with h | h
    · rw [h, cond_true, hop_none g hr hl hk h]
      exact ⟨x, hl, hr, rfl, rfl⟩
    · rw [h, cond_false]
      by_cases hkl : k = p.Box.length
      · subst hkl
        have hs : sat p x = true := by
          have := hop_leaf g hl
          rw [h] at this
          simpa using this.symm
        have e1 : ((p.Box.length : Int) == (p.Box.length : Int)) = true := by simp
        rw [List.drop_length, List.take_of_length_le (Nat.le_of_eq hl)] at hP
        simp only [ext, List.filter_cons, hs, if_true, List.filter_nil] at hP
        rw [e1, cond_true, clone_ok fu x (by omega), Option.bind_some]
        refine ⟨x, hl, hr, rfl, ?_⟩
        rw [List.drop_length, List.take_of_length_le (Nat.le_of_eq hl)]
        simp only [ext, List.filter_cons, hs, if_true, List.filter_nil, runY_one]
        rw [walkB_y fu x s hP, Option.bind_some]
        rfl
      · have hkl : k < p.Box.length := by omega
        have e1 : ((k : Int) == (p.Box.length : Int)) = false := by simp; omega
        have hdr : p.Box.drop k = p.Box.getD k 0 :: p.Box.drop (k + 1) := by
          rw [List.drop_eq_getElem_cons hkl, List.getD_eq_getElem?_getD, List.getElem?_eq_getElem hkl]; rfl
        have hbx := g.box _ (getD_mem hkl)
        have htk : (x.take k).length = k := by rw [List.length_take]; omega
        have ek : IntKind.i64.wrap ((k : Int) + 1) = ((k + 1 : Nat) : Int) := by rw [i64 (by omega) (by omega)]; omega
        rw [e1, cond_false, idx_nat (getD_of (l := x) (i := k) (by omega)), Option.bind_some, Int.toNat_natCast]
        have hloop := walk_loopP PB (y := yB) PB1 PB2 (body := F.points_walk_4_l1 fu (F.points_walk_4 fu) (k : Int) p) (fun x s => (s, x)) (fun x s => Ex.brk (s, x)) (fun x s j => Ex.ret (false, x, s)) p.Box.length (p.Box.getD k 0).toNat k
          (fun i => (ext (p.Box.drop (k + 1)) (x.take k ++ [(i : Int)])).filter (sat p)) (x.take k) hkl (by omega)
          (fun i y s hi hyl hyr hyt hyi hPi => by
            have ht : y.take (k + 1) = x.take k ++ [(i : Int)] := by
              rw [List.take_add_one, hyt, getD_of (l := y) (i := k) (by omega), hyi]; rfl
            obtain ⟨x1, a1, a2, a3, a4⟩ := ih (k + 1) y s (by omega) hyl hyr (by omega) (by rw [ht]; exact hPi)
            have h1k : x1.getD k 0 = (i : Int) := by
              rw [← getD_take x1, a3, getD_take, hyi]
            refine ⟨x1, a1, a2, ?_, ?_⟩
            · have : x1.take k = (x1.take (k + 1)).take k := by rw [List.take_take, Nat.min_eq_left (by omega)]
              rw [this, a3, ht, List.take_append_of_le_length (by omega), List.take_of_length_le (by omega)]
            · rw [ht] at a4
              try dsimp only
              generalize runY yB ((ext (p.Box.drop (k + 1)) (x.take k ++ [(i : Int)])).filter (sat p)) s = R at a4 ⊢
              have hd : decide ((i : Int) < p.Box.getD k 0) = true := by simp only [decide_eq_true_eq]; omega
              have hw : IntKind.i64.wrap ((i : Int) + 1) = ((i + 1 : Nat) : Int) := by rw [i64 (by omega) (by omega)]; omega
              have cl := chk_pos (p := List.length y = List.length x1) (by omega)
              simp only [F.points_walk_4_l1, idx_nat (getD_of (l := y) (i := k) (by omega)), hyi, idx_nat (getD_of (l := p.Box) (i := k) hkl), Option.bind_some, hd, cond_true, ek, a4, cl]
              by_cases hg : R.2 = Jp.go
              · simp only [hg, Jp.isGo, Bool.not_true, cond_false, idx_nat (getD_of (l := x1) (i := k) (by omega)), h1k, Option.bind_some, if_true, hw, Int.toNat_natCast]
              · simp only [isGo_false hg, Bool.not_false, cond_true, if_neg hg])
          (fun y s hyl hyi => by
            have hd : decide (((p.Box.getD k 0).toNat : Int) < p.Box.getD k 0) = false := by simp only [decide_eq_false_iff_not]; omega
            simp only [F.points_walk_4_l1, idx_nat (getD_of (l := y) (i := k) (by omega)), hyi, idx_nat (getD_of (l := p.Box) (i := k) hkl), Option.bind_some, hd, cond_false])
          fu (x.set k 0) s (by rw [List.length_set]; exact hl) (fun z hz => by
            rcases List.mem_or_eq_of_mem_set hz with h | h
            · exact hr z h
            · subst h; omega)
          (by rw [List.take_set, List.set_eq_of_length_le (by omega)])
          (by rw [List.getD_eq_getElem?_getD, List.getElem?_set_self (by omega)]; rfl) (by omega) (by rw [← filter_ext_cons, ← hdr]; exact hP)
        obtain ⟨x', b1, b2, b3, b4⟩ := hloop
        refine ⟨x', b1, b2, b3, ?_⟩
        rw [hdr, filter_ext_cons]
        try dsimp only at b4
        rw [b4]
        generalize runY yB ((List.range (p.Box.getD k 0).toNat).flatMap fun (i : Nat) => (ext (p.Box.drop (k + 1)) (x.take k ++ [(i : Int)])).filter (sat p)) s = R
        by_cases hg : R.2 = Jp.go
        · simp only [hg, if_true, bindE, Jp.isGo]
        · simp only [if_neg hg, bindE, isGo_false hg, id]


theorem walkD_ok {p : SPoints} (g : Good p) (L : List (List Int)) : ∀ (fu k : Nat) (x : List Int) (s : Bool × Bool × Int), k ≤ p.Box.length → x.length = p.Box.length → Ran x → 5000 + (p.Box.length - k) < fu → PD L s ((ext (p.Box.drop k) (x.take k)).filter (sat p)) →
    ∃ x' : List Int, x'.length = p.Box.length ∧ Ran x' ∧ x'.take k = x.take k ∧ F.points_walk_7 fu p (k : Int) x s.1 s.2.1 s.2.2 L = some (Jp.isGo (runY (yD L) ((ext (p.Box.drop k) (x.take k)).filter (sat p)) s).2, x', (runY (yD L) ((ext (p.Box.drop k) (x.take k)).filter (sat p)) s).1.1, (runY (yD L) ((ext (p.Box.drop k) (x.take k)).filter (sat p)) s).1.2.1, (runY (yD L) ((ext (p.Box.drop k) (x.take k)).filter (sat p)) s).1.2.2) := by
  have h4 := g.len
  intro fu
  induction fu with
  | zero => intro k x s _ _ _ h _; omega
  | succ fu ih =>
    intro k x s hk hl hr hf hP
    show ∃ x' : List Int, x'.length = p.Box.length ∧ Ran x' ∧ x'.take k = x.take k ∧ F.points_walk_7_body fu (F.points_walk_7 fu) p (k : Int) x s.1 s.2.1 s.2.2 L = _
    unfold F.points_walk_7_body
    rw [hopeless_ok fu g hr hl k (by omega), Option.bind_some]
    rcases Bool.eq_false_or_eq_true (p.Rows.any fun r => decide (hopV r p x k < 0)) with h | h
    · rw [h, cond_true, hop_none g hr hl hk h]
      exact ⟨x, hl, hr, rfl, rfl⟩
    · rw [h, cond_false]
      by_cases hkl : k = p.Box.length
      · subst hkl
        have hs : sat p x = true := by
          have := hop_leaf g hl
          rw [h] at this
          simpa using this.symm
        have e1 : ((p.Box.length : Int) == (p.Box.length : Int)) = true := by simp
        rw [List.drop_length, List.take_of_length_le (Nat.le_of_eq hl)] at hP
        simp only [ext, List.filter_cons, hs, if_true, List.filter_nil] at hP
        rw [e1, cond_true, clone_ok fu x (by omega), Option.bind_some]
        refine ⟨x, hl, hr, rfl, ?_⟩
        rw [List.drop_length, List.take_of_length_le (Nat.le_of_eq hl)]
        simp only [ext, List.filter_cons, hs, if_true, List.filter_nil, runY_one]
        obtain ⟨l6, f1, f2⟩ := walkD_y fu L hP.1 x s (by omega) (by omega) hP.2.1 hP.2.2
        have cl := chk_pos (p := List.length x = List.length l6) f1.symm
        rw [f2, Option.bind_some]
        simp only [cl, Option.bind_some]
      · have hkl : k < p.Box.length := by omega
        have e1 : ((k : Int) == (p.Box.length : Int)) = false := by simp; omega
        have hdr : p.Box.drop k = p.Box.getD k 0 :: p.Box.drop (k + 1) := by
          rw [List.drop_eq_getElem_cons hkl, List.getD_eq_getElem?_getD, List.getElem?_eq_getElem hkl]; rfl
        have hbx := g.box _ (getD_mem hkl)
        have htk : (x.take k).length = k := by rw [List.length_take]; omega
        have ek : IntKind.i64.wrap ((k : Int) + 1) = ((k + 1 : Nat) : Int) := by rw [i64 (by omega) (by omega)]; omega
        rw [e1, cond_false, idx_nat (getD_of (l := x) (i := k) (by omega)), Option.bind_some, Int.toNat_natCast]
        have hloop := walk_loopP (PD L) (y := yD L) (PD1 L) (PD2 L) (body := F.points_walk_7_l1 fu (F.points_walk_7 fu) (k : Int) p L) (fun x s => (x, s.1, s.2.1, s.2.2)) (fun x s => Ex.brk (x, s.1, s.2.1, s.2.2)) (fun x s j => Ex.ret (false, x, s.1, s.2.1, s.2.2)) p.Box.length (p.Box.getD k 0).toNat k
          (fun i => (ext (p.Box.drop (k + 1)) (x.take k ++ [(i : Int)])).filter (sat p)) (x.take k) hkl (by omega)
          (fun i y s hi hyl hyr hyt hyi hPi => by
            have ht : y.take (k + 1) = x.take k ++ [(i : Int)] := by
              rw [List.take_add_one, hyt, getD_of (l := y) (i := k) (by omega), hyi]; rfl
            obtain ⟨x1, a1, a2, a3, a4⟩ := ih (k + 1) y s (by omega) hyl hyr (by omega) (by rw [ht]; exact hPi)
            have h1k : x1.getD k 0 = (i : Int) := by
              rw [← getD_take x1, a3, getD_take, hyi]
            refine ⟨x1, a1, a2, ?_, ?_⟩
            · have : x1.take k = (x1.take (k + 1)).take k := by rw [List.take_take, Nat.min_eq_left (by omega)]
              rw [this, a3, ht, List.take_append_of_le_length (by omega), List.take_of_length_le (by omega)]
            · rw [ht] at a4
              try dsimp only
              generalize runY (yD L) ((ext (p.Box.drop (k + 1)) (x.take k ++ [(i : Int)])).filter (sat p)) s = R at a4 ⊢
              have hd : decide ((i : Int) < p.Box.getD k 0) = true := by simp only [decide_eq_true_eq]; omega
              have hw : IntKind.i64.wrap ((i : Int) + 1) = ((i + 1 : Nat) : Int) := by rw [i64 (by omega) (by omega)]; omega
              have cl := chk_pos (p := List.length y = List.length x1) (by omega)
              simp only [F.points_walk_7_l1, idx_nat (getD_of (l := y) (i := k) (by omega)), hyi, idx_nat (getD_of (l := p.Box) (i := k) hkl), Option.bind_some, hd, cond_true, ek, a4, cl]
              by_cases hg : R.2 = Jp.go
              · simp only [hg, Jp.isGo, Bool.not_true, cond_false, idx_nat (getD_of (l := x1) (i := k) (by omega)), h1k, Option.bind_some, if_true, hw, Int.toNat_natCast]
              · simp only [isGo_false hg, Bool.not_false, cond_true, if_neg hg])
          (fun y s hyl hyi => by
            have hd : decide (((p.Box.getD k 0).toNat : Int) < p.Box.getD k 0) = false := by simp only [decide_eq_false_iff_not]; omega
            simp only [F.points_walk_7_l1, idx_nat (getD_of (l := y) (i := k) (by omega)), hyi, idx_nat (getD_of (l := p.Box) (i := k) hkl), Option.bind_some, hd, cond_false])
          fu (x.set k 0) s (by rw [List.length_set]; exact hl) (fun z hz => by
            rcases List.mem_or_eq_of_mem_set hz with h | h
            · exact hr z h
            · subst h; omega)
          (by rw [List.take_set, List.set_eq_of_length_le (by omega)])
          (by rw [List.getD_eq_getElem?_getD, List.getElem?_set_self (by omega)]; rfl) (by omega) (by rw [← filter_ext_cons, ← hdr]; exact hP)
        obtain ⟨x', b1, b2, b3, b4⟩ := hloop
        refine ⟨x', b1, b2, b3, ?_⟩
        rw [hdr, filter_ext_cons]
        try dsimp only at b4
        rw [b4]
        generalize runY (yD L) ((List.range (p.Box.getD k 0).toNat).flatMap fun (i : Nat) => (ext (p.Box.drop (k + 1)) (x.take k ++ [(i : Int)])).filter (sat p)) s = R
        by_cases hg : R.2 = Jp.go
        · simp only [hg, if_true, bindE, Jp.isGo]
        · simp only [if_neg hg, bindE, isGo_false hg, id]


theorem allB_ok (fu : Nat) {p : SPoints} (hw : wrongP p = 0) (hf : 6000 < fu) : F.points_All_1_4 fu p [] = some (pts p) := by
  have g := good_of hw
  have h4 := g.len
  obtain ⟨s1, s2⟩ := start g
  obtain ⟨x', b1, b2, b3, b4⟩ := walkB_ok g fu 0 _ [] (Nat.zero_le _) s1 s2 (by omega) (by show ([] : List (List Int)).length + (pts p).length ≤ 4096; have := pts_le g; simp only [List.length_nil]; omega)
  simp only [List.take_zero, List.drop_zero] at b4
  have b5 : F.points_walk_4 fu p 0 (List.replicate (Int.toNat (List.length p.Box : Int)) (0 : Int)) [] = _ := b4
  have cl := chk_pos (p := List.length (List.replicate (Int.toNat (List.length p.Box : Int)) (0 : Int)) = List.length x') (by omega)
  unfold F.points_All_1_4
  rw [wrong_ok fu p (by omega), hw, Option.bind_some]
  simp only [beq_self_eq_true, cond_true, mk_chk g, Option.bind_some, b5, cl]
  rw [runB]
  rfl
theorem allD_ok (fu : Nat) {p : SPoints} (hw : wrongP p = 0) (hf : 6000 < fu) : ∃ b n, F.points_All_1_6 fu p true false 0 (pts p) = some (true, b, n) := by
  have g := good_of hw
  have h4 := g.len
  obtain ⟨s1, s2⟩ := start g
  obtain ⟨x', b1, b2, b3, b4⟩ := walkD_ok g (pts p) fu 0 _ (true, false, 0) (Nat.zero_le _) s1 s2 (by omega) ⟨pts_le g, Int.le_refl _, by show (0 : Int) ≤ 2048; omega⟩
  simp only [List.take_zero, List.drop_zero] at b4
  have b5 : F.points_walk_7 fu p 0 (List.replicate (Int.toNat (List.length p.Box : Int)) (0 : Int)) true false 0 (pts p) = _ := b4
  have cl := chk_pos (p := List.length (List.replicate (Int.toNat (List.length p.Box : Int)) (0 : Int)) = List.length x') (by omega)
  unfold F.points_All_1_6
  rw [wrong_ok fu p (by omega), hw, Option.bind_some]
  simp only [beq_self_eq_true, cond_true, mk_chk g, Option.bind_some, b5, cl]
  have h9 := runD (pts p) (pts p) 0 rfl
  have h10 : (runY (yD (pts p)) (List.filter (sat p) (ext p.Box [])) (true, false, 0)).1.1 = true := h9
  rw [h10]
  exact ⟨_, _, rfl⟩
theorem sameLists_ok (fu : Nat) {p : SPoints} (g : Good p) (hf : 6000 < fu) : F.adjointlaw9_sameLists fu (pts p) (pts p) = some true := by
  have h4 := g.len
  have hle := pts_le g
  have e : ((List.length (pts p) : Int) != (List.length (pts p) : Int)) = false := by simp
  have h := loop_list (body := F.adjointlaw9_sameLists_l1 fu (pts p) (pts p)) (pts p) (fun (_ : Unit) i => i) (fun _ _ => some (.inl ())) (fun _ => Ex.brk ())
    (fun z k x hx => by
      have hw := wrap_succ (get_lt hx) (by omega)
      have hl := pts_len g (List.mem_of_getElem? hx)
      simp only [F.adjointlaw9_sameLists_l1, dec_lt hx, cond_true, idx_nat hx, Option.bind_some, hw, sameList_ok fu x x (by omega) (by omega), decide_true, Bool.not_true, cond_false]
      rfl)
    (fun z => by simp only [F.adjointlaw9_sameLists_l1, dec_end, cond_false]) fu (by omega) ()
  have key : ∀ l : List (List Int), foldE (fun (_ : Unit) (_ : List Int) => (some (.inl ()) : Option (Unit ⊕ Ex Unit Bool))) (fun _ => Ex.brk ()) () l = some (Ex.brk ()) := by
    intro l
    induction l with
    | nil => rfl
    | cons x l ih => simpa [foldE] using ih
  rw [key] at h
  simp only [F.adjointlaw9_sameLists, e, cond_false, h, bindE]
theorem pointsAllLaw (x0 : SPoints) (k0 : okSPoints x0) : ∃ fu, F.adjointlaw9_PointsAll fu x0 = some true := by
  have hb : big = 68719476760 := rfl
  refine ⟨big, ?_⟩
  unfold F.adjointlaw9_PointsAll F.plain_Points
  simp only [F.points_All, Option.bind_some]
  rw [refWrong_ok big x0 (by omega)]
  by_cases hw : wrongP x0 = 0
  · obtain ⟨b, n, h1⟩ := allD_ok big hw (by omega)
    have e : ((0 : Int) != 0) = false := rfl
    simp only [allB_ok big hw (by omega), Option.bind_some, h1, hw, e, cond_false, cond_true, refAll_ok big (good_of hw) (by omega), sameLists_ok big (good_of hw) (by omega)]
  · have e : (wrongP x0 != 0) = true := by simpa using hw
    have e2 : (wrongP x0 == 0) = false := by simpa using hw
    have h1 : F.points_All_1_4 big x0 [] = some [] := by
      unfold F.points_All_1_4
      rw [wrong_ok big x0 (by omega), Option.bind_some, e2, cond_false]
    have h2 : F.points_All_1_6 big x0 true false 0 [] = some (true, false, 0) := by
      unfold F.points_All_1_6
      rw [wrong_ok big x0 (by omega), Option.bind_some, e2, cond_false]
    simp only [h1, h2, Option.bind_some, e, cond_true]
    rfl
end Go.Proofs.Ytllnemgkfdgljaa
