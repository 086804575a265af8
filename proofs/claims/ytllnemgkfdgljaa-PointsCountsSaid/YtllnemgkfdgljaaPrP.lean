/-
  Points: the plain law: the walks (printed by wip/tools/points_walks.py).
-/
import Derived.Test.YtllnemgkfdgljaaPqP
set_option linter.unusedSectionVars false
set_option linter.unusedSimpArgs false
namespace Go.Proofs.Ytllnemgkfdgljaa
open Go.AM
set_option linter.unusedVariables false

theorem runY_one {σ : Type} (y : List Int → σ → σ × Jp) (x : List Int) (s : σ) : runY y [x] s = y x s := by
  simp only [runY]
  split
  · rename_i h
    rw [← h]
  · rfl
theorem chk_true {h : Decidable True} : @chk True h = some () := chk_pos trivial
theorem isGo_false {j : Jp} (h : j ≠ .go) : Jp.isGo j = false := by cases j <;> first | exact absurd rfl h | rfl
theorem getD_take (l : List Int) (k : Nat) : (l.take (k + 1)).getD k 0 = l.getD k 0 := by
  rw [List.getD_eq_getElem?_getD, List.getD_eq_getElem?_getD, List.getElem?_take_of_lt (Nat.lt_succ_self k)]

def yN : List Int → Int × List Int × Int → (Int × List Int × Int) × Jp := fun a s => if s.1 = 0 then ((s.1, a, 0), .rt) else ((IntKind.i64.wrap (s.1 - 1), s.2.1, s.2.2), .go)
theorem walkN_y (fu : Nat) (x : List Int) (s : Int × List Int × Int) : F.points_Nth_y1 fu x s.1 s.2.1 s.2.2 = some ((yN x s).1.1, (yN x s).1.2.1, (yN x s).1.2.2, (yN x s).2) := by
  unfold F.points_Nth_y1 yN
  by_cases h : s.1 = 0
  · simp [h]
  · have h2 : (s.1 == 0) = false := by simpa using h
    simp only [h, h2, cond_false, if_false]
theorem equal_ok (fu : Nat) (a b : List Int) (h63 : a.length ≤ 9223372036854775807) (hf : a.length < fu) : F.slices_Equal fu a b = some (decide (a = b)) := by
  by_cases hl : a.length = b.length
  · have h1 := equal_loop a b hl h63 fu hf
    have h3 : loopF (F.slices_Equal_l1 fu a b) fu 0 = some (if a = b then Ex.brk () else Ex.ret false) := h1
    simp only [F.slices_Equal, hl, bne_self_eq_false, cond_false, h3]
    by_cases h : a = b <;> simp [h, bindE]
  · have h1 : ((a.length : Int) != (b.length : Int)) = true := by simp; omega
    have h2 : a ≠ b := fun e => hl (by rw [e])
    simp only [F.slices_Equal, h1, cond_true, h2, decide_false]
theorem sameList_ok (fu : Nat) (a b : List Int) (h63 : a.length ≤ 9223372036854775807) (hf : a.length < fu) : F.adjointref2_SameList fu a b = some (decide (a = b)) := equal_ok fu a b h63 hf
def yA (q : List Int) : List Int → Int → Int × Jp := fun a s => if q = a then (s, .ex) else (IntKind.i64.wrap (s + 1), .go)
theorem walkA_y (fu : Nat) (q x : List Int) (s : Int) (h63 : q.length ≤ 4) (hf : 10 < fu) : F.points_Ahead_y1 fu x q s = some ((yA q x s).1, (yA q x s).2) := by
  unfold F.points_Ahead_y1 yA
  rw [equal_ok fu q x (by omega) (by omega)]
  by_cases h : q = x <;> simp [h]
def yC : List Int → Int → Int × Jp := fun _ s => (IntKind.i64.wrap (s + 1), .go)
theorem walkC_y (fu : Nat) (x : List Int) (s : Int) : F.points_Count_y1 fu x s = some (yC x s).1 := rfl


theorem walkN_ok {p : SPoints} (g : Good p) : ∀ (fu k : Nat) (x : List Int) (s : Int × List Int × Int), k ≤ p.Box.length → x.length = p.Box.length → Ran x → 5000 + (p.Box.length - k) < fu →
    ∃ x' : List Int, x'.length = p.Box.length ∧ Ran x' ∧ x'.take k = x.take k ∧ F.points_walk fu p (k : Int) x s.1 s.2.1 s.2.2 = some (Jp.isGo (runY yN ((ext (p.Box.drop k) (x.take k)).filter (sat p)) s).2, x', (runY yN ((ext (p.Box.drop k) (x.take k)).filter (sat p)) s).2, (runY yN ((ext (p.Box.drop k) (x.take k)).filter (sat p)) s).1.1, (runY yN ((ext (p.Box.drop k) (x.take k)).filter (sat p)) s).1.2.1, (runY yN ((ext (p.Box.drop k) (x.take k)).filter (sat p)) s).1.2.2) := by
  have h4 := g.len
  intro fu
  induction fu with
  | zero => intro k x s _ _ _ h; omega
  | succ fu ih =>
    intro k x s hk hl hr hf
    show ∃ x' : List Int, x'.length = p.Box.length ∧ Ran x' ∧ x'.take k = x.take k ∧ F.points_walk_body fu (F.points_walk fu) p (k : Int) x s.1 s.2.1 s.2.2 = _
    unfold F.points_walk_body
    rw [hopeless_ok fu g hr hl k (by omega), Option.bind_some]
    rcases Bool.eq_false_or_eq_true (p.Rows.any fun r => decide (hopV r p x k < 0)) with h | h
    · rw [h, cond_true, hop_none g hr hl hk h]
      exact ⟨x, hl, hr, rfl, rfl⟩
    · rw [h, cond_false]
      by_cases hkl : k = p.Box.length
      · subst hkl
        have hs : sat p x = true := by
          have := hop_leaf g hl
          rw [h] at this
          simpa using this.symm
        have e1 : ((p.Box.length : Int) == (p.Box.length : Int)) = true := by simp
        rw [e1, cond_true, clone_ok fu x (by omega), Option.bind_some, walkN_y, Option.bind_some]
        refine ⟨x, hl, hr, rfl, ?_⟩
        rw [List.drop_length, List.take_of_length_le (Nat.le_of_eq hl)]
        simp only [ext, List.filter_cons, hs, if_true, List.filter_nil, runY_one]
        all_goals rfl
      · have hkl : k < p.Box.length := by omega
        have e1 : ((k : Int) == (p.Box.length : Int)) = false := by simp; omega
        have hbx := g.box _ (getD_mem hkl)
        have htk : (x.take k).length = k := by rw [List.length_take]; omega
        have ek : IntKind.i64.wrap ((k : Int) + 1) = ((k + 1 : Nat) : Int) := by rw [i64 (by omega) (by omega)]; omega
        rw [e1, cond_false, idx_nat (getD_of (l := x) (i := k) (by omega)), Option.bind_some, Int.toNat_natCast]
        have hloop := walk_loop (body := F.points_walk_l1 fu (F.points_walk fu) (k : Int) p) (fun x s => (x, Jp.go, s.1, s.2.1, s.2.2)) (fun x s => Ex.brk (x, Jp.go, s.1, s.2.1, s.2.2)) (fun x s j => Ex.ret (false, x, j, s.1, s.2.1, s.2.2)) yN p.Box.length (p.Box.getD k 0).toNat k
          (fun i => (ext (p.Box.drop (k + 1)) (x.take k ++ [(i : Int)])).filter (sat p)) (x.take k) hkl (by omega)
          (fun i y s hi hyl hyr hyt hyi => by
            obtain ⟨x1, a1, a2, a3, a4⟩ := ih (k + 1) y s (by omega) hyl hyr (by omega)
            have ht : y.take (k + 1) = x.take k ++ [(i : Int)] := by
              rw [List.take_add_one, hyt, getD_of (l := y) (i := k) (by omega), hyi]; rfl
            have h1k : x1.getD k 0 = (i : Int) := by
              rw [← getD_take x1, a3, getD_take, hyi]
            refine ⟨x1, a1, a2, ?_, ?_⟩
            · have : x1.take k = (x1.take (k + 1)).take k := by rw [List.take_take, Nat.min_eq_left (by omega)]
              rw [this, a3, ht, List.take_append_of_le_length (by omega), List.take_of_length_le (by omega)]
            · rw [ht] at a4
              try dsimp only
              generalize runY yN ((ext (p.Box.drop (k + 1)) (x.take k ++ [(i : Int)])).filter (sat p)) s = R at a4 ⊢
              have hd : decide ((i : Int) < p.Box.getD k 0) = true := by simp only [decide_eq_true_eq]; omega
              have hw : IntKind.i64.wrap ((i : Int) + 1) = ((i + 1 : Nat) : Int) := by rw [i64 (by omega) (by omega)]; omega
              have cl := chk_pos (p := List.length y = List.length x1) (by omega)
              simp only [F.points_walk_l1, idx_nat (getD_of (l := y) (i := k) (by omega)), hyi, idx_nat (getD_of (l := p.Box) (i := k) hkl), Option.bind_some, hd, cond_true, chk_true, ek, a4, cl]
              by_cases hg : R.2 = Jp.go
              · simp only [hg, Jp.isGo, Bool.not_true, cond_false, idx_nat (getD_of (l := x1) (i := k) (by omega)), h1k, Option.bind_some, if_true, hw, Int.toNat_natCast]
              · simp only [isGo_false hg, Bool.not_false, cond_true, if_neg hg])
          (fun y s hyl hyi => by
            have hd : decide (((p.Box.getD k 0).toNat : Int) < p.Box.getD k 0) = false := by simp only [decide_eq_false_iff_not]; omega
            simp only [F.points_walk_l1, idx_nat (getD_of (l := y) (i := k) (by omega)), hyi, idx_nat (getD_of (l := p.Box) (i := k) hkl), Option.bind_some, hd, cond_false])
          fu (x.set k 0) s (by rw [List.length_set]; exact hl) (fun z hz => by
            rcases List.mem_or_eq_of_mem_set hz with h | h
            · exact hr z h
            · subst h; omega)
          (by rw [List.take_set, List.set_eq_of_length_le (by omega)])
          (by rw [List.getD_eq_getElem?_getD, List.getElem?_set_self (by omega)]; rfl) (by omega)
        obtain ⟨x', b1, b2, b3, b4⟩ := hloop
        refine ⟨x', b1, b2, b3, ?_⟩
        have hdr : p.Box.drop k = p.Box.getD k 0 :: p.Box.drop (k + 1) := by
          rw [List.drop_eq_getElem_cons hkl, List.getD_eq_getElem?_getD, List.getElem?_eq_getElem hkl]; rfl
        rw [hdr, filter_ext_cons]
        try dsimp only at b4
        rw [b4]
        generalize runY yN ((List.range (p.Box.getD k 0).toNat).flatMap fun (i : Nat) => (ext (p.Box.drop (k + 1)) (x.take k ++ [(i : Int)])).filter (sat p)) s = R
        by_cases hg : R.2 = Jp.go
        · simp only [hg, if_true, bindE, Jp.isGo]
        · simp only [if_neg hg, bindE, isGo_false hg, id]


theorem walkA_ok {p : SPoints} (g : Good p) (q : List Int) (hq : q.length ≤ 4) : ∀ (fu k : Nat) (x : List Int) (s : Int), k ≤ p.Box.length → x.length = p.Box.length → Ran x → 5000 + (p.Box.length - k) < fu →
    ∃ x' : List Int, x'.length = p.Box.length ∧ Ran x' ∧ x'.take k = x.take k ∧ F.points_walk_2 fu p (k : Int) x q s = some (Jp.isGo (runY (yA q) ((ext (p.Box.drop k) (x.take k)).filter (sat p)) s).2, x', (runY (yA q) ((ext (p.Box.drop k) (x.take k)).filter (sat p)) s).2, (runY (yA q) ((ext (p.Box.drop k) (x.take k)).filter (sat p)) s).1) := by
  have h4 := g.len
  intro fu
  induction fu with
  | zero => intro k x s _ _ _ h; omega
  | succ fu ih =>
    intro k x s hk hl hr hf
    show ∃ x' : List Int, x'.length = p.Box.length ∧ Ran x' ∧ x'.take k = x.take k ∧ F.points_walk_2_body fu (F.points_walk_2 fu) p (k : Int) x q s = _
    unfold F.points_walk_2_body
    rw [hopeless_ok fu g hr hl k (by omega), Option.bind_some]
    rcases Bool.eq_false_or_eq_true (p.Rows.any fun r => decide (hopV r p x k < 0)) with h | h
    · rw [h, cond_true, hop_none g hr hl hk h]
      exact ⟨x, hl, hr, rfl, rfl⟩
    · rw [h, cond_false]
      by_cases hkl : k = p.Box.length
      · subst hkl
        have hs : sat p x = true := by
          have := hop_leaf g hl
          rw [h] at this
          simpa using this.symm
        have e1 : ((p.Box.length : Int) == (p.Box.length : Int)) = true := by simp
        rw [e1, cond_true, clone_ok fu x (by omega), Option.bind_some, walkA_y fu q x s hq (by omega), Option.bind_some]
        refine ⟨x, hl, hr, rfl, ?_⟩
        rw [List.drop_length, List.take_of_length_le (Nat.le_of_eq hl)]
        simp only [ext, List.filter_cons, hs, if_true, List.filter_nil, runY_one]
        all_goals rfl
      · have hkl : k < p.Box.length := by omega
        have e1 : ((k : Int) == (p.Box.length : Int)) = false := by simp; omega
        have hbx := g.box _ (getD_mem hkl)
        have htk : (x.take k).length = k := by rw [List.length_take]; omega
        have ek : IntKind.i64.wrap ((k : Int) + 1) = ((k + 1 : Nat) : Int) := by rw [i64 (by omega) (by omega)]; omega
        rw [e1, cond_false, idx_nat (getD_of (l := x) (i := k) (by omega)), Option.bind_some, Int.toNat_natCast]
        have hloop := walk_loop (body := F.points_walk_2_l1 fu (F.points_walk_2 fu) (k : Int) p q) (fun x s => (x, Jp.go, s)) (fun x s => Ex.brk (x, Jp.go, s)) (fun x s j => Ex.ret (false, x, j, s)) (yA q) p.Box.length (p.Box.getD k 0).toNat k
          (fun i => (ext (p.Box.drop (k + 1)) (x.take k ++ [(i : Int)])).filter (sat p)) (x.take k) hkl (by omega)
          (fun i y s hi hyl hyr hyt hyi => by
            obtain ⟨x1, a1, a2, a3, a4⟩ := ih (k + 1) y s (by omega) hyl hyr (by omega)
            have ht : y.take (k + 1) = x.take k ++ [(i : Int)] := by
              rw [List.take_add_one, hyt, getD_of (l := y) (i := k) (by omega), hyi]; rfl
            have h1k : x1.getD k 0 = (i : Int) := by
              rw [← getD_take x1, a3, getD_take, hyi]
            refine ⟨x1, a1, a2, ?_, ?_⟩
            · have : x1.take k = (x1.take (k + 1)).take k := by rw [List.take_take, Nat.min_eq_left (by omega)]
              rw [this, a3, ht, List.take_append_of_le_length (by omega), List.take_of_length_le (by omega)]
            · rw [ht] at a4
              try dsimp only
              generalize runY (yA q) ((ext (p.Box.drop (k + 1)) (x.take k ++ [(i : Int)])).filter (sat p)) s = R at a4 ⊢
              have hd : decide ((i : Int) < p.Box.getD k 0) = true := by simp only [decide_eq_true_eq]; omega
              have hw : IntKind.i64.wrap ((i : Int) + 1) = ((i + 1 : Nat) : Int) := by rw [i64 (by omega) (by omega)]; omega
              have cl := chk_pos (p := List.length y = List.length x1) (by omega)
              simp only [F.points_walk_2_l1, idx_nat (getD_of (l := y) (i := k) (by omega)), hyi, idx_nat (getD_of (l := p.Box) (i := k) hkl), Option.bind_some, hd, cond_true, chk_true, ek, a4, cl]
              by_cases hg : R.2 = Jp.go
              · simp only [hg, Jp.isGo, Bool.not_true, cond_false, idx_nat (getD_of (l := x1) (i := k) (by omega)), h1k, Option.bind_some, if_true, hw, Int.toNat_natCast]
              · simp only [isGo_false hg, Bool.not_false, cond_true, if_neg hg])
          (fun y s hyl hyi => by
            have hd : decide (((p.Box.getD k 0).toNat : Int) < p.Box.getD k 0) = false := by simp only [decide_eq_false_iff_not]; omega
            simp only [F.points_walk_2_l1, idx_nat (getD_of (l := y) (i := k) (by omega)), hyi, idx_nat (getD_of (l := p.Box) (i := k) hkl), Option.bind_some, hd, cond_false])
          fu (x.set k 0) s (by rw [List.length_set]; exact hl) (fun z hz => by
            rcases List.mem_or_eq_of_mem_set hz with h | h
            · exact hr z h
            · subst h; omega)
          (by rw [List.take_set, List.set_eq_of_length_le (by omega)])
          (by rw [List.getD_eq_getElem?_getD, List.getElem?_set_self (by omega)]; rfl) (by omega)
        obtain ⟨x', b1, b2, b3, b4⟩ := hloop
        refine ⟨x', b1, b2, b3, ?_⟩
        have hdr : p.Box.drop k = p.Box.getD k 0 :: p.Box.drop (k + 1) := by
          rw [List.drop_eq_getElem_cons hkl, List.getD_eq_getElem?_getD, List.getElem?_eq_getElem hkl]; rfl
        rw [hdr, filter_ext_cons]
        try dsimp only at b4
        rw [b4]
        generalize runY (yA q) ((List.range (p.Box.getD k 0).toNat).flatMap fun (i : Nat) => (ext (p.Box.drop (k + 1)) (x.take k ++ [(i : Int)])).filter (sat p)) s = R
        by_cases hg : R.2 = Jp.go
        · simp only [hg, if_true, bindE, Jp.isGo]
        · simp only [if_neg hg, bindE, isGo_false hg, id]


theorem walkC_ok {p : SPoints} (g : Good p) : ∀ (fu k : Nat) (x : List Int) (s : Int), k ≤ p.Box.length → x.length = p.Box.length → Ran x → 5000 + (p.Box.length - k) < fu →
    ∃ x' : List Int, x'.length = p.Box.length ∧ Ran x' ∧ x'.take k = x.take k ∧ F.points_walk_3 fu p (k : Int) x s = some (Jp.isGo (runY yC ((ext (p.Box.drop k) (x.take k)).filter (sat p)) s).2, x', (runY yC ((ext (p.Box.drop k) (x.take k)).filter (sat p)) s).1) := by
  have h4 := g.len
  intro fu
  induction fu with
  | zero => intro k x s _ _ _ h; omega
  | succ fu ih =>
    intro k x s hk hl hr hf
    show ∃ x' : List Int, x'.length = p.Box.length ∧ Ran x' ∧ x'.take k = x.take k ∧ F.points_walk_3_body fu (F.points_walk_3 fu) p (k : Int) x s = _
    unfold F.points_walk_3_body
    rw [hopeless_ok fu g hr hl k (by omega), Option.bind_some]
    rcases Bool.eq_false_or_eq_true (p.Rows.any fun r => decide (hopV r p x k < 0)) with h | h
    · rw [h, cond_true, hop_none g hr hl hk h]
      exact ⟨x, hl, hr, rfl, rfl⟩
    · rw [h, cond_false]
      by_cases hkl : k = p.Box.length
      · subst hkl
        have hs : sat p x = true := by
          have := hop_leaf g hl
          rw [h] at this
          simpa using this.symm
        have e1 : ((p.Box.length : Int) == (p.Box.length : Int)) = true := by simp
        rw [e1, cond_true, clone_ok fu x (by omega), Option.bind_some, walkC_y, Option.bind_some]
        refine ⟨x, hl, hr, rfl, ?_⟩
        rw [List.drop_length, List.take_of_length_le (Nat.le_of_eq hl)]
        simp only [ext, List.filter_cons, hs, if_true, List.filter_nil, runY_one]
        all_goals rfl
      · have hkl : k < p.Box.length := by omega
        have e1 : ((k : Int) == (p.Box.length : Int)) = false := by simp; omega
        have hbx := g.box _ (getD_mem hkl)
        have htk : (x.take k).length = k := by rw [List.length_take]; omega
        have ek : IntKind.i64.wrap ((k : Int) + 1) = ((k + 1 : Nat) : Int) := by rw [i64 (by omega) (by omega)]; omega
        rw [e1, cond_false, idx_nat (getD_of (l := x) (i := k) (by omega)), Option.bind_some, Int.toNat_natCast]
        have hloop := walk_loop (body := F.points_walk_3_l1 fu (F.points_walk_3 fu) (k : Int) p) (fun x s => (x, s)) (fun x s => Ex.brk (x, s)) (fun x s j => Ex.ret (false, x, s)) yC p.Box.length (p.Box.getD k 0).toNat k
          (fun i => (ext (p.Box.drop (k + 1)) (x.take k ++ [(i : Int)])).filter (sat p)) (x.take k) hkl (by omega)
          (fun i y s hi hyl hyr hyt hyi => by
            obtain ⟨x1, a1, a2, a3, a4⟩ := ih (k + 1) y s (by omega) hyl hyr (by omega)
            have ht : y.take (k + 1) = x.take k ++ [(i : Int)] := by
              rw [List.take_add_one, hyt, getD_of (l := y) (i := k) (by omega), hyi]; rfl
            have h1k : x1.getD k 0 = (i : Int) := by
              rw [← getD_take x1, a3, getD_take, hyi]
            refine ⟨x1, a1, a2, ?_, ?_⟩
            · have : x1.take k = (x1.take (k + 1)).take k := by rw [List.take_take, Nat.min_eq_left (by omega)]
              rw [this, a3, ht, List.take_append_of_le_length (by omega), List.take_of_length_le (by omega)]
            · rw [ht] at a4
              try dsimp only
              generalize runY yC ((ext (p.Box.drop (k + 1)) (x.take k ++ [(i : Int)])).filter (sat p)) s = R at a4 ⊢
              have hd : decide ((i : Int) < p.Box.getD k 0) = true := by simp only [decide_eq_true_eq]; omega
              have hw : IntKind.i64.wrap ((i : Int) + 1) = ((i + 1 : Nat) : Int) := by rw [i64 (by omega) (by omega)]; omega
              have cl := chk_pos (p := List.length y = List.length x1) (by omega)
              simp only [F.points_walk_3_l1, idx_nat (getD_of (l := y) (i := k) (by omega)), hyi, idx_nat (getD_of (l := p.Box) (i := k) hkl), Option.bind_some, hd, cond_true, ek, a4, cl]
              by_cases hg : R.2 = Jp.go
              · simp only [hg, Jp.isGo, Bool.not_true, cond_false, idx_nat (getD_of (l := x1) (i := k) (by omega)), h1k, Option.bind_some, if_true, hw, Int.toNat_natCast]
              · simp only [isGo_false hg, Bool.not_false, cond_true, if_neg hg])
          (fun y s hyl hyi => by
            have hd : decide (((p.Box.getD k 0).toNat : Int) < p.Box.getD k 0) = false := by simp only [decide_eq_false_iff_not]; omega
            simp only [F.points_walk_3_l1, idx_nat (getD_of (l := y) (i := k) (by omega)), hyi, idx_nat (getD_of (l := p.Box) (i := k) hkl), Option.bind_some, hd, cond_false])
          fu (x.set k 0) s (by rw [List.length_set]; exact hl) (fun z hz => by
            rcases List.mem_or_eq_of_mem_set hz with h | h
            · exact hr z h
            · subst h; omega)
          (by rw [List.take_set, List.set_eq_of_length_le (by omega)])
          (by rw [List.getD_eq_getElem?_getD, List.getElem?_set_self (by omega)]; rfl) (by omega)
        obtain ⟨x', b1, b2, b3, b4⟩ := hloop
        refine ⟨x', b1, b2, b3, ?_⟩
        have hdr : p.Box.drop k = p.Box.getD k 0 :: p.Box.drop (k + 1) := by
          rw [List.drop_eq_getElem_cons hkl, List.getD_eq_getElem?_getD, List.getElem?_eq_getElem hkl]; rfl
        rw [hdr, filter_ext_cons]
        try dsimp only at b4
        rw [b4]
        generalize runY yC ((List.range (p.Box.getD k 0).toNat).flatMap fun (i : Nat) => (ext (p.Box.drop (k + 1)) (x.take k ++ [(i : Int)])).filter (sat p)) s = R
        by_cases hg : R.2 = Jp.go
        · simp only [hg, if_true, bindE, Jp.isGo]
        · simp only [if_neg hg, bindE, isGo_false hg, id]

end Go.Proofs.Ytllnemgkfdgljaa
