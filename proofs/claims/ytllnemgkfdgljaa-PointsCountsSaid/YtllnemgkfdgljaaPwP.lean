/-
  Points: the plain law of PointsCounts: how many, and the corners (the walk printed by wip/tools/points_walks3.py).
-/
import Derived.Test.YtllnemgkfdgljaaPuP
set_option linter.unusedSectionVars false
set_option linter.unusedSimpArgs false
namespace Go.Proofs.Ytllnemgkfdgljaa
open Go.AM
set_option linter.unusedVariables false

def mn (a l : List Int) : List Int := List.zipWith (fun x y => if x < y then x else y) a l
def mx (a l : List Int) : List Int := List.zipWith (fun x y => if x > y then x else y) a l
def mixL (z l : List Int) (k : Nat) : List Int := z.take k ++ l.drop k
theorem mixL_set {z l : List Int} {k : Nat} (h : z.length = l.length) (hk : k < l.length) : (mixL z l k).set k (z[k]'(by omega)) = mixL z l (k + 1) := by
  unfold mixL
  rw [List.set_append, if_neg (by rw [List.length_take]; omega), List.length_take, Nat.min_eq_left (by omega), Nat.sub_self, List.drop_eq_getElem_cons hk, List.set_cons_zero, List.take_add_one, List.getElem?_eq_getElem (by omega), List.append_assoc]
  rfl
theorem mixL_get {z l : List Int} {k : Nat} (h : z.length = l.length) (hk : k < l.length) : (mixL z l k)[k]? = some l[k] := by
  unfold mixL
  rw [List.getElem?_append_right (by rw [List.length_take]; omega), List.length_take, Nat.min_eq_left (by omega), Nat.sub_self, List.getElem?_drop]
  simp
theorem mixL_end {z l : List Int} (h : z.length = l.length) : mixL z l l.length = z := by
  unfold mixL
  rw [List.drop_length, List.append_nil, ← h, List.take_length]
theorem ends_loop (fu : Nat) (a l m : List Int) (h4 : a.length ≤ 4) (h1 : l.length = a.length) (h2 : m.length = a.length) (hf : 10 < fu) : loopF (F.points_Ends_y3_l1 fu a) fu (0, l, m) = some (mn a l, mx a m) := by
  have l1 : (mn a l).length = l.length := by unfold mn; rw [List.length_zipWith]; omega
  have l2 : (mx a m).length = m.length := by unfold mx; rw [List.length_zipWith]; omega
  refine loopF_val (fun s : Int × List Int × List Int => ∃ k : Nat, s = ((k : Int), mixL (mn a l) l k, mixL (mx a m) m k) ∧ k ≤ a.length) (fun s => a.length - s.1.toNat) _ ?_ fu _ ⟨0, by simp [mixL], by omega⟩ (by simp only; omega)
  rintro _ ⟨k, rfl, hk⟩
  by_cases h : k < a.length
  · left
    have ha : a[k]? = some a[k] := List.getElem?_eq_getElem h
    have hw : IntKind.i64.wrap ((k : Int) + 1) = ((k + 1 : Nat) : Int) := wrap_succ h (by omega)
    have g1 := idx_nat (mixL_get l1 (show k < l.length by omega))
    have g2 := idx_nat (mixL_get l2 (show k < m.length by omega))
    refine ⟨(((k + 1 : Nat) : Int), mixL (mn a l) l (k + 1), mixL (mx a m) m (k + 1)), ?_, ⟨k + 1, rfl, by omega⟩, by simp only; omega⟩
    simp only [F.points_Ends_y3_l1, dec_lt ha, cond_true, idx_nat ha, g1, g2, Option.bind_some, hw, Int.toNat_natCast]
    rw [← mixL_set l1 (show k < l.length by omega), ← mixL_set l2 (show k < m.length by omega)]
    simp only [mn, mx, List.getElem_zipWith]
  · right
    have : k = a.length := by omega
    subst this
    have e1 : mixL (mn a l) l a.length = mn a l := by rw [← h1]; exact mixL_end l1
    have e2 : mixL (mx a m) m a.length = mx a m := by rw [← h2]; exact mixL_end l2
    simp only [F.points_Ends_y3_l1, dec_end, cond_false, e1, e2]
theorem set_self (l : List Int) (k : Nat) (x : Int) (h : l[k]? = some x) : l.set k x = l := by
  obtain ⟨h1, rfl⟩ := List.getElem?_eq_some_iff.1 h
  exact List.set_getElem_self h1
theorem refEnds_loop (fu : Nat) (a l m : List Int) (h4 : a.length ≤ 4) (h1 : l.length = a.length) (h2 : m.length = a.length) (hf : 10 < fu) : loopF (F.adjointref9_Ends_l2 fu a) fu (0, l, m) = some (mn a l, mx a m) := by
  have l1 : (mn a l).length = l.length := by unfold mn; rw [List.length_zipWith]; omega
  have l2 : (mx a m).length = m.length := by unfold mx; rw [List.length_zipWith]; omega
  refine loopF_val (fun s : Int × List Int × List Int => ∃ k : Nat, s = ((k : Int), mixL (mn a l) l k, mixL (mx a m) m k) ∧ k ≤ a.length) (fun s => a.length - s.1.toNat) _ ?_ fu _ ⟨0, by simp [mixL], by omega⟩ (by simp only; omega)
  rintro _ ⟨k, rfl, hk⟩
  by_cases h : k < a.length
  · left
    have ha : a[k]? = some a[k] := List.getElem?_eq_getElem h
    have hw : IntKind.i64.wrap ((k : Int) + 1) = ((k + 1 : Nat) : Int) := wrap_succ h (by omega)
    have g1 := mixL_get l1 (show k < l.length by omega)
    have g2 := mixL_get l2 (show k < m.length by omega)
    refine ⟨(((k + 1 : Nat) : Int), mixL (mn a l) l (k + 1), mixL (mx a m) m (k + 1)), ?_, ⟨k + 1, rfl, by omega⟩, by simp only; omega⟩
    have s1 : (cond (decide (a[k] < l[k]'(by omega))) (some (List.set (mixL (mn a l) l k) k a[k])) (some (mixL (mn a l) l k))) = some (mixL (mn a l) l (k + 1)) := by
      rw [← mixL_set l1 (by omega)]
      simp only [mn, List.getElem_zipWith]
      by_cases hlt : a[k] < l[k]'(by omega)
      · simp [hlt]
      · simp only [hlt, decide_false, cond_false, if_false]
        rw [set_self _ _ _ (by simpa [mn] using g1)]
    have s2 : ∀ q : List Int, (cond (decide (a[k] > m[k]'(by omega))) (some (Sum.inl (((k + 1 : Nat) : Int), q, List.set (mixL (mx a m) m k) k a[k]))) (some (Sum.inl (((k + 1 : Nat) : Int), q, mixL (mx a m) m k))) : Option ((Int × List Int × List Int) ⊕ (List Int × List Int))) = some (Sum.inl (((k + 1 : Nat) : Int), q, mixL (mx a m) m (k + 1))) := by
      intro q
      rw [← mixL_set l2 (by omega)]
      simp only [mx, List.getElem_zipWith]
      by_cases hgt : a[k] > m[k]'(by omega)
      · simp [hgt]
      · simp only [hgt, decide_false, cond_false, if_false]
        rw [set_self _ _ _ (by simpa [mx] using g2)]
    simp only [F.adjointref9_Ends_l2, dec_lt ha, cond_true, idx_nat ha, idx_nat g1, idx_nat g2, Option.bind_some, hw, Int.toNat_natCast, s1, s2]
  · right
    have : k = a.length := by omega
    subst this
    have e1 : mixL (mn a l) l a.length = mn a l := by rw [← h1]; exact mixL_end l1
    have e2 : mixL (mx a m) m a.length = mx a m := by rw [← h2]; exact mixL_end l2
    simp only [F.adjointref9_Ends_l2, dec_end, cond_false, e1, e2]

def yE : List Int → List Int × List Int × Bool → (List Int × List Int × Bool) × Jp := fun a s => ((mn a (if s.2.2 = true then s.1 else a), mx a (if s.2.2 = true then s.2.1 else a), true), .go)
theorem walkE_y (fu : Nat) (x : List Int) (s : List Int × List Int × Bool) (h4 : x.length ≤ 4) (h : s.2.2 = true → s.1.length = x.length ∧ s.2.1.length = x.length) (hf : 10 < fu) : F.points_Ends_y3 fu x s.1 s.2.1 s.2.2 = some ((yE x s).1.1, (yE x s).1.2.1, (yE x s).1.2.2) := by
  obtain ⟨a, b, c⟩ := s
  simp only at h
  unfold F.points_Ends_y3 yE
  cases c with
  | true =>
    have h := h rfl
    simp only [Bool.not_true, cond_false, Option.bind_some, ends_loop fu x a b h4 h.1 h.2 hf, if_true]
  | false =>
    simp only [Bool.not_false, cond_true, clone_ok fu x h4, Option.bind_some, ends_loop fu x x x h4 rfl rfl hf]
    rfl
def PE (n : Nat) (s : List Int × List Int × Bool) (l : List (List Int)) : Prop := (s.2.2 = true → s.1.length = n ∧ s.2.1.length = n) ∧ ∀ x ∈ l, x.length = n
theorem PE1 (n : Nat) : ∀ a b s, PE n s (a ++ b) → PE n s a := fun a b s h => ⟨h.1, fun x hx => h.2 x (List.mem_append_left _ hx)⟩
theorem PE2 (n : Nat) : ∀ a b s, PE n s (a ++ b) → (runY yE a s).2 = .go → PE n (runY yE a s).1 b
  | [], _, _, h, _ => h
  | x :: a, b, s, h, _ => by
    have hx := h.2 x (by simp)
    have e : (yE x s).2 = .go := rfl
    simp only [runY, e, if_true]
    refine PE2 n a b _ ⟨fun _ => ?_, fun z hz => h.2 z (by simpa using .inr (by simpa using hz))⟩ ?_
    · simp only [yE, mn, mx, List.length_zipWith]
      split
      · rename_i hc
        have := h.1 hc
        omega
      · omega
    · exact runE_go a _
where runE_go : ∀ (a : List (List Int)) (s : List Int × List Int × Bool), (runY yE a s).2 = .go
  | [], _ => rfl
  | x :: a, s => by
    have e : (yE x s).2 = .go := rfl
    simp only [runY, e, if_true]
    exact runE_go a _
def stepE (s : List Int × List Int) (x : List Int) : List Int × List Int := (mn x s.1, mx x s.2)
theorem runE : ∀ (l : List (List Int)) (a b : List Int), runY yE l (a, b, true) = (((l.foldl stepE (a, b)).1, (l.foldl stepE (a, b)).2, true), .go)
  | [], _, _ => rfl
  | x :: l, a, b => by
    have e : yE x (a, b, true) = ((mn x a, mx x b, true), .go) := rfl
    simp only [runY, e, if_true, List.foldl_cons]
    exact runE l _ _


theorem walkE_ok {p : SPoints} (g : Good p) : ∀ (fu k : Nat) (x : List Int) (s : List Int × List Int × Bool), k ≤ p.Box.length → x.length = p.Box.length → Ran x → 5000 + (p.Box.length - k) < fu → PE p.Box.length s ((ext (p.Box.drop k) (x.take k)).filter (sat p)) →
    ∃ x' : List Int, x'.length = p.Box.length ∧ Ran x' ∧ x'.take k = x.take k ∧ F.points_walk_8 fu p (k : Int) x s.1 s.2.1 s.2.2 = some (Jp.isGo (runY yE ((ext (p.Box.drop k) (x.take k)).filter (sat p)) s).2, x', (runY yE ((ext (p.Box.drop k) (x.take k)).filter (sat p)) s).1.1, (runY yE ((ext (p.Box.drop k) (x.take k)).filter (sat p)) s).1.2.1, (runY yE ((ext (p.Box.drop k) (x.take k)).filter (sat p)) s).1.2.2) := by
  have h4 := g.len
  intro fu
  induction fu with
  | zero => intro k x s _ _ _ h _; omega
  | succ fu ih =>
    intro k x s hk hl hr hf hP
    show ∃ x' : List Int, x'.length = p.Box.length ∧ Ran x' ∧ x'.take k = x.take k ∧ F.points_walk_8_body fu (F.points_walk_8 fu) p (k : Int) x s.1 s.2.1 s.2.2 = _
    unfold F.points_walk_8_body
    rw [hopeless_ok fu g hr hl k (by omega), Option.bind_some]
    rcases Bool.eq_false_or_eq_true (p.Rows.any fun r => decide (hopV r p x k < 0)) with h | h
    · rw [h, cond_true, hop_none g hr hl hk h]
      exact ⟨x, hl, hr, rfl, rfl⟩
    · rw [h, cond_false]
      by_cases hkl : k = p.Box.length
      · subst hkl
        have hs : sat p x = true := by
          have := hop_leaf g hl
          rw [h] at this
          simpa using this.symm
        have e1 : ((p.Box.length : Int) == (p.Box.length : Int)) = true := by simp
        rw [List.drop_length, List.take_of_length_le (Nat.le_of_eq hl)] at hP
        simp only [ext, List.filter_cons, hs, if_true, List.filter_nil] at hP
        rw [e1, cond_true, clone_ok fu x (by omega), Option.bind_some]
        refine ⟨x, hl, hr, rfl, ?_⟩
        rw [List.drop_length, List.take_of_length_le (Nat.le_of_eq hl)]
        simp only [ext, List.filter_cons, hs, if_true, List.filter_nil, runY_one]
        rw [walkE_y fu x s (by omega) (fun hc => by have := hP.1 hc; omega) (by omega), Option.bind_some]
        rfl
      · have hkl : k < p.Box.length := by omega
        have e1 : ((k : Int) == (p.Box.length : Int)) = false := by simp; omega
        have hdr : p.Box.drop k = p.Box.getD k 0 :: p.Box.drop (k + 1) := by
          rw [List.drop_eq_getElem_cons hkl, List.getD_eq_getElem?_getD, List.getElem?_eq_getElem hkl]; rfl
        have hbx := g.box _ (getD_mem hkl)
        have htk : (x.take k).length = k := by rw [List.length_take]; omega
        have ek : IntKind.i64.wrap ((k : Int) + 1) = ((k + 1 : Nat) : Int) := by rw [i64 (by omega) (by omega)]; omega
        rw [e1, cond_false, idx_nat (getD_of (l := x) (i := k) (by omega)), Option.bind_some, Int.toNat_natCast]
        have hloop := walk_loopP (PE p.Box.length) (y := yE) (PE1 p.Box.length) (PE2 p.Box.length) (body := F.points_walk_8_l1 fu (F.points_walk_8 fu) (k : Int) p) (fun x s => (s.1, s.2.1, x, s.2.2)) (fun x s => Ex.brk (s.1, s.2.1, x, s.2.2)) (fun x s j => Ex.ret (false, x, s.1, s.2.1, s.2.2)) p.Box.length (p.Box.getD k 0).toNat k
          (fun i => (ext (p.Box.drop (k + 1)) (x.take k ++ [(i : Int)])).filter (sat p)) (x.take k) hkl (by omega)
          (fun i y s hi hyl hyr hyt hyi hPi => by
            have ht : y.take (k + 1) = x.take k ++ [(i : Int)] := by
              rw [List.take_add_one, hyt, getD_of (l := y) (i := k) (by omega), hyi]; rfl
            obtain ⟨x1, a1, a2, a3, a4⟩ := ih (k + 1) y s (by omega) hyl hyr (by omega) (by rw [ht]; exact hPi)
            have h1k : x1.getD k 0 = (i : Int) := by
              rw [← getD_take x1, a3, getD_take, hyi]
            refine ⟨x1, a1, a2, ?_, ?_⟩
            · have : x1.take k = (x1.take (k + 1)).take k := by rw [List.take_take, Nat.min_eq_left (by omega)]
              rw [this, a3, ht, List.take_append_of_le_length (by omega), List.take_of_length_le (by omega)]
            · rw [ht] at a4
              try dsimp only
              generalize runY yE ((ext (p.Box.drop (k + 1)) (x.take k ++ [(i : Int)])).filter (sat p)) s = R at a4 ⊢
              have hd : decide ((i : Int) < p.Box.getD k 0) = true := by simp only [decide_eq_true_eq]; omega
              have hw : IntKind.i64.wrap ((i : Int) + 1) = ((i + 1 : Nat) : Int) := by rw [i64 (by omega) (by omega)]; omega
              have cl := chk_pos (p := List.length y = List.length x1) (by omega)
              simp only [F.points_walk_8_l1, idx_nat (getD_of (l := y) (i := k) (by omega)), hyi, idx_nat (getD_of (l := p.Box) (i := k) hkl), Option.bind_some, hd, cond_true, ek, a4, cl]
              by_cases hg : R.2 = Jp.go
              · simp only [hg, Jp.isGo, Bool.not_true, cond_false, idx_nat (getD_of (l := x1) (i := k) (by omega)), h1k, Option.bind_some, if_true, hw, Int.toNat_natCast]
              · simp only [isGo_false hg, Bool.not_false, cond_true, if_neg hg])
          (fun y s hyl hyi => by
            have hd : decide (((p.Box.getD k 0).toNat : Int) < p.Box.getD k 0) = false := by simp only [decide_eq_false_iff_not]; omega
            simp only [F.points_walk_8_l1, idx_nat (getD_of (l := y) (i := k) (by omega)), hyi, idx_nat (getD_of (l := p.Box) (i := k) hkl), Option.bind_some, hd, cond_false])
          fu (x.set k 0) s (by rw [List.length_set]; exact hl) (fun z hz => by
            rcases List.mem_or_eq_of_mem_set hz with h | h
            · exact hr z h
            · subst h; omega)
          (by rw [List.take_set, List.set_eq_of_length_le (by omega)])
          (by rw [List.getD_eq_getElem?_getD, List.getElem?_set_self (by omega)]; rfl) (by omega) (by rw [← filter_ext_cons, ← hdr]; exact hP)
        obtain ⟨x', b1, b2, b3, b4⟩ := hloop
        refine ⟨x', b1, b2, b3, ?_⟩
        rw [hdr, filter_ext_cons]
        try dsimp only at b4
        rw [b4]
        generalize runY yE ((List.range (p.Box.getD k 0).toNat).flatMap fun (i : Nat) => (ext (p.Box.drop (k + 1)) (x.take k ++ [(i : Int)])).filter (sat p)) s = R
        by_cases hg : R.2 = Jp.go
        · simp only [hg, if_true, bindE, Jp.isGo]
        · simp only [if_neg hg, bindE, isGo_false hg, id]


def endsV (p : SPoints) : List Int × List Int × Int := if wrongP p ≠ 0 then ([], [], wrongP p) else match pts p with
  | [] => ([], [], 9)
  | x :: r => (((x :: r).foldl stepE (x, x)).1, ((x :: r).foldl stepE (x, x)).2, 0)
theorem allE_ok (fu : Nat) {p : SPoints} (hw : wrongP p = 0) (hf : 6000 < fu) : F.points_All_1_7 fu p [] [] false = some ((runY yE (pts p) ([], [], false)).1) := by
  have g := good_of hw
  have h4 := g.len
  obtain ⟨s1, s2⟩ := start g
  obtain ⟨x', b1, b2, b3, b4⟩ := walkE_ok g fu 0 _ ([], [], false) (Nat.zero_le _) s1 s2 (by omega) ⟨fun h => (by cases h), fun x hx => pts_len g hx⟩
  simp only [List.take_zero, List.drop_zero] at b4
  have b5 : F.points_walk_8 fu p 0 (List.replicate (Int.toNat (List.length p.Box : Int)) (0 : Int)) [] [] false = _ := b4
  have cl := chk_pos (p := List.length (List.replicate (Int.toNat (List.length p.Box : Int)) (0 : Int)) = List.length x') (by omega)
  unfold F.points_All_1_7
  rw [wrong_ok fu p (by omega), hw, Option.bind_some]
  simp only [beq_self_eq_true, cond_true, mk_chk g, Option.bind_some, b5, cl]
  rfl
theorem ends_ok (fu : Nat) (p : SPoints) (hf : 6000 < fu) : F.points_Ends fu p = some (endsV p) := by
  unfold F.points_Ends endsV
  rw [wrong_ok fu p (by omega), Option.bind_some]
  by_cases hw : wrongP p = 0
  · have e : (wrongP p != 0) = false := by simpa using hw
    rw [e, cond_false, if_neg (by simpa using hw)]
    simp only [F.points_All, Option.bind_some]
    rw [allE_ok fu hw hf, Option.bind_some]
    cases hp : pts p with
    | nil => rfl
    | cons x r =>
      have e1 : yE x ([], [], false) = ((mn x x, mx x x, true), .go) := rfl
      have e2 : (yE x ([], [], false)).2 = .go := rfl
      simp only [runY, e1, if_true]
      rw [runE]
      rfl
  · have e : (wrongP p != 0) = true := by simpa using hw
    rw [e, cond_true, if_pos hw]
theorem refEnds_ok (fu : Nat) (p : SPoints) (hf : 68719476750 < fu) : F.adjointref9_Ends fu p = some (endsV p) := by
  unfold F.adjointref9_Ends endsV
  rw [refWrong_ok fu p (by omega), Option.bind_some]
  by_cases hw : wrongP p = 0
  · have e : (wrongP p != 0) = false := by simpa using hw
    have g := good_of hw
    have h4 := g.len
    have hle := pts_le g
    rw [e, cond_false, if_neg (by simpa using hw), refAll_ok fu g hf, Option.bind_some]
    cases hp : pts p with
    | nil => rfl
    | cons x r =>
      have hx : x ∈ pts p := by rw [hp]; exact List.mem_cons_self ..
      have hlx := pts_len g hx
      have c := chk_pos (p := (List.length ([] : (List Int))) + (List.length x) ≤ maxLen ∧ ((List.length ([] : (List Int))) + (List.length x)) * 8 ≤ 140737488355328) (by simp only [List.length_nil, maxLen]; omega)
      have e0 : ((List.length (x :: r) : Int) == 0) = false := by simp; omega
      have ei : idx (x :: r) 0 = some x := rfl
      have hlen : ∀ (l : List (List Int)) (a b : List Int), (∀ z ∈ l, z.length = p.Box.length) → a.length = p.Box.length → b.length = p.Box.length → (l.foldl stepE (a, b)).1.length = p.Box.length ∧ (l.foldl stepE (a, b)).2.length = p.Box.length := by
        intro l
        induction l with
        | nil => intro a b _ h1 h2; exact ⟨h1, h2⟩
        | cons z l ih =>
          intro a b hz h1 h2
          have hzl := hz z (List.mem_cons_self ..)
          refine ih _ _ (fun w hw => hz w (List.mem_cons_of_mem _ hw)) ?_ ?_
          · simp only [mn, List.length_zipWith]; omega
          · simp only [mx, List.length_zipWith]; omega
      have hall : ∀ z ∈ x :: r, z.length = p.Box.length := fun z hz => pts_len g (by rw [hp]; exact hz)
      rw [hp, List.length_cons] at hle
      have hloop := loopF_val (body := F.adjointref9_Ends_l1 fu (x :: r)) (fun s : Int × List Int × List Int => ∃ k : Nat, s = ((k : Int), (((x :: r).take k).foldl stepE (x, x)).1, (((x :: r).take k).foldl stepE (x, x)).2) ∧ k ≤ (x :: r).length) (fun s => (x :: r).length - s.1.toNat)
        (((x :: r).foldl stepE (x, x)).1, ((x :: r).foldl stepE (x, x)).2) (by
          rintro _ ⟨k, rfl, hk⟩
          by_cases h : k < (x :: r).length
          · left
            have hz : (x :: r)[k]? = some (x :: r)[k] := List.getElem?_eq_getElem h
            have hw2 : IntKind.i64.wrap ((k : Int) + 1) = ((k + 1 : Nat) : Int) := wrap_succ h (by simp only [List.length_cons]; omega)
            have hzl := hall _ (List.mem_of_getElem? hz)
            obtain ⟨q1, q2⟩ := hlen ((x :: r).take k) x x (fun z hz => hall z (List.mem_of_mem_take hz)) hlx hlx
            refine ⟨(((k + 1 : Nat) : Int), (((x :: r).take (k + 1)).foldl stepE (x, x)).1, (((x :: r).take (k + 1)).foldl stepE (x, x)).2), ?_, ⟨k + 1, rfl, by omega⟩, by simp only; omega⟩
            have hin := refEnds_loop fu (x :: r)[k] (((x :: r).take k).foldl stepE (x, x)).1 (((x :: r).take k).foldl stepE (x, x)).2 (by omega) (by omega) (by omega) (by omega)
            simp only [F.adjointref9_Ends_l1, dec_lt hz, cond_true, idx_nat hz, Option.bind_some, hw2, hin]
            rw [List.take_add_one, hz]
            simp only [Option.toList_some, List.foldl_append, List.foldl_cons, List.foldl_nil, stepE]
          · right
            have : k = (x :: r).length := by omega
            subst this
            simp only [F.adjointref9_Ends_l1, dec_end, cond_false, List.take_length]) fu (0, x, x) ⟨0, rfl, by omega⟩ (by simp only [List.length_cons]; omega)
      rw [e0, cond_false, ei, Option.bind_some, c, Option.bind_some, List.nil_append, hloop, Option.bind_some]
  · have e : (wrongP p != 0) = true := by simpa using hw
    rw [e, cond_true, if_pos hw]
theorem refCount_ok (fu : Nat) (p : SPoints) (hf : 68719476750 < fu) : F.adjointref9_Count fu p = some (countV p) := by
  unfold F.adjointref9_Count countV
  rw [refWrong_ok fu p (by omega), Option.bind_some]
  by_cases hw : wrongP p = 0
  · have e : (wrongP p != 0) = false := by simpa using hw
    rw [e, cond_false, if_neg (by simpa using hw), refAll_ok fu (good_of hw) hf]
    rfl
  · have e : (wrongP p != 0) = true := by simpa using hw
    rw [e, cond_true, if_pos hw]
theorem endsV_len (p : SPoints) : (endsV p).1.length ≤ 4 ∧ (endsV p).2.1.length ≤ 4 := by
  unfold endsV
  split
  · simp
  · rename_i hw
    have g := good_of (by simpa using hw)
    have h4 := g.len
    cases hp : pts p with
    | nil => simp
    | cons x r =>
      have hlx := pts_len g (show x ∈ pts p by rw [hp]; exact List.mem_cons_self ..)
      have hlen : ∀ (l : List (List Int)) (a b : List Int), a.length ≤ 4 → b.length ≤ 4 → (l.foldl stepE (a, b)).1.length ≤ 4 ∧ (l.foldl stepE (a, b)).2.length ≤ 4 := by
        intro l
        induction l with
        | nil => intro a b h1 h2; exact ⟨h1, h2⟩
        | cons z l ih =>
          intro a b h1 h2
          refine ih _ _ ?_ ?_
          · simp only [mn, List.length_zipWith]; omega
          · simp only [mx, List.length_zipWith]; omega
      exact hlen (x :: r) x x (by omega) (by omega)
theorem pointsCountsLaw (x0 : SPoints) (k0 : okSPoints x0) : ∃ fu, F.adjointlaw9_PointsCounts fu x0 = some true := by
  have hb : big = 68719476760 := rfl
  obtain ⟨q1, q2⟩ := endsV_len x0
  refine ⟨big, ?_⟩
  unfold F.adjointlaw9_PointsCounts
  rw [count_ok big x0 (by omega), refCount_ok big x0 (by omega), wrong_ok big x0 (by omega), refWrong_ok big x0 (by omega), ends_ok big x0 (by omega), refEnds_ok big x0 (by omega)]
  simp only [Option.bind_some, bne_self_eq_false, cond_false]
  rw [sameList_ok big _ _ (by omega) (by omega), sameList_ok big _ _ (by omega) (by omega)]
  simp
end Go.Proofs.Ytllnemgkfdgljaa
