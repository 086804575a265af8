/-
  Points: the plain law: Nth, Ahead, Count; the laws of their orders.
-/
import Derived.Test.YtllnemgkfdgljaaPrP
set_option linter.unusedSectionVars false
set_option linter.unusedSimpArgs false
set_option linter.unusedVariables false
namespace Go.Proofs.Ytllnemgkfdgljaa
open Go.AM
set_option linter.unusedVariables false

theorem idxOf_cons (x y : List Int) (l : List (List Int)) : (y :: l).idxOf x = if y = x then 0 else l.idxOf x + 1 := by
  rw [List.idxOf_cons]
  by_cases h : y = x
  · have : (y == x) = true := by simpa using h
    rw [this, cond_true, if_pos h]
  · have : (y == x) = false := by simpa using h
    rw [this, cond_false, if_neg h]
theorem idxOf_of {x : List Int} : ∀ {l : List (List Int)} {k : Nat}, l[k]? = some x → x ∉ l.take k → l.idxOf x = k
  | [], _, h, _ => by simp at h
  | y :: l, 0, h, _ => by
    rw [idxOf_cons, if_pos (by simpa using h)]
  | y :: l, k + 1, h, hn => by
    rw [List.take_succ_cons, List.mem_cons, not_or] at hn
    rw [idxOf_cons, if_neg (Ne.symm hn.1), idxOf_of (by simpa using h) hn.2]
theorem idxOf_get {x : List Int} : ∀ {l : List (List Int)}, x ∈ l → l[l.idxOf x]? = some x
  | [], h => by cases h
  | y :: l, h => by
    rw [idxOf_cons]
    by_cases e : y = x
    · rw [if_pos e]; simpa using e
    · rw [if_neg e]
      rcases List.mem_cons.1 h with h | h
      · exact absurd h.symm e
      · simpa using idxOf_get h
theorem not_take {x : List Int} : ∀ {l : List (List Int)} {k : Nat}, l.Nodup → l[k]? = some x → x ∉ l.take k
  | [], _, _, h => by simp at h
  | y :: l, 0, _, _ => by simp
  | y :: l, k + 1, hn, h => by
    rw [List.nodup_cons] at hn
    have h : l[k]? = some x := by simpa using h
    rw [List.take_succ_cons, List.mem_cons, not_or]
    exact ⟨fun e => hn.1 (e ▸ List.mem_of_getElem? h), not_take hn.2 h⟩

theorem pts_nodup (p : SPoints) : (pts p).Nodup := (ext_nodup p.Box []).filter _
theorem pts_le {p : SPoints} (g : Good p) : (pts p).length ≤ 4096 := Nat.le_trans (List.length_filter_le _ _) g.pts_le
theorem pts_len {p : SPoints} (g : Good p) {q : List Int} (h : q ∈ pts p) : q.length = p.Box.length := (mem_ran g (List.mem_filter.1 h).1).2

theorem runN : ∀ (l : List (List Int)) (n : Int), 0 ≤ n → n ≤ 9223372036854775807 → runY yN l (n, [], 0) = match l[n.toNat]? with | some x => ((0, x, 0), Jp.rt) | none => ((n - l.length, [], 0), Jp.go)
  | [], n, _, _ => by simp [runY]
  | a :: l, n, h0, h1 => by
    by_cases h : n = 0
    · subst h
      have e : yN a (0, [], 0) = ((0, a, 0), Jp.rt) := by simp [yN]
      simp only [runY, e]
      rfl
    · have hw : IntKind.i64.wrap (n - 1) = n - 1 := i64 (by omega) (by omega)
      have e : yN a (n, [], 0) = ((n - 1, [], 0), Jp.go) := by simp only [yN, if_neg h, hw]
      simp only [runY, e, if_true]
      rw [runN l (n - 1) (by omega) (by omega)]
      have hn : n.toNat = (n - 1).toNat + 1 := by omega
      rw [hn, List.getElem?_cons_succ]
      cases l[(n - 1).toNat]? with
      | some x => rfl
      | none => simp only [List.length_cons]; congr 2; omega
theorem runA (q : List Int) : ∀ (l : List (List Int)) (c : Int), 0 ≤ c → c + l.length ≤ 4611686018427387904 → runY (yA q) l c = if q ∈ l then (c + l.idxOf q, Jp.ex) else (c + l.length, Jp.go)
  | [], c, _, _ => by simp [runY]
  | a :: l, c, h0, h1 => by
    simp only [List.length_cons] at h1
    rw [idxOf_cons]
    by_cases h : q = a
    · subst h
      have e : yA q q c = (c, Jp.ex) := by simp [yA]
      simp only [runY, e]
      simp
    · have hw : IntKind.i64.wrap (c + 1) = c + 1 := i64 (by omega) (by omega)
      have e : yA q a c = (c + 1, Jp.go) := by simp only [yA, if_neg h, hw]
      simp only [runY, e, if_true]
      rw [runA q l (c + 1) (by omega) (by omega), if_neg (Ne.symm h)]
      by_cases hm : q ∈ l
      · have : q ∈ a :: l := List.mem_cons_of_mem _ hm
        rw [if_pos hm, if_pos this]
        congr 1
        omega
      · have : q ∉ a :: l := by rw [List.mem_cons, not_or]; exact ⟨h, hm⟩
        rw [if_neg hm, if_neg this]
        simp only [List.length_cons]
        congr 1
        omega
theorem runC : ∀ (l : List (List Int)) (c : Int), 0 ≤ c → c + l.length ≤ 4611686018427387904 → runY yC l c = (c + l.length, Jp.go)
  | [], c, _, _ => by simp [runY]
  | a :: l, c, h0, h1 => by
    simp only [List.length_cons] at h1
    have hw : IntKind.i64.wrap (c + 1) = c + 1 := i64 (by omega) (by omega)
    have e : yC a c = (c + 1, Jp.go) := by simp only [yC, hw]
    simp only [runY, e, if_true]
    rw [runC l (c + 1) (by omega) (by omega)]
    simp only [List.length_cons]
    congr 1
    omega

/-! ### What the three answer -/
def nthV (p : SPoints) (n : Int) : List Int × Int := if wrongP p ≠ 0 then ([], wrongP p) else if n < 0 then ([], 9) else match (pts p)[n.toNat]? with
  | some x => (x, 0)
  | none => ([], 9)
def aheadV (p : SPoints) (x : List Int) : Int × Int := if wrongP p ≠ 0 then (0, wrongP p) else if x.length ≠ p.Box.length then (0, 6) else if x ∈ pts p then (((pts p).idxOf x : Nat), 0) else (0, 9)
def countV (p : SPoints) : Int × Int := if wrongP p ≠ 0 then (0, wrongP p) else ((pts p).length, 0)

theorem start {p : SPoints} (g : Good p) : (List.replicate (Int.toNat (List.length p.Box : Int)) (0 : Int)).length = p.Box.length ∧ Ran (List.replicate (Int.toNat (List.length p.Box : Int)) (0 : Int)) := by
  refine ⟨by rw [List.length_replicate]; omega, fun y hy => ?_⟩
  have := (List.mem_replicate.1 hy).2
  omega
theorem mk_chk {p : SPoints} (g : Good p) : chk (0 ≤ (List.length p.Box : Int) ∧ (8 : Int) * (List.length p.Box : Int) ≤ 281474976710656 ∧ (List.length p.Box : Int) ≤ 9223372036854775807) = some () :=
  chk_pos (by have := g.len; omega)
theorem allN_ok (fu : Nat) {p : SPoints} (hw : wrongP p = 0) (s : Int × List Int × Int) (hf : 6000 < fu) : F.points_All_1 fu p s.1 s.2.1 s.2.2 = some ((runY yN (pts p) s).2, (runY yN (pts p) s).1.1, (runY yN (pts p) s).1.2.1, (runY yN (pts p) s).1.2.2) := by
  have g := good_of hw
  have h4 := g.len
  obtain ⟨s1, s2⟩ := start g
  obtain ⟨x', b1, b2, b3, b4⟩ := walkN_ok g fu 0 _ s (Nat.zero_le _) s1 s2 (by omega)
  simp only [List.take_zero, List.drop_zero] at b4
  have b5 : F.points_walk fu p 0 (List.replicate (Int.toNat (List.length p.Box : Int)) (0 : Int)) s.1 s.2.1 s.2.2 = _ := b4
  have cl := chk_pos (p := List.length (List.replicate (Int.toNat (List.length p.Box : Int)) (0 : Int)) = List.length x') (by omega)
  unfold F.points_All_1
  rw [wrong_ok fu p (by omega), hw, Option.bind_some]
  simp only [beq_self_eq_true, cond_true, mk_chk g, Option.bind_some, b5, cl]
  rfl
theorem allA_ok (fu : Nat) {p : SPoints} (hw : wrongP p = 0) (q : List Int) (hq : q.length = p.Box.length) (s : Int) (hf : 6000 < fu) : F.points_All_1_2 fu p q s = some ((runY (yA q) (pts p) s).2, (runY (yA q) (pts p) s).1) := by
  have g := good_of hw
  have h4 := g.len
  obtain ⟨s1, s2⟩ := start g
  obtain ⟨x', b1, b2, b3, b4⟩ := walkA_ok g q (by omega) fu 0 _ s (Nat.zero_le _) s1 s2 (by omega)
  simp only [List.take_zero, List.drop_zero] at b4
  have b5 : F.points_walk_2 fu p 0 (List.replicate (Int.toNat (List.length p.Box : Int)) (0 : Int)) q s = _ := b4
  have cl := chk_pos (p := List.length (List.replicate (Int.toNat (List.length p.Box : Int)) (0 : Int)) = List.length x') (by omega)
  unfold F.points_All_1_2
  rw [wrong_ok fu p (by omega), hw, Option.bind_some]
  simp only [beq_self_eq_true, cond_true, mk_chk g, Option.bind_some, b5, cl]
  rfl
theorem allC_ok (fu : Nat) {p : SPoints} (hw : wrongP p = 0) (s : Int) (hf : 6000 < fu) : F.points_All_1_3 fu p s = some (runY yC (pts p) s).1 := by
  have g := good_of hw
  have h4 := g.len
  obtain ⟨s1, s2⟩ := start g
  obtain ⟨x', b1, b2, b3, b4⟩ := walkC_ok g fu 0 _ s (Nat.zero_le _) s1 s2 (by omega)
  simp only [List.take_zero, List.drop_zero] at b4
  have b5 : F.points_walk_3 fu p 0 (List.replicate (Int.toNat (List.length p.Box : Int)) (0 : Int)) s = _ := b4
  have cl := chk_pos (p := List.length (List.replicate (Int.toNat (List.length p.Box : Int)) (0 : Int)) = List.length x') (by omega)
  unfold F.points_All_1_3
  rw [wrong_ok fu p (by omega), hw, Option.bind_some]
  simp only [beq_self_eq_true, cond_true, mk_chk g, Option.bind_some, b5, cl]
  rfl

theorem nth_ok (fu : Nat) (p : SPoints) (n : Int) (hn : okI n) (hf : 6000 < fu) : F.points_Nth fu p n = some (nthV p n) := by
  unfold F.points_Nth nthV
  rw [wrong_ok fu p (by omega), Option.bind_some]
  by_cases hw : wrongP p = 0
  · have e : (wrongP p != 0) = false := by simpa using hw
    rw [e, cond_false, if_neg (by simpa using hw)]
    by_cases h0 : n < 0
    · simp [h0]
    · have hd : decide (n < 0) = false := by simpa using h0
      rw [hd, cond_false, if_neg h0]
      have h1 := allN_ok fu hw (n, [], 0) hf
      rw [runN (pts p) n (by omega) hn.2] at h1
      simp only [F.points_All, Option.bind_some]
      have h2 : F.points_All_1 fu p n [] 0 = _ := h1
      rw [h2]
      cases (pts p)[n.toNat]? <;> rfl
  · have e : (wrongP p != 0) = true := by simpa using hw
    rw [e, cond_true, if_pos hw]
theorem refNth_ok (fu : Nat) (p : SPoints) (n : Int) (hf : 68719476750 < fu) : F.adjointref9_Nth fu p n = some (nthV p n) := by
  unfold F.adjointref9_Nth nthV
  rw [refWrong_ok fu p (by omega), Option.bind_some]
  by_cases hw : wrongP p = 0
  · have e : (wrongP p != 0) = false := by simpa using hw
    rw [e, cond_false, if_neg (by simpa using hw), refAll_ok fu (good_of hw) hf, Option.bind_some]
    by_cases h0 : n < 0
    · simp [h0]
    · have hd : decide (n < 0) = false := by simpa using h0
      rw [hd, cond_false, if_neg h0, Option.bind_some]
      by_cases h1 : n ≥ ((pts p).length : Int)
      · have hd1 : decide (n ≥ ((pts p).length : Int)) = true := by simpa using h1
        rw [hd1, cond_true, List.getElem?_eq_none (by omega)]
      · have hd1 : decide (n ≥ ((pts p).length : Int)) = false := by simpa using h1
        obtain ⟨x, hx, hx2⟩ := idx_lt (l := pts p) (i := n) (by omega) (by omega)
        rw [hd1, cond_false, hx, hx2]
        rfl
  · have e : (wrongP p != 0) = true := by simpa using hw
    rw [e, cond_true, if_pos hw]
theorem count_ok (fu : Nat) (p : SPoints) (hf : 6000 < fu) : F.points_Count fu p = some (countV p) := by
  unfold F.points_Count countV
  rw [wrong_ok fu p (by omega), Option.bind_some]
  by_cases hw : wrongP p = 0
  · have e : (wrongP p != 0) = false := by simpa using hw
    have h1 := allC_ok fu hw 0 hf
    rw [runC (pts p) 0 (by omega) (by have := pts_le (good_of hw); omega)] at h1
    simp only [F.points_All, Option.bind_some, h1, hw]
    simp
  · have e : (wrongP p != 0) = true := by simpa using hw
    rw [e, cond_true, if_pos hw]

theorem mem_pts {p : SPoints} {x : List Int} : x ∈ pts p ↔ InB p.Box x ∧ sat p x = true := by
  unfold pts
  rw [List.mem_filter, mem_ext]
  constructor
  · rintro ⟨⟨t, h, ht⟩, hs⟩
    have : x = t := h
    subst this
    exact ⟨ht, hs⟩
  · rintro ⟨h, hs⟩
    exact ⟨⟨x, rfl, h⟩, hs⟩
theorem inside_ok (fu : Nat) {p : SPoints} (g : Good p) (x : List Int) (hl : x.length = p.Box.length) (hf : 6000 < fu) : F.points_inside fu p x = some (decide (x ∈ pts p)) := by
  have h4 := g.len
  have h8 := g.rows
  obtain ⟨r, h1, h2⟩ := loopF_inv (body := F.points_inside_l1 fu p x) (fun i : Int => ∃ k : Nat, i = (k : Int) ∧ k ≤ p.Box.length ∧ ∀ j, j < k → 0 ≤ x.getD j 0 ∧ x.getD j 0 < p.Box.getD j 0) (fun i : Int => p.Box.length - i.toNat)
    (fun r => match r with | .brk _ => InB p.Box x | .ret b => b = false ∧ ¬ InB p.Box x) (by
      rintro i ⟨k, rfl, hk, hv⟩
      by_cases h : k < p.Box.length
      · have hd : decide ((k : Int) < (p.Box.length : Int)) = true := by simp; omega
        have hw := wrap_succ h (by omega)
        by_cases hb : 0 ≤ x.getD k 0 ∧ x.getD k 0 < p.Box.getD k 0
        · left
          refine ⟨((k + 1 : Nat) : Int), ?_, ⟨k + 1, rfl, by omega, fun j hj => ?_⟩, by omega⟩
          · have d1 : decide (x.getD k 0 < 0) = false := by simp only [decide_eq_false_iff_not]; omega
            have d2 : decide (x.getD k 0 ≥ p.Box.getD k 0) = false := by simp only [decide_eq_false_iff_not]; omega
            simp only [F.points_inside_l1, hd, cond_true, idx_nat (getD_of (l := p.Box) (i := k) h), idx_nat (getD_of (l := x) (i := k) (by omega)), Option.bind_some, d1, d2, cond_false, hw]
          · by_cases hjk : j < k
            · exact hv j hjk
            · have : j = k := by omega
              subst this; exact hb
        · right
          refine ⟨.ret false, ?_, rfl, fun hI => hb (hI.at k h)⟩
          simp only [F.points_inside_l1, hd, cond_true, idx_nat (getD_of (l := p.Box) (i := k) h), idx_nat (getD_of (l := x) (i := k) (by omega)), Option.bind_some]
          by_cases d1 : x.getD k 0 < 0
          · have e1 : decide (x.getD k 0 < 0) = true := by simpa using d1
            simp only [e1, cond_true, Option.bind_some]
          · have d2 : x.getD k 0 ≥ p.Box.getD k 0 := by omega
            have e1 : decide (x.getD k 0 < 0) = false := by simpa using d1
            have e2 : decide (x.getD k 0 ≥ p.Box.getD k 0) = true := by simpa using d2
            simp only [e1, cond_false, e2, Option.bind_some, cond_true]
      · right
        have : k = p.Box.length := by omega
        subst this
        exact ⟨.brk (), by simp only [F.points_inside_l1, dec_end, cond_false], InB.of hl hv⟩) fu 0 ⟨0, rfl, by omega, fun j hj => by omega⟩ (by simp; omega)
  unfold F.points_inside
  rw [h1]
  cases r with
  | ret b =>
    simp only at h2
    obtain ⟨rfl, h3⟩ := h2
    have : x ∉ pts p := fun h => h3 (mem_pts.1 h).1
    simp [bindE, this]
  | brk _ =>
    simp only at h2
    have hran : Ran x := fun y hy => by
      obtain ⟨i, hi, rfl⟩ := List.getElem_of_mem hy
      have h5 := h2.at i (by rw [← hl]; exact hi)
      have h6 := g.box _ (getD_mem (l := p.Box) (i := i) (by rw [← hl]; exact hi))
      rw [List.getD_eq_getElem?_getD, List.getElem?_eq_getElem hi, Option.getD_some] at h5
      omega
    have hloop := loop_list (body := F.slices_IndexFunc_2_l1 fu p.Rows x) p.Rows (fun (_ : Unit) i => i) (fun _ r => cond (decide (atV r x < 0)) (some (.inr (Ex.ret (0 : Int)))) (some (.inl ()))) (fun _ => Ex.brk ())
    obtain ⟨r, q1, q2⟩ := loopF_inv (body := F.slices_IndexFunc_2_l1 fu p.Rows x) (fun i : Int => ∃ k : Nat, i = (k : Int) ∧ k ≤ p.Rows.length ∧ ∀ r ∈ p.Rows.take k, 0 ≤ atV r x) (fun i : Int => p.Rows.length - i.toNat)
      (fun r => match r with | .brk _ => sat p x = true | .ret i => 0 ≤ i ∧ sat p x = false) (by
        rintro i ⟨k, rfl, hk, hv⟩
        by_cases h : k < p.Rows.length
        · have hx : p.Rows[k]? = some p.Rows[k] := List.getElem?_eq_getElem h
          have hw := wrap_succ h (by omega)
          have hat := at_ok fu g (List.mem_of_getElem? hx) hran hl (by omega)
          by_cases hb : atV p.Rows[k] x < 0
          · right
            have d1 : decide (atV p.Rows[k] x < 0) = true := by simpa using hb
            refine ⟨.ret (k : Int), by simp only [F.slices_IndexFunc_2_l1, dec_lt hx, cond_true, idx_nat hx, Option.bind_some, F.points_inside_1, hat, d1], by omega, ?_⟩
            unfold sat
            rw [List.all_eq_false]
            exact ⟨p.Rows[k], List.mem_of_getElem? hx, by simp only [decide_eq_true_eq]; omega⟩
          · left
            have d1 : decide (atV p.Rows[k] x < 0) = false := by simpa using hb
            refine ⟨((k + 1 : Nat) : Int), by simp only [F.slices_IndexFunc_2_l1, dec_lt hx, cond_true, idx_nat hx, Option.bind_some, F.points_inside_1, hat, d1, cond_false, hw], ⟨k + 1, rfl, by omega, fun r hr => ?_⟩, by omega⟩
            rw [List.take_add_one, hx, List.mem_append] at hr
            rcases hr with hr | hr
            · exact hv r hr
            · simp only [Option.toList_some, List.mem_singleton] at hr
              subst hr; omega
        · right
          have : k = p.Rows.length := by omega
          subst this
          refine ⟨.brk (), by simp only [F.slices_IndexFunc_2_l1, dec_end, cond_false], ?_⟩
          simp only
          unfold sat
          rw [List.all_eq_true]
          intro r hr
          have := hv r (by rw [List.take_length]; exact hr)
          simpa using this) fu 0 ⟨0, rfl, by omega, fun r hr => by simp at hr⟩ (by simp; omega)
    clear hloop
    simp only [bindE, F.slices_ContainsFunc_2, F.slices_IndexFunc_2, q1]
    cases r with
    | brk _ =>
      simp only at q2
      have : x ∈ pts p := mem_pts.2 ⟨h2, q2⟩
      simp [this]
    | ret i =>
      simp only at q2
      have h7 : x ∉ pts p := fun h => by have := (mem_pts.1 h).2; rw [q2.2] at this; cases this
      simp [h7, q2.1]

theorem ahead_ok (fu : Nat) (p : SPoints) (x : List Int) (hf : 6000 < fu) : F.points_Ahead fu p x = some (aheadV p x) := by
  unfold F.points_Ahead aheadV
  rw [wrong_ok fu p (by omega), Option.bind_some]
  by_cases hw : wrongP p = 0
  · have e : (wrongP p != 0) = false := by simpa using hw
    have g := good_of hw
    have hle := pts_le g
    rw [e, cond_false, if_neg (by simpa using hw)]
    by_cases hl : x.length = p.Box.length
    · have e2 : ((x.length : Int) != (p.Box.length : Int)) = false := by rw [hl]; simp
      rw [e2, cond_false, if_neg (by simpa using hl), inside_ok fu g x hl hf, Option.bind_some]
      by_cases hm : x ∈ pts p
      · have h1 := allA_ok fu hw x hl 0 hf
        rw [runA x (pts p) 0 (by omega) (by omega), if_pos hm] at h1
        have c := chk_pos (p := Jp.isRt Jp.ex = false) rfl
        simp only [hm, decide_true, Bool.not_true, cond_false, F.points_All, Option.bind_some, h1, c, if_true, Int.zero_add]
      · simp [hm]
    · have e2 : ((x.length : Int) != (p.Box.length : Int)) = true := by simp; omega
      rw [e2, cond_true, if_pos hl]
  · have e : (wrongP p != 0) = true := by simpa using hw
    rw [e, cond_true, if_pos hw]
theorem same_ok (fu : Nat) (a b : List Int) (hl : a.length = b.length) (h4 : a.length ≤ 4) (hf : 10 < fu) : F.adjointref9_same fu a b = some (decide (a = b)) := by
  have h1 := equal_loop a b hl (by omega) fu (by omega)
  have h3 : loopF (F.adjointref9_same_l1 fu a b) fu 0 = some (if a = b then Ex.brk () else Ex.ret false) := h1
  simp only [F.adjointref9_same, h3]
  by_cases h : a = b <;> simp [h, bindE]
theorem refAhead_ok (fu : Nat) (p : SPoints) (x : List Int) (hf : 68719476750 < fu) : F.adjointref9_Ahead fu p x = some (aheadV p x) := by
  unfold F.adjointref9_Ahead aheadV
  rw [refWrong_ok fu p (by omega), Option.bind_some]
  by_cases hw : wrongP p = 0
  · have e : (wrongP p != 0) = false := by simpa using hw
    have g := good_of hw
    have hle := pts_le g
    have h4 := g.len
    rw [e, cond_false, if_neg (by simpa using hw)]
    by_cases hl : x.length = p.Box.length
    · have e2 : ((x.length : Int) != (p.Box.length : Int)) = false := by rw [hl]; simp
      rw [e2, cond_false, if_neg (by simpa using hl), refAll_ok fu g hf, Option.bind_some]
      obtain ⟨r, q1, q2⟩ := loopF_inv (body := F.adjointref9_Ahead_l1 fu (pts p) x) (fun i : Int => ∃ k : Nat, i = (k : Int) ∧ k ≤ (pts p).length ∧ x ∉ (pts p).take k) (fun i : Int => (pts p).length - i.toNat)
        (fun r => match r with | .brk _ => x ∉ pts p | .ret v => x ∈ pts p ∧ v = ((((pts p).idxOf x : Nat) : Int), (0 : Int))) (by
          rintro i ⟨k, rfl, hk, hv⟩
          by_cases h : k < (pts p).length
          · have hx : (pts p)[k]? = some (pts p)[k] := List.getElem?_eq_getElem h
            have hw := wrap_succ h (by omega)
            have hs := same_ok fu x (pts p)[k] (by rw [hl, pts_len g (List.mem_of_getElem? hx)]) (by omega) (by omega)
            by_cases hb : x = (pts p)[k]
            · right
              refine ⟨.ret ((k : Int), 0), ?_, ?_, ?_⟩
              · simp only [F.adjointref9_Ahead_l1, dec_lt hx, cond_true, idx_nat hx, Option.bind_some, hs]
                rw [show decide (x = (pts p)[k]) = true by simpa using hb]
                rfl
              · rw [hb]; exact List.mem_of_getElem? hx
              · rw [idxOf_of (k := k) (by rw [hx, hb]) hv]
            · left
              refine ⟨((k + 1 : Nat) : Int), ?_, ⟨k + 1, rfl, by omega, fun hm => ?_⟩, by omega⟩
              · simp only [F.adjointref9_Ahead_l1, dec_lt hx, cond_true, idx_nat hx, Option.bind_some, hs, hw]
                rw [show decide (x = (pts p)[k]) = false by simpa using hb]
                rfl
              · rw [List.take_add_one, hx, List.mem_append] at hm
                rcases hm with hm | hm
                · exact hv hm
                · simp only [Option.toList_some, List.mem_singleton] at hm
                  exact hb hm
          · right
            have : k = (pts p).length := by omega
            subst this
            exact ⟨.brk (), by simp only [F.adjointref9_Ahead_l1, dec_end, cond_false], by simpa using hv⟩) fu 0 ⟨0, rfl, by omega, by simp⟩ (by simp; omega)
      rw [q1]
      cases r with
      | brk _ => simp only at q2; simp [bindE, q2]
      | ret v => simp only at q2; obtain ⟨q2, rfl⟩ := q2; rw [if_pos q2]; rfl
    · have e2 : ((x.length : Int) != (p.Box.length : Int)) = true := by simp; omega
      rw [e2, cond_true, if_pos hl]
  · have e : (wrongP p != 0) = true := by simpa using hw
    rw [e, cond_true, if_pos hw]

theorem nthV_len (p : SPoints) (n : Int) : (nthV p n).1.length ≤ 4 := by
  unfold nthV
  split
  · simp
  · rename_i hw
    split
    · simp
    · split
      · rename_i x hx
        have g := good_of (by simpa using hw)
        have := pts_len g (List.mem_of_getElem? hx)
        have := g.len
        simp only; omega
      · simp

def big : Nat := 68719476760
theorem ordersLaw (p : SPoints) (n : Int) (x : List Int) (hn : okI n) : F.adjointlaw9_PointsOrders big p n x = some true := by
  have hb : big = 68719476760 := rfl
  have hl := nthV_len p n
  unfold F.adjointlaw9_PointsOrders
  rw [nth_ok big p n hn (by omega), refNth_ok big p n (by omega), ahead_ok big p x (by omega), refAhead_ok big p x (by omega)]
  simp only [Option.bind_some]
  rw [sameList_ok big _ _ (by omega) (by omega)]
  simp

theorem backLaw (p : SPoints) (n : Int) (x : List Int) (hn : okI n) : F.adjointlaw9_PointsBack big p n x = some true := by
  have hb : big = 68719476760 := rfl
  unfold F.adjointlaw9_PointsBack
  rw [count_ok big p (by omega), Option.bind_some, nth_ok big p n hn (by omega)]
  by_cases hw : wrongP p = 0
  · have g := good_of hw
    have hle := pts_le g
    have h4 := g.len
    have hc : countV p = (((pts p).length : Int), 0) := by unfold countV; rw [if_neg (by simpa using hw)]
    have e0 : ((0 : Int) != 0) = false := rfl
    rw [hc]
    simp only [e0, cond_false, Option.bind_some]
    -- the second half
    have tail : ((F.points_Ahead big p x).bind fun r9 => cond (r9.2 != 0) (some true) ((F.points_Nth big p r9.1).bind fun r11 => (cond (r11.2 == 0) ((F.adjointref2_SameList big r11.1 x).bind fun r13 => some r13) (some false)).bind fun (i14 : Bool) => some i14)) = some true := by
      rw [ahead_ok big p x (by omega), Option.bind_some]
      have ha : aheadV p x = if x.length ≠ p.Box.length then (0, 6) else if x ∈ pts p then ((((pts p).idxOf x : Nat) : Int), 0) else (0, 9) := by unfold aheadV; rw [if_neg (by simpa using hw)]
      rw [ha]
      by_cases hl : x.length = p.Box.length
      · rw [if_neg (by simpa using hl)]
        by_cases hm : x ∈ pts p
        · rw [if_pos hm]
          have hlt := (List.getElem?_eq_some_iff.1 (idxOf_get hm)).1
          have hnv : nthV p (((pts p).idxOf x : Nat) : Int) = (x, 0) := by
            unfold nthV
            rw [if_neg (by simpa using hw), if_neg (by omega), Int.toNat_natCast, idxOf_get hm]
          simp only [e0, cond_false]
          rw [nth_ok big p _ ⟨by omega, by omega⟩ (by omega), hnv]
          simp only [Option.bind_some, beq_self_eq_true, cond_true]
          rw [sameList_ok big _ _ (by omega) (by omega)]
          simp
        · rw [if_neg hm]; rfl
      · rw [if_pos hl]; rfl
    rw [tail]
    by_cases h0 : n < 0
    · have hv : nthV p n = ([], 9) := by unfold nthV; rw [if_neg (by simpa using hw), if_pos h0]
      have hd : decide (n ≥ 0) = false := by simp only [decide_eq_false_iff_not]; omega
      rw [hv]
      simp only [hd, cond_false]
      rfl
    · have hd : decide (n ≥ 0) = true := by simp only [decide_eq_true_eq]; omega
      cases hx : (pts p)[n.toNat]? with
      | none =>
        have hv : nthV p n = ([], 9) := by unfold nthV; rw [if_neg (by simpa using hw), if_neg h0, hx]
        have hge := List.getElem?_eq_none_iff.1 hx
        have hd2 : decide (n < ((pts p).length : Int)) = false := by simp only [decide_eq_false_iff_not]; omega
        rw [hv]
        simp only [hd, hd2, cond_true]
        rfl
      | some q =>
        have hv : nthV p n = (q, 0) := by unfold nthV; rw [if_neg (by simpa using hw), if_neg h0, hx]
        have hlt := (List.getElem?_eq_some_iff.1 hx).1
        have hd2 : decide (n < ((pts p).length : Int)) = true := by simp only [decide_eq_true_eq]; omega
        have hq := List.mem_of_getElem? hx
        have hi := idxOf_of hx (not_take (pts_nodup p) hx)
        have hav : aheadV p q = (n, 0) := by
          unfold aheadV
          rw [if_neg (by simpa using hw), if_neg (by simpa using pts_len g hq), if_pos hq, hi, Int.toNat_of_nonneg (by omega)]
        rw [hv]
        simp only [hd, hd2, cond_true, ahead_ok big p q (by omega), hav]
        have e1 : ((0 : Int) == 0) = true := rfl
        have e2 : (n != n) = false := by simp
        simp only [e1, e0, e2, beq_self_eq_true, Bool.not_true, Option.bind_some, cond_false, cond_true, bindE]
  · have hc : countV p = (0, wrongP p) := by unfold countV; rw [if_pos hw]
    have e : (wrongP p != 0) = true := by simpa using hw
    rw [hc]
    simp only [e, cond_true]

theorem pointsOrdersLaw (x0 : SPoints) (x1 : Int) (x2 : List Int) (k0 : okSPoints x0) (k1 : okI x1) (k2 : okL okI x2) : ∃ fu, F.adjointlaw9_PointsOrders fu x0 x1 x2 = some true := ⟨big, ordersLaw x0 x1 x2 k1⟩
theorem pointsBackLaw (x0 : SPoints) (x1 : Int) (x2 : List Int) (k0 : okSPoints x0) (k1 : okI x1) (k2 : okL okI x2) : ∃ fu, F.adjointlaw9_PointsBack fu x0 x1 x2 = some true := ⟨big, backLaw x0 x1 x2 k1⟩
end Go.Proofs.Ytllnemgkfdgljaa
