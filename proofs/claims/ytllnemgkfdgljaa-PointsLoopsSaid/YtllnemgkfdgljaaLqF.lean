/-
  Points: the plain law of PointsLoops: what the loops go through.
-/
import Derived.Test.YtllnemgkfdgljaaLqE
set_option linter.unusedSectionVars false
set_option linter.unusedSimpArgs false
set_option linter.unusedVariables false
namespace Go.DN
open Go.AM
def mxL : List Int → Int
 | [] => 0
 | a :: l => l.foldl (fun m n => if n > m then n else m) a
def mnL : List Int → Int
 | [] => 0
 | a :: l => l.foldl (fun m n => if n < m then n else m) a
theorem mxL_snoc (l : List Int) (a : Int) : mxL (l ++ [a]) = if l = [] then a else if a > mxL l then a else mxL l := by
 cases l with
 | nil => rfl
 | cons b l => simp [mxL, List.foldl_append]
theorem mnL_snoc (l : List Int) (a : Int) : mnL (l ++ [a]) = if l = [] then a else if a < mnL l then a else mnL l := by
 cases l with
 | nil => rfl
 | cons b l =>
  rw [if_neg (by simp)]
  show List.foldl _ b (l ++ [a]) = _
  rw [List.foldl_append]
  rfl
theorem fold_mx {n : Int} : ∀ (l : List Int) (a : Int), l.foldl (fun m n => if n > m then n else m) a ≤ n ↔ a ≤ n ∧ ∀ v ∈ l, v ≤ n
  | [], a => by simp
  | b :: l, a => by
    rw [List.foldl_cons, fold_mx l]
    simp only [List.mem_cons, forall_eq_or_imp]
    split
    · constructor
      · intro h; exact ⟨by omega, h.1, h.2⟩
      · intro h; exact ⟨h.2.1, h.2.2⟩
    · constructor
      · intro h; exact ⟨h.1, by omega, h.2⟩
      · intro h; exact ⟨h.1, h.2.2⟩
theorem fold_mn {n : Int} : ∀ (l : List Int) (a : Int), n ≤ l.foldl (fun m n => if n < m then n else m) a ↔ n ≤ a ∧ ∀ v ∈ l, n ≤ v
  | [], a => by simp
  | b :: l, a => by
    rw [List.foldl_cons, fold_mn l]
    simp only [List.mem_cons, forall_eq_or_imp]
    split
    · constructor
      · intro h; exact ⟨by omega, h.1, h.2⟩
      · intro h; exact ⟨h.2.1, h.2.2⟩
    · constructor
      · intro h; exact ⟨h.1, by omega, h.2⟩
      · intro h; exact ⟨h.1, h.2.2⟩
theorem mxL_le {l : List Int} (h : l ≠ []) {n : Int} : mxL l ≤ n ↔ ∀ v ∈ l, v ≤ n := by
 cases l with
 | nil => exact absurd rfl h
 | cons a l => simp only [mxL, fold_mx, List.mem_cons, forall_eq_or_imp]
theorem le_mnL {l : List Int} (h : l ≠ []) {n : Int} : n ≤ mnL l ↔ ∀ v ∈ l, n ≤ v := by
 cases l with
 | nil => exact absurd rfl h
 | cons a l => simp only [mnL, fold_mn, List.mem_cons, forall_eq_or_imp]
structure OkB (k : Nat) (b : SBound) : Prop where
 div1 : 1 ≤ b.Div
 div2 : b.Div ≤ 1048576
 len : b.Row.Coef.length = k
 cst : -1048576 ≤ b.Row.Const ∧ b.Row.Const ≤ 1048576
 cf : ∀ c ∈ b.Row.Coef, -1048576 ≤ c ∧ c ≤ 1048576
theorem OkB.good {k : Nat} {b : SBound} (h : OkB k b) (hk : k ≤ 4) : Good ⟨List.replicate k 0, [b.Row]⟩ where
 len := by simpa using hk
 box := fun x hx => by rw [List.eq_of_mem_replicate hx]; omega
 prod := by
  have : ∀ (m : Nat) (n : Int), n ≤ 4096 → prodL n (List.replicate m 0) ≤ 4096 := by
   intro m
   induction m with
   | zero => intro n hn; simpa [prodL] using hn
   | succ m ih => intro n hn; rw [List.replicate_succ]; exact ih _ (by omega)
  exact this k 1 (by omega)
 rows := by simp
 row := fun r hr => by
  simp at hr
  subst hr
  exact ⟨by rw [h.len, List.length_replicate], h.cst, h.cf⟩
theorem OkB.rowW {k : Nat} {b : SBound} (h : OkB k b) : rowW b.Row k = 0 := by
 unfold DN.rowW
 have h1 : badC b.Row.Const = false := by have := h.cst; simp [badC]; omega
 have h2 : b.Row.Coef.any badC = false := by
  rw [List.any_eq_false]
  intro c hc
  have := h.cf c hc
  simp [badC]; omega
 rw [if_neg (by rw [h.len]; simp), h1, h2]
 rfl
theorem bounds_ok {p : SPoints} (g : Good p) (i : Nat) {k : Nat} (hk : k < p.Box.length) : ∀ b ∈ (loopAt p i k).Lows ++ (loopAt p i k).Highs, OkB k b := by
  intro b hb
  have hbk := g.box _ (getD_mem hk)
  have hrow : ∀ r ∈ p.Rows.take i, r.Coef.length = p.Box.length ∧ (-1048576 ≤ r.Const ∧ r.Const ≤ 1048576) ∧ ∀ c ∈ r.Coef, -1048576 ≤ c ∧ c ≤ 1048576 := fun r hr => g.row r (List.mem_of_mem_take hr)
  rcases List.mem_append.1 hb with h | h
  · rcases List.mem_cons.1 h with rfl | h
    · exact ⟨Int.le_refl 1, (by show (1 : Int) ≤ 1048576; omega), by simp [low0], by simp [low0], fun c hc => by rw [List.eq_of_mem_replicate hc]; omega⟩
    · obtain ⟨r, hr, e⟩ := List.mem_filterMap.1 h
      obtain ⟨r1, r2, r3⟩ := hrow r hr
      unfold lowB at e
      split at e
      · rename_i hc
        cases e
        have := r3 _ (getD_mem (l := r.Coef) (i := k) (by omega))
        refine ⟨by dsimp only; omega, by dsimp only; omega, by simp; omega, by dsimp only; omega, fun c hc => ?_⟩
        obtain ⟨y, hy, rfl⟩ := List.mem_map.1 hc
        have := r3 y (List.mem_of_mem_take hy)
        omega
      · cases e
  · rcases List.mem_cons.1 h with rfl | h
    · exact ⟨Int.le_refl 1, (by show (1 : Int) ≤ 1048576; omega), by simp [high0], by simp only [high0]; omega, fun c hc => by rw [List.eq_of_mem_replicate hc]; omega⟩
    · obtain ⟨r, hr, e⟩ := List.mem_filterMap.1 h
      obtain ⟨r1, r2, r3⟩ := hrow r hr
      unfold highB at e
      split at e
      · rename_i hc
        cases e
        have := r3 _ (getD_mem (l := r.Coef) (i := k) (by omega))
        exact ⟨by dsimp only; omega, by dsimp only; omega, by simp; omega, by dsimp only; omega, fun c hc => r3 c (List.mem_of_mem_take hc)⟩
      · split at e
        · rename_i hc
          cases e
          exact ⟨by decide, by decide, by simp; omega, by decide, fun c hc => by cases hc⟩
        · cases e
theorem right_ok (fu : Nat) {p : SPoints} (g : Good p) (i : Nat) {k : Nat} (hk : k < p.Box.length) (hf : 100 < fu) : F.adjointref9_Right fu (loopAt p i k) (k : Int) = some true := by
 have h4 := g.len
 obtain ⟨l1, l2⟩ := loopAt_len p g.rows i k
 have hb := bounds_ok g i hk
 have e : (([] : List SBound) ++ (loopAt p i k).Lows) ++ (loopAt p i k).Highs = (loopAt p i k).Lows ++ (loopAt p i k).Highs := by simp
 have hl := PL.loop_acc (body := F.adjointref9_Right_l1 fu (loopAt p i k) k) ((loopAt p i k).Lows ++ (loopAt p i k).Highs) (fun j => (j : Int)) (Ex.brk () : Ex Unit Bool)
  (fun j b hj => by
   have hjl := get_lt hj
   rw [List.length_append] at hjl
   have hw := wrap_succ (get_lt hj) (by rw [List.length_append]; omega)
   have ok := hb b (List.mem_of_getElem? hj)
   have d1 : decide (b.Div < 1) = false := PL.dec_false (by have := ok.div1; omega)
   have d2 : decide (b.Div > 1048576) = false := PL.dec_false (by have := ok.div2; omega)
   have hr := refRow_ok fu b.Row k (by omega) (by omega)
   rw [ok.rowW] at hr
   have b0 : ((0 : Int) != 0) = false := rfl
   simp only [F.adjointref9_Right_l1, e, dec_lt hj, cond_true, idx_nat hj, Option.bind_some, d1, d2, cond_false, hr, b0, hw])
  (by simp only [F.adjointref9_Right_l1, e, dec_end, cond_false]) fu (by rw [List.length_append]; omega)
 have d1 : decide (((loopAt p i k).Lows.length : Int) > 0) = true := PL.dec_true (by simp only [loopAt, List.length_cons]; omega)
 have d2 : decide (((loopAt p i k).Highs.length : Int) > 0) = true := PL.dec_true (by simp only [loopAt, List.length_cons]; omega)
 unfold F.adjointref9_Right
 rw [chk_pos (by simp only [List.length_nil, maxLen]; omega), Option.bind_some, chk_pos (by simp only [List.nil_append, maxLen]; omega), Option.bind_some]
 have hl : loopF (F.adjointref9_Right_l1 fu (loopAt p i k) k) fu 0 = some (Ex.brk ()) := hl
 simp only [hl, bindE, d1, d2, cond_true, Option.bind_some]
def lev (r : SRow) : Nat := (lastI r.Coef).toNat
def okF (p : SPoints) (k : Nat) (q : List Int) : Bool := p.Rows.all fun r => decide (lev r < k) || decide (0 ≤ atV r q)
theorem low0_V {k : Nat} {x : List Int} (hx : x.length = k) : lowV x (low0 k) = 0 := by
 unfold lowV low0
 rw [atV_dot (by simp [hx]), dot_zeros _ _ fun y hy => List.eq_of_mem_replicate hy]
 rfl
theorem high0_V {k : Nat} {x : List Int} (hx : x.length = k) (b : Int) : highV x (high0 k b) = b - 1 := by
 unfold highV high0
 rw [atV_dot (by simp [hx]), dot_zeros _ _ fun y hy => List.eq_of_mem_replicate hy]
 simp
theorem in_range {p : SPoints} (g : Good p) {k : Nat} {x t : List Int} {n : Int} (hx : x.length = k) (hlen : (x ++ n :: t).length = p.Box.length) :
    (mxL ((loopAt p p.Rows.length k).Lows.map (lowV x)) ≤ n ∧ n ≤ mnL ((loopAt p p.Rows.length k).Highs.map (highV x))) ↔ (0 ≤ n ∧ n ≤ p.Box.getD k 0 - 1 ∧ ∀ r ∈ p.Rows, lev r = k → 0 ≤ atV r (x ++ n :: t)) := by
  rw [mxL_le (by simp [loopAt]), le_mnL (by simp [loopAt])]
  have eL : (loopAt p p.Rows.length k).Lows = low0 k :: p.Rows.filterMap (lowB k) := by unfold loopAt; rw [List.take_length]
  have eH : (loopAt p p.Rows.length k).Highs = high0 k (p.Box.getD k 0) :: p.Rows.filterMap (highB k) := by unfold loopAt; rw [List.take_length]
  rw [eL, eH]
  simp only [List.map_cons, List.mem_cons, forall_eq_or_imp, low0_V hx, high0_V hx]
  have hrl : ∀ r ∈ p.Rows, r.Coef.length = (x ++ n :: t).length := fun r hr => by rw [hlen]; exact (g.row r hr).1
  constructor
  · rintro ⟨⟨h0, h1⟩, h2, h3⟩
    refine ⟨h0, h2, fun r hr hl => ?_⟩
    have low : ∀ b, lowB k r = some b → 0 ≤ atV r (x ++ n :: t) := fun b hb => (low_iff hb hx (hrl r hr)).1 (h1 _ (List.mem_map_of_mem (List.mem_filterMap.2 ⟨r, hr, hb⟩)))
    have high : ∀ b, highB k r = some b → 0 ≤ atV r (x ++ n :: t) := fun b hb => (high_iff hb hx (hrl r hr) h0).1 (h3 _ (List.mem_map_of_mem (List.mem_filterMap.2 ⟨r, hr, hb⟩)))
    unfold lev at hl
    rcases lastI_cases r.Coef with ⟨q1, q2⟩ | ⟨k', q1, q2, q3, q4⟩
    · by_cases hc : r.Const < 0
      · exact high _ (by unfold highB; rw [if_neg (by omega), if_pos ⟨q1, by omega, hc⟩])
      · rw [atV_none q1 (hrl r hr)]; omega
    · obtain rfl : k' = k := by omega
      by_cases hc : r.Coef.getD k' 0 < 0
      · exact high _ (by unfold highB; rw [if_pos ⟨q1, hc⟩])
      · exact low _ (by unfold lowB; rw [if_pos ⟨q1, by omega⟩])
  · rintro ⟨h0, h1, h2⟩
    refine ⟨⟨h0, fun v hv => ?_⟩, h1, fun v hv => ?_⟩
    · obtain ⟨b, hb, rfl⟩ := List.mem_map.1 hv
      obtain ⟨r, hr, e⟩ := List.mem_filterMap.1 hb
      refine (low_iff e hx (hrl r hr)).2 (h2 r hr ?_)
      unfold lowB at e
      split at e
      · rename_i h; unfold lev; omega
      · cases e
    · obtain ⟨b, hb, rfl⟩ := List.mem_map.1 hv
      obtain ⟨r, hr, e⟩ := List.mem_filterMap.1 hb
      refine (high_iff e hx (hrl r hr) h0).2 (h2 r hr ?_)
      unfold highB at e
      split at e
      · rename_i h; unfold lev; omega
      · split at e
        · rename_i h; unfold lev; omega
        · cases e
theorem all_congr' {α : Type} {f g : α → Bool} : ∀ {l : List α}, (∀ a ∈ l, f a = g a) → l.all f = l.all g
 | [], _ => rfl
 | a :: l, h => by
  rw [List.all_cons, List.all_cons, h a List.mem_cons_self, all_congr' fun b hb => h b (List.mem_cons_of_mem _ hb)]
theorem flat_congr {α β : Type} {l : List α} {f g : α → List β} (h : ∀ a ∈ l, f a = g a) : l.flatMap f = l.flatMap g := by
 induction l with
 | nil => rfl
 | cons a l ih => rw [List.flatMap_cons, List.flatMap_cons, h a List.mem_cons_self, ih fun b hb => h b (List.mem_cons_of_mem _ hb)]
theorem range_part {β : Type} (H G : Int → List β) (lo hi : Int) (b : Nat) (h0 : 0 ≤ lo) (h1 : hi ≤ (b : Int) - 1) (hin : ∀ n : Nat, lo ≤ n ∧ (n : Int) ≤ hi → H n = G n) (hout : ∀ n : Nat, n < b → ¬ (lo ≤ n ∧ (n : Int) ≤ hi) → H n = []) :
    ((List.range b).flatMap fun (n : Nat) => H n) = (List.range (hi + 1 - lo).toNat).flatMap fun (i : Nat) => G (lo + i) := by
  by_cases h : lo ≤ hi
  · obtain ⟨a, rfl⟩ : ∃ a : Nat, lo = a := ⟨lo.toNat, by omega⟩
    obtain ⟨c, hc⟩ : ∃ c : Nat, (hi + 1 - (a : Int)).toNat = c := ⟨_, rfl⟩
    obtain ⟨d, rfl⟩ : ∃ d, b = a + (c + d) := ⟨b - a - c, by omega⟩
    rw [hc, List.range_add, List.flatMap_append, List.range_add, List.map_append, List.flatMap_append]
    have e1 : ((List.range a).flatMap fun (n : Nat) => H n) = [] := by
      rw [List.flatMap_eq_nil_iff]
      intro n hn
      have := List.mem_range.1 hn
      exact hout n (by omega) (by omega)
    have e2 : (((List.range d).map (c + ·)).map (a + ·)).flatMap (fun (n : Nat) => H n) = [] := by
      rw [List.flatMap_eq_nil_iff]
      intro n hn
      obtain ⟨m, hm, rfl⟩ := List.mem_map.1 hn
      obtain ⟨m', hm', rfl⟩ := List.mem_map.1 hm
      have := List.mem_range.1 hm'
      exact hout _ (by omega) (by omega)
    rw [e1, e2, List.nil_append, List.append_nil, List.flatMap_map]
    refine flat_congr fun i hi' => ?_
    have := List.mem_range.1 hi'
    rw [hin (a + i) (by omega)]
    congr 1
  · rw [show (hi + 1 - lo).toNat = 0 by omega]
    rw [List.range_zero, List.flatMap_nil, List.flatMap_eq_nil_iff]
    intro n hn
    exact hout n (List.mem_range.1 hn) (by omega)
theorem filt_step {p : SPoints} (g : Good p) {k : Nat} (hk : k < p.Box.length) {x : List Int} (hx : x.length = k) :
    (ext (p.Box.drop k) x).filter (okF p k) = (List.range (mnL ((loopAt p p.Rows.length k).Highs.map (highV x)) + 1 - mxL ((loopAt p p.Rows.length k).Lows.map (lowV x))).toNat).flatMap fun (i : Nat) =>
      (ext (p.Box.drop (k + 1)) (x ++ [mxL ((loopAt p p.Rows.length k).Lows.map (lowV x)) + (i : Int)])).filter (okF p (k + 1)) := by
  have hbk := g.box _ (getD_mem hk)
  have hdr : p.Box.drop k = p.Box.getD k 0 :: p.Box.drop (k + 1) := by
    rw [List.drop_eq_getElem_cons hk, List.getD_eq_getElem?_getD, List.getElem?_eq_getElem hk]; rfl
  obtain ⟨B, hB⟩ : ∃ B : Nat, p.Box.getD k 0 = B := ⟨(p.Box.getD k 0).toNat, by omega⟩
  rw [hdr, filter_ext_cons, hB, Int.toNat_natCast]
  have hq : ∀ (n : Nat) (q : List Int), q ∈ ext (p.Box.drop (k + 1)) (x ++ [(n : Int)]) → ∃ t, q = x ++ (n : Int) :: t ∧ (x ++ (n : Int) :: t).length = p.Box.length := by
    intro n q hq
    obtain ⟨t, rfl, ht⟩ := mem_ext.1 hq
    refine ⟨t, by simp, ?_⟩
    have := ht.len
    rw [List.length_drop] at this
    simp only [List.length_append, List.length_cons]
    omega
  have hlo : 0 ≤ mxL ((loopAt p p.Rows.length k).Lows.map (lowV x)) := by
    have := (mxL_le (l := (loopAt p p.Rows.length k).Lows.map (lowV x)) (by simp [loopAt])).1 (Int.le_refl _) (lowV x (low0 k)) (List.mem_map_of_mem (by simp [loopAt]))
    rwa [low0_V hx] at this
  have hhi : mnL ((loopAt p p.Rows.length k).Highs.map (highV x)) ≤ (B : Int) - 1 := by
    have := (le_mnL (l := (loopAt p p.Rows.length k).Highs.map (highV x)) (by simp [loopAt])).1 (Int.le_refl _) (highV x (high0 k (p.Box.getD k 0))) (List.mem_map_of_mem (by simp [loopAt]))
    rwa [high0_V hx, hB] at this
  refine range_part (fun n => (ext (p.Box.drop (k + 1)) (x ++ [n])).filter (okF p k)) (fun n => (ext (p.Box.drop (k + 1)) (x ++ [n])).filter (okF p (k + 1))) _ _ B hlo hhi (fun n hn => ?_) (fun n hnB hn => ?_)
  · refine List.filter_congr fun q hqm => ?_
    obtain ⟨t, rfl, hlen⟩ := hq n q hqm
    obtain ⟨_, _, h3⟩ := (in_range g hx hlen).1 hn
    refine all_congr' fun r hr => ?_
    by_cases hl : lev r = k
    · rw [PL.dec_true (h3 r hr hl), Bool.or_true, Bool.or_true]
    · congr 1
      by_cases h : lev r < k
      · rw [PL.dec_true h, PL.dec_true (by omega)]
      · rw [PL.dec_false h, PL.dec_false (by omega)]
  · rw [List.filter_eq_nil_iff]
    intro q hqm hok
    obtain ⟨t, rfl, hlen⟩ := hq n q hqm
    refine hn ((in_range g hx hlen).2 ⟨by omega, by rw [hB]; omega, fun r hr hl => ?_⟩)
    have := List.all_eq_true.1 hok r hr
    rw [PL.dec_false (show ¬ lev r < k by omega), Bool.false_or, decide_eq_true_eq] at this
    exact this
end Go.DN
