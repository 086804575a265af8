/-
  Points: the plain law of PointsLoops: the loops go through all points, in order.
-/
import Derived.Test.YtllnemgkfdgljaaLqF
set_option linter.unusedSectionVars false
set_option linter.unusedSimpArgs false
set_option linter.unusedVariables false
namespace Go.DN
open Go.AM
theorem ediv_ran {n d M : Int} (hd : 1 ≤ d) (hM : 0 ≤ M) (h : -M ≤ n ∧ n ≤ M) : -M ≤ n / d ∧ n / d ≤ M := by
  constructor
  · refine (Int.le_ediv_iff_mul_le (by omega)).2 ?_
    have := Int.mul_le_mul_of_nonneg_left hd hM
    rw [Int.neg_mul]; omega
  · have : n / d < M + 1 := (Int.ediv_lt_iff_lt_mul (by omega)).2 (by
      have := Int.mul_le_mul_of_nonneg_left hd (show 0 ≤ M + 1 by omega)
      omega)
    omega
theorem atB {k : Nat} {b : SBound} (ok : OkB k b) (hk : k ≤ 4) {x : List Int} (hx : Ran x) (hl : x.length = k) (fu : Nat) (hf : 10 < fu) :
  F.adjointref9_At fu b.Row x = some (atV b.Row x) ∧ -34359738368 ≤ atV b.Row x ∧ atV b.Row x ≤ 34359738368 := by
 have g := ok.good hk
 have hxl : x.length = (⟨List.replicate k 0, [b.Row]⟩ : SPoints).Box.length := by simp [hl]
 refine ⟨refAt_ok fu g (r := b.Row) (by simp) hx hxl hf, ?_⟩
 have h1 := sumT_ran (at_terms g (r := b.Row) (by simp) hx hxl)
 have h2 := ok.cst
 have h3 := ok.len
 unfold atV
 rw [h3] at h1 ⊢
 omega
theorem lo_ok (self : List SLoop → List Int → List Int → Option (List (List Int) × Bool)) (fu : Nat) {k : Nat} (hk : k ≤ 4) {l : SLoop} (hL : l.Lows.length ≤ 9) (hb : ∀ b ∈ l.Lows, OkB k b) {x : List Int} (hx : Ran x) (hl : x.length = k) (hf : 100 < fu) :
    loopF (F.adjointref9_Run_l1 self fu x l) fu (0, 0) = some (mxL (l.Lows.map (lowV x))) := by
  have := PL.loop_acc (body := F.adjointref9_Run_l1 self fu x l) l.Lows (fun j => (mxL ((l.Lows.take j).map (lowV x)), (j : Int))) (mxL (l.Lows.map (lowV x)))
    (fun j b hj => by
      have hjl := get_lt hj
      have hw := wrap_succ hjl (by omega)
      have ok := hb b (List.mem_of_getElem? hj)
      obtain ⟨a1, a2, a3⟩ := atB ok hk hx hl fu (by omega)
      have w1 : IntKind.i64.wrap (0 - atV b.Row x) = -atV b.Row x := by rw [i64 (by omega) (by omega)]; omega
      have hd := down_ok fu (-atV b.Row x) b.Div ok.div1 (by omega)
      have hq := ediv_ran (n := -atV b.Row x) (M := 34359738368) ok.div1 (by omega) (by omega)
      have w2 : IntKind.i64.wrap (0 - (-atV b.Row x) / b.Div) = lowV x b := by rw [i64 (by omega) (by omega)]; unfold lowV; omega
      have ht : (l.Lows.take (j + 1)).map (lowV x) = (l.Lows.take j).map (lowV x) ++ [lowV x b] := by rw [List.take_add_one, hj]; simp
      have hm := mxL_snoc ((l.Lows.take j).map (lowV x)) (lowV x b)
      rw [ht, hm]
      simp only [F.adjointref9_Run_l1, dec_lt hj, cond_true, idx_nat hj, Option.bind_some, a1, w1, hd, w2, hw]
      by_cases h0 : j = 0
      · subst h0
        have b0 : (((0 : Nat) : Int) == 0) = true := rfl
        simp only [b0, cond_true, Option.bind_some, List.take_zero, List.map_nil, if_true]
      · have b0 : ((j : Int) == 0) = false := by simp; omega
        have hne : (l.Lows.take j).map (lowV x) ≠ [] := by
          intro e
          have := congrArg List.length e
          rw [List.length_map, List.length_take, List.length_nil] at this
          omega
        rw [if_neg hne]
        simp only [b0, cond_false, Option.bind_some]
        by_cases h : lowV x b > mxL ((l.Lows.take j).map (lowV x))
        · simp only [PL.dec_true h, cond_true, Option.bind_some, if_pos h]
        · simp only [PL.dec_false h, cond_false, Option.bind_some, if_neg h])
    (by simp only [F.adjointref9_Run_l1, dec_end, cond_false, List.take_length]) fu (by omega)
  exact this
theorem hi_ok (self : List SLoop → List Int → List Int → Option (List (List Int) × Bool)) (fu : Nat) {k : Nat} (hk : k ≤ 4) {l : SLoop} (hL : l.Highs.length ≤ 9) (hb : ∀ b ∈ l.Highs, OkB k b) {x : List Int} (hx : Ran x) (hl : x.length = k) (hf : 100 < fu) :
    loopF (F.adjointref9_Run_l2 self fu x l) fu (0, 0) = some (mnL (l.Highs.map (highV x))) := by
  have := PL.loop_acc (body := F.adjointref9_Run_l2 self fu x l) l.Highs (fun j => (mnL ((l.Highs.take j).map (highV x)), (j : Int))) (mnL (l.Highs.map (highV x)))
    (fun j b hj => by
      have hjl := get_lt hj
      have hw := wrap_succ hjl (by omega)
      have ok := hb b (List.mem_of_getElem? hj)
      obtain ⟨a1, a2, a3⟩ := atB ok hk hx hl fu (by omega)
      have hd := down_ok fu (atV b.Row x) b.Div ok.div1 (by omega)
      have ht : (l.Highs.take (j + 1)).map (highV x) = (l.Highs.take j).map (highV x) ++ [highV x b] := by rw [List.take_add_one, hj]; simp
      have hm := mnL_snoc ((l.Highs.take j).map (highV x)) (highV x b)
      have hv : atV b.Row x / b.Div = highV x b := rfl
      rw [ht, hm]
      simp only [F.adjointref9_Run_l2, dec_lt hj, cond_true, idx_nat hj, Option.bind_some, a1, hd, hv, hw]
      by_cases h0 : j = 0
      · subst h0
        have b0 : (((0 : Nat) : Int) == 0) = true := rfl
        simp only [b0, cond_true, Option.bind_some, List.take_zero, List.map_nil, if_true]
      · have b0 : ((j : Int) == 0) = false := by simp; omega
        have hne : (l.Highs.take j).map (highV x) ≠ [] := by
          intro e
          have := congrArg List.length e
          rw [List.length_map, List.length_take, List.length_nil] at this
          omega
        rw [if_neg hne]
        simp only [b0, cond_false, Option.bind_some]
        by_cases h : highV x b < mnL ((l.Highs.take j).map (highV x))
        · simp only [PL.dec_true h, cond_true, Option.bind_some, if_pos h]
        · simp only [PL.dec_false h, cond_false, Option.bind_some, if_neg h])
    (by simp only [F.adjointref9_Run_l2, dec_end, cond_false, List.take_length]) fu (by omega)
  exact this
theorem run_ok {p : SPoints} (g : Good p) (h0 : 0 < p.Box.length) : ∀ (m fu k : Nat) (x : List Int), k + m = p.Box.length → x.length = k → Ran x → len0 (p.Box.drop k) ≤ 4096 → 5000 + m < fu →
  F.adjointref9_Run fu (loopsAt p p.Rows.length) p.Box x = some ((ext (p.Box.drop k) x).filter (okF p k), true)
 | 0, fu, k, x, hk, hx, hr, hlen, hf => by
  obtain ⟨fu, rfl⟩ : ∃ f, fu = f + 1 := ⟨fu - 1, by omega⟩
  show F.adjointref9_Run_b (F.adjointref9_Run fu) (fu + 1) _ _ _ = _
  have b : ((x.length : Int) == ((loopsAt p p.Rows.length).length : Int)) = true := by rw [loopsAt_len]; simp; omega
  have hd : p.Box.drop k = [] := List.drop_eq_nil_of_le (by omega)
  have hok : okF p k x = true := by
   refine List.all_eq_true.2 fun r hr => ?_
   have h1 := lastI_lt r.Coef
   have h2 := (g.row r hr).1
   have : lev r < k := by unfold lev; omega
   rw [PL.dec_true this, Bool.true_or]
  unfold F.adjointref9_Run_b
  rw [b, cond_true, hd]
  simp [ext, hok]
 | m + 1, fu, k, x, hk, hx, hr, hlen, hf => by
  obtain ⟨fu, rfl⟩ : ∃ f, fu = f + 1 := ⟨fu - 1, by omega⟩
  show F.adjointref9_Run_b (F.adjointref9_Run fu) (fu + 1) _ _ _ = _
  have h4 := g.len
  have hkl : k < p.Box.length := by omega
  have hbk := g.box _ (getD_mem hkl)
  have b : ((x.length : Int) == ((loopsAt p p.Rows.length).length : Int)) = false := by rw [loopsAt_len]; simp; omega
  have hg := loopsAt_get p p.Rows.length hkl
  have hid : idx (loopsAt p p.Rows.length) (x.length : Int) = some (loopAt p p.Rows.length k) := by rw [hx]; exact idx_nat hg
  have hib : idx p.Box (x.length : Int) = some (p.Box.getD k 0) := by rw [hx]; exact idx_nat (getD_of hkl)
  obtain ⟨hL1, hL2⟩ := loopAt_len p g.rows p.Rows.length k
  have hbs := bounds_ok g p.Rows.length hkl
  have hlo := lo_ok (F.adjointref9_Run fu) (fu + 1) (k := k) (by omega) hL1 (fun b hb => hbs b (List.mem_append_left _ hb)) hr hx (by omega)
  have hhi := hi_ok (F.adjointref9_Run fu) (fu + 1) (k := k) (by omega) hL2 (fun b hb => hbs b (List.mem_append_right _ hb)) hr hx (by omega)
  have hstep := filt_step g hkl hx
  have q1 : 0 ≤ mxL ((loopAt p p.Rows.length k).Lows.map (lowV x)) := by
   have := (mxL_le (l := (loopAt p p.Rows.length k).Lows.map (lowV x)) (by simp [loopAt])).1 (Int.le_refl _) (lowV x (low0 k)) (List.mem_map_of_mem (by simp [loopAt]))
   rwa [low0_V hx] at this
  have q2 : mnL ((loopAt p p.Rows.length k).Highs.map (highV x)) ≤ p.Box.getD k 0 - 1 := by
   have := (le_mnL (l := (loopAt p p.Rows.length k).Highs.map (highV x)) (by simp [loopAt])).1 (Int.le_refl _) (highV x (high0 k (p.Box.getD k 0))) (List.mem_map_of_mem (by simp [loopAt]))
   rwa [high0_V hx] at this
  unfold F.adjointref9_Run_b
  rw [b, cond_false, hid, Option.bind_some, hlo, Option.bind_some, hhi, Option.bind_some]
  rw [hstep]
  have hM : ((ext (p.Box.drop k) x).filter (okF p k)).length ≤ 4096 := Nat.le_trans (List.length_filter_le _ _) (by rw [ext_len]; exact hlen)
  rw [hstep] at hM
  generalize mxL ((loopAt p p.Rows.length k).Lows.map (lowV x)) = lo at *
  generalize mnL ((loopAt p p.Rows.length k).Highs.map (highV x)) = hi at *
  have d0 : decide (lo < 0) = false := PL.dec_false (by omega)
  have d1 : decide (hi ≥ p.Box.getD k 0) = false := PL.dec_false (by omega)
  have hguard : (cond (decide (lo ≤ hi)) (cond (decide (lo < 0)) (some true) ((idx p.Box (x.length : Int)).bind fun x21 => some (decide (hi ≥ x21)))) (some false)) = some false := by
   rw [d0, hib, Option.bind_some, d1]
   cases decide (lo ≤ hi) <;> rfl
  rw [hguard, Option.bind_some, cond_false]
  have hloop := acc_loop (body := F.adjointref9_Run_l3 (F.adjointref9_Run fu) (fu + 1) (loopsAt p p.Rows.length) p.Box x hi) (List.range (hi + 1 - lo).toNat) (fun out i => (lo + i, out))
   (fun (i : Nat) => (ext (p.Box.drop (k + 1)) (x ++ [lo + (i : Int)])).filter (okF p (k + 1))) (fun out => Ex.brk out) 4096 [] (by simpa using hM)
   (fun i y out hy hout => by
    have hi' := get_lt hy
    have hyi : y = i := by
     rw [List.getElem?_range (by simpa using hi')] at hy
     exact (Option.some.inj hy).symm
    subst hyi
    rw [List.length_range] at hi'
    have dd : decide (lo + (y : Int) ≤ hi) = true := PL.dec_true (by omega)
    have c1 := chk_pos (p := (([] : List Int).length + x.length ≤ maxLen ∧ (([] : List Int).length + x.length) * 8 ≤ 140737488355328)) (by simp only [List.length_nil, maxLen]; omega)
    have c2 := chk_pos (p := ((([] : List Int) ++ x).length + [lo + (y : Int)].length ≤ maxLen ∧ ((([] : List Int) ++ x).length + [lo + (y : Int)].length) * 8 ≤ 140737488355328)) (by simp only [List.nil_append, List.length_singleton, maxLen]; omega)
    have hnl : (([] : List Int) ++ x) ++ [lo + (y : Int)] = x ++ [lo + (y : Int)] := by simp
    have hdr : p.Box.drop k = p.Box.getD k 0 :: p.Box.drop (k + 1) := by
     rw [List.drop_eq_getElem_cons hkl, List.getD_eq_getElem?_getD, List.getElem?_eq_getElem hkl]; rfl
    have hlen2 : len0 (p.Box.drop (k + 1)) ≤ 4096 := by
     rw [hdr] at hlen
     simp only [len0] at hlen
     have : 1 * len0 (p.Box.drop (k + 1)) ≤ (p.Box.getD k 0).toNat * len0 (p.Box.drop (k + 1)) := Nat.mul_le_mul_right _ (by omega)
     omega
    have hrec := run_ok g h0 m fu (k + 1) (x ++ [lo + (y : Int)]) (by omega) (by simp [hx]) (fun z hz => by
     rcases List.mem_append.1 hz with h | h
     · exact hr z h
     · simp at h; omega) hlen2 (by omega)
    have hw : IntKind.i64.wrap (lo + (y : Int) + 1) = lo + ((y + 1 : Nat) : Int) := by rw [i64 (by omega) (by omega)]; omega
    have c3 := chk_pos (p := (out.length + ((ext (p.Box.drop (k + 1)) (x ++ [lo + (y : Int)])).filter (okF p (k + 1))).length ≤ maxLen ∧ (out.length + ((ext (p.Box.drop (k + 1)) (x ++ [lo + (y : Int)])).filter (okF p (k + 1))).length) * 24 ≤ 140737488355328)) (by simp only [maxLen]; omega)
    simp only [F.adjointref9_Run_l3, dd, cond_true, c1, c2, hnl, Option.bind_some, hrec, Bool.not_true, cond_false, c3, hw])
   (fun out => by
    have dd : decide (lo + (((List.range (hi + 1 - lo).toNat).length : Nat) : Int) ≤ hi) = false := PL.dec_false (by rw [List.length_range]; omega)
    simp only [F.adjointref9_Run_l3, dd, cond_false])
   (fu + 1) (by rw [List.length_range]; omega)
  have e0 : lo + (0 : Int) = lo := by omega
  rw [e0] at hloop
  rw [hloop, List.nil_append]
  rfl
theorem same2_ok (fu : Nat) (a : List (List Int)) (hl : a.length ≤ 1048576) (hr : ∀ r ∈ a, r.length ≤ 65536) (hf : 2000000 < fu) : F.adjointlaw9_sameLists fu a a = some true := by
 have hsame : ∀ r : List Int, r.length ≤ 65536 → F.adjointref2_SameList fu r r = some true := fun r hrl => by
  have hin := PL.loop_acc (body := F.adjointref2_SameList_l1 fu r r) r (fun j => (j : Int)) (Ex.brk () : Ex Unit Bool)
   (fun j x hj => by
    have hw := wrap_succ (get_lt hj) (by omega)
    have b : (x != x) = false := by simp
    simp only [F.adjointref2_SameList_l1, dec_lt hj, cond_true, idx_nat hj, Option.bind_some, b, cond_false, hw])
   (by simp only [F.adjointref2_SameList_l1, dec_end, cond_false]) fu (by omega)
  have hin : loopF (F.adjointref2_SameList_l1 fu r r) fu 0 = some (Ex.brk ()) := hin
  have b : ((r.length : Int) != (r.length : Int)) = false := by simp
  unfold F.adjointref2_SameList
  rw [b, cond_false, hin]
  rfl
 have hloop := PL.loop_acc (body := F.adjointlaw9_sameLists_l1 fu a a) a (fun j => (j : Int)) (Ex.brk () : Ex Unit Bool)
  (fun j r hj => by
   have hw := wrap_succ (get_lt hj) (by omega)
   simp only [F.adjointlaw9_sameLists_l1, dec_lt hj, cond_true, idx_nat hj, Option.bind_some, hsame r (hr r (List.mem_of_getElem? hj)), Bool.not_true, cond_false, hw])
  (by simp only [F.adjointlaw9_sameLists_l1, dec_end, cond_false]) fu (by omega)
 have hloop : loopF (F.adjointlaw9_sameLists_l1 fu a a) fu 0 = some (Ex.brk ()) := hloop
 have b : ((a.length : Int) != (a.length : Int)) = false := by simp
 unfold F.adjointlaw9_sameLists
 rw [b, cond_false, hloop]
 rfl
theorem pointsLoops_F (p : SPoints) : F.adjointlaw9_PointsLoops 70000000000 p = some true := by
  generalize hfu : 70000000000 = fu
  have hw := refWrong_ok fu p (by omega)
  by_cases h : wrongP p = 0
  · have g := good_of h
    have h4 := g.len
    have hl := loops_ok fu h (by omega)
    have b0 : ((0 : Int) != 0) = false := rfl
    have bl : (((loopsAt p p.Rows.length).length : Int) != (p.Box.length : Int)) = false := by rw [loopsAt_len]; simp
    have hright := PL.loop_acc (body := F.adjointlaw9_PointsLoops_l1 fu (loopsAt p p.Rows.length)) (loopsAt p p.Rows.length) (fun j => (j : Int)) (Ex.brk () : Ex Unit Bool)
      (fun j l hj => by
        have hjl := get_lt hj
        rw [loopsAt_len] at hjl
        have hw := wrap_succ hjl (by omega)
        have e := loopsAt_get p p.Rows.length hjl
        rw [hj] at e
        cases e
        simp only [F.adjointlaw9_PointsLoops_l1, dec_lt hj, cond_true, idx_nat hj, Option.bind_some, right_ok fu g p.Rows.length hjl (by omega), Bool.not_true, cond_false, hw])
      (by simp only [F.adjointlaw9_PointsLoops_l1, dec_end, cond_false]) fu (by rw [loopsAt_len]; omega)
    have hright : loopF (F.adjointlaw9_PointsLoops_l1 fu (loopsAt p p.Rows.length)) fu 0 = some (Ex.brk ()) := hright
    unfold F.adjointlaw9_PointsLoops
    simp only [hl, hw, h, Option.bind_some, b0, cond_false, bl, hright, bindE]
    by_cases h0 : p.Box.length = 0
    · have e : F.adjointref9_Run fu (loopsAt p p.Rows.length) p.Box [] = some ([[]], true) := by
        obtain ⟨fu, rfl⟩ : ∃ f, fu = f + 1 := ⟨fu - 1, by omega⟩
        show F.adjointref9_Run_b (F.adjointref9_Run fu) (fu + 1) _ _ _ = _
        unfold F.adjointref9_Run_b
        have b : ((([] : List Int).length : Int) == ((loopsAt p p.Rows.length).length : Int)) = true := by rw [loopsAt_len, h0]; rfl
        rw [b, cond_true]
      have b : ((p.Box.length : Int) == 0) = true := by rw [h0]; rfl
      simp only [e, Option.bind_some, b, cond_true]
    · have hlen : len0 (p.Box.drop 0) ≤ 4096 := by
        rw [List.drop_zero, ← ext_len p.Box []]
        exact g.pts_le
      have e := run_ok g (by omega) p.Box.length fu 0 [] (by omega) rfl (fun y hy => by cases hy) hlen (by omega)
      have hfilt : (ext (p.Box.drop 0) []).filter (okF p 0) = pts p := by
        rw [List.drop_zero]
        unfold pts
        refine List.filter_congr fun q _ => ?_
        refine all_congr' fun r _ => ?_
        rw [PL.dec_false (show ¬ lev r < 0 by omega), Bool.false_or]
      rw [hfilt] at e
      have b : ((p.Box.length : Int) == 0) = false := by rw [beq_eq_false_iff_ne]; omega
      have hle : (pts p).length ≤ 4096 := Nat.le_trans (List.length_filter_le _ _) g.pts_le
      have hs := same2_ok fu (pts p) (by omega) (fun r hr => by have := (mem_ran g (List.mem_filter.1 hr).1).2; omega) (by omega)
      simp only [e, Option.bind_some, b, cond_false, cond_true, refAll_ok fu g (by omega), hs]
  · have b : (wrongP p != 0) = true := by simpa using h
    have hl : F.points_Loops fu p = some ([], wrongP p) := by
      unfold F.points_Loops
      simp only [wrong_ok fu p (by omega), Option.bind_some, b, cond_true]
    have b2 : (wrongP p != wrongP p) = false := by simp
    unfold F.adjointlaw9_PointsLoops
    simp only [hl, hw, Option.bind_some, b2, cond_false, b, cond_true]
    rfl
end Go.DN
