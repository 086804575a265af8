/-
  Orders: the plain law: what is wrong with a nest.
-/
import Derived.Test.YtfkigaldejbeiaaOsF
import Derived.Test.YtfkigaldejbeiaaPlA
set_option linter.unusedSectionVars false
set_option linter.unusedSimpArgs false
set_option linter.unusedVariables false
namespace Go.DN.Pl
open Go.AM Go.PL
def badC (c : Int) : Bool := decide (c < -1048576) || decide (c > 1048576)
def badB (d : Int) : Bool := decide (d < 0) || decide (d > 4096)
def badS (d : Int) : Bool := decide (d < 0) || decide (d > 65536)
def rowW (v : Int) (r : SRow) : Int := if (r.Coef.length : Int) ≠ v then 6 else if badC r.Const || r.Coef.any badC then 4 else 0
def prodL : Int → List Int → Int
 | n, [] => n
 | n, x :: r => prodL (n * x) r
def wrongP (p : SPoints) : Int :=
 if p.Box.length > 4 then 3 else if p.Box.any badB then 4 else if prodL 1 p.Box > 4096 then 5 else if p.Rows.length > 8 then 2 else firstW (rowW p.Box.length) p.Rows
theorem cc (a b : Bool) : cond a (some true) (some b) = some (a || b) := by cases a <;> rfl
theorem row1_ok (fu : Nat) (d : Int) : F.points_Row_1 fu d = some (badC d) := by
 unfold F.points_Row_1 badC
 rw [cc]; rfl
theorem indexB_ok (fu : Nat) (s : List Int) (hs : s.length ≤ 4000000) (hf : 4000000 < fu) : F.slices_ContainsFunc_2 fu s = some (s.any badC) := by
 obtain ⟨r, h1, h2⟩ := indexP_loop s (F.points_Row_1 fu) badC (row1_ok fu) (by omega) fu (by omega)
 have h3 : loopF (F.slices_IndexFunc_2_l1 fu s) fu 0 = some r := h1
 unfold F.slices_ContainsFunc_2 F.slices_IndexFunc_2
 cases r with
 | brk _ =>
  simp only at h2
  simp only [h3, bindE, Option.bind_some, h2]
  rfl
 | ret i =>
  simp only at h2
  simp only [h3, bindE, Option.bind_some, h2.2]
  simpa using h2.1
theorem sizes1_ok (fu : Nat) (d : Int) : F.nest_Wrong_1 fu d = some (badS d) := by
 unfold F.nest_Wrong_1 badS
 rw [cc]; rfl
theorem indexS_ok (fu : Nat) (s : List Int) (hs : s.length ≤ 4000000) (hf : 4000000 < fu) : F.slices_ContainsFunc fu s = some (s.any badS) := by
 obtain ⟨r, h1, h2⟩ := indexP_loop s (F.nest_Wrong_1 fu) badS (sizes1_ok fu) (by omega) fu (by omega)
 have h3 : loopF (F.slices_IndexFunc_l1 fu s) fu 0 = some r := h1
 unfold F.slices_ContainsFunc F.slices_IndexFunc
 cases r with
 | brk _ =>
  simp only at h2
  simp only [h3, bindE, Option.bind_some, h2]
  rfl
 | ret i =>
  simp only at h2
  simp only [h3, bindE, Option.bind_some, h2.2]
  simpa using h2.1
theorem row_ok (fu : Nat) (r : SRow) (v : Int) (hr : r.Coef.length ≤ 4000000) (hf : 4000000 < fu) : F.points_Row fu r v = some (rowW v r) := by
  unfold F.points_Row rowW
  by_cases h : (r.Coef.length : Int) = v
  · rw [bne_false h, cond_false, row1_ok]
    simp only [Option.bind_some, indexB_ok fu _ hr hf]
    cases badC r.Const <;> cases r.Coef.any badC <;> simp [h]
  · simp [bne_true h, h]
theorem pow_ran (j : Nat) (h : j ≤ 4) : (4096 : Int) ^ j ≤ 281474976710656 := by
 match j, h with
 | 0, _ => decide
 | 1, _ => decide
 | 2, _ => decide
 | 3, _ => decide
 | 4, _ => decide
theorem prod_fold (ρ : Type) (e : Int → ρ) : ∀ (l : List Int) (n : Int), (∀ x ∈ l, 0 ≤ x ∧ x ≤ 4096) → ∀ j, l.length + j ≤ 4 → 0 ≤ n → n ≤ 4096 ^ j →
  foldE (fun n x => some (.inl (IntKind.i64.wrap (n * x)))) e n l = some (e (prodL n l))
 | [], n, _, _, _, _, _ => rfl
 | x :: r, n, hr, j, hj, h0, h1 => by
  have hx := hr x (List.mem_cons_self ..)
  have h2 : n * x ≤ 4096 ^ (j + 1) := by
   have := Int.mul_le_mul h1 hx.2 hx.1 (by exact Int.le_of_lt (Int.pow_pos (by decide)))
   rwa [Int.pow_succ]
  simp only [List.length_cons] at hj
  have h3 := pow_ran (j + 1) (by omega)
  have hw : IntKind.i64.wrap (n * x) = n * x := i64 (by have := Int.mul_nonneg h0 hx.1; omega) (by omega)
  simp only [foldE, hw, prodL]
  have := prod_fold ρ e r (n * x) (fun y hy => hr y (List.mem_cons_of_mem _ hy)) (j + 1) (by omega) (Int.mul_nonneg h0 hx.1) h2
  simpa [hw] using this
theorem wrong_ok (fu : Nat) (p : SPoints) (hp : ∀ r ∈ p.Rows, r.Coef.length ≤ 4000000) (hf : 4000001 < fu) : F.points_Wrong fu p = some (wrongP p) := by
  unfold F.points_Wrong wrongP
  by_cases h4 : p.Box.length > 4
  · have : decide ((p.Box.length : Int) > 4) = true := by simp; omega
    simp only [this, cond_true, if_pos h4]
  · have : decide ((p.Box.length : Int) > 4) = false := by simp; omega
    simp only [this, cond_false, if_neg h4]
    have hloop := loop_find (body := F.points_Wrong_l1 fu p) p.Box (fun k => (k : Int)) (fun x => if badB x then some (4 : Int) else none)
      (fun k x hx => by
        have hw := wrap_succ (get_lt hx) (by omega)
        simp only [F.points_Wrong_l1, dec_lt hx, cond_true, idx_nat hx, Option.bind_some, hw, cc]
        unfold badB
        cases (decide (x < 0) || decide (x > 4096)) <;> rfl)
      (by simp only [F.points_Wrong_l1, dec_end, cond_false]) fu (by omega)
    rw [show ((0 : Nat) : Int) = 0 from rfl] at hloop
    rw [hloop, bindE_find, findAny]
    cases hb : p.Box.any badB with
    | true => simp
    | false =>
      have hg : ∀ x ∈ p.Box, 0 ≤ x ∧ x ≤ 4096 := fun x hx => by
        have := List.any_eq_false.1 hb x hx
        simp [badB] at this
        omega
      have hloop2 := loop_list (body := F.points_Wrong_l2 fu p) p.Box (fun n i => (n, i))
        (fun n x => some (.inl (IntKind.i64.wrap (n * x)))) (fun n => n)
        (fun n k x hx => by
          have hw := wrap_succ (get_lt hx) (by omega)
          simp only [F.points_Wrong_l2, dec_lt hx, cond_true, idx_nat hx, Option.bind_some, hw]
          rfl)
        (fun n => by simp only [F.points_Wrong_l2, dec_end, cond_false]) fu (by omega) 1
      rw [prod_fold _ _ p.Box 1 hg 0 (by omega) (by decide) (by decide)] at hloop2
      simp only [Bool.false_eq_true, if_false, hloop2, Option.bind_some]
      by_cases h5 : prodL 1 p.Box > 4096
      · simp [h5]
      · simp only [h5, decide_false, cond_false, if_false]
        by_cases h8 : p.Rows.length > 8
        · have : decide ((p.Rows.length : Int) > 8) = true := by simp; omega
          simp only [this, cond_true, if_pos h8]
        · have : decide ((p.Rows.length : Int) > 8) = false := by simp; omega
          simp only [this, cond_false, if_neg h8]
          have hloop3 := loop_find (body := F.points_Wrong_l3 fu p) p.Rows (fun k => (k : Int)) (fun r => errI (rowW p.Box.length r))
            (fun k r hx => by
              have hw := wrap_succ (get_lt hx) (by omega)
              simp only [F.points_Wrong_l3, dec_lt hx, cond_true, idx_nat hx, Option.bind_some, hw, row_ok fu r _ (hp r (List.mem_of_getElem? hx)) (by omega)]
              by_cases h : rowW p.Box.length r = 0
              · rw [bne_false h, cond_false, h, errI_zero]
              · rw [bne_true h, cond_true, errI_pos h])
            (by simp only [F.points_Wrong_l3, dec_end, cond_false]) fu (by omega)
          rw [show ((0 : Nat) : Int) = 0 from rfl] at hloop3
          rw [hloop3, bindE_find, firstW_find]
          by_cases h : firstW (rowW p.Box.length) p.Rows = 0
          · rw [h, errI_zero]
          · rw [errI_pos h]
noncomputable def takes (d : Int) : Int := (F.nest_gets 0 d).getD 0
theorem gets_ok (fu : Nat) (d : Int) : F.nest_gets fu d = some (takes d) := by
 unfold takes F.nest_gets
 cases (d == 1) <;> cases (d == 2) <;> cases (d == 9) <;> cases (d == 3) <;> cases (d == 4) <;> cases (d == 5) <;> cases (d == 6) <;> cases (d == 7) <;> cases (d == 10) <;> cases (d == 8) <;> rfl
def accW (sz v : Int) (a : SAccess) : Int := if a.Array < 0 ∨ a.Array ≥ sz then 4 else rowW v a.At
noncomputable def stmtW (sz : Int) (s : SStmt) : Int :=
 if wrongP s.Over ≠ 0 then wrongP s.Over else if takes s.Do < 0 then 1 else if takes s.Do ≠ s.Get.length then 2 else firstW (accW sz s.Over.Box.length) (s.Put :: s.Get)
noncomputable def wrongN (n : SNest) : Int :=
 if n.Stmts.length > 256 then 2 else if n.Sizes.any badS then 4 else firstW (stmtW n.Sizes.length) n.Stmts
structure Sm (s : SStmt) : Prop where
 box : s.Over.Box.length ≤ 4000000
 rows : s.Over.Rows.length ≤ 4000000
 row : ∀ r ∈ s.Over.Rows, r.Coef.length ≤ 4000000
 put : s.Put.At.Coef.length ≤ 4000000
 gets : s.Get.length ≤ 4000000
 get : ∀ a ∈ s.Get, a.At.Coef.length ≤ 4000000
structure SmN (n : SNest) : Prop where
 sizes : n.Sizes.length ≤ 4000000
 stmts : n.Stmts.length ≤ 4000000
 stmt : ∀ s ∈ n.Stmts, Sm s
theorem range_ok (a sz : Int) : (decide (a < 0) || decide (a ≥ sz)) = decide (a < 0 ∨ a ≥ sz) := by
 by_cases h1 : a < 0 <;> by_cases h2 : a ≥ sz <;> simp [h1, h2]
theorem statement_ok (fu : Nat) (n : SNest) (s : SStmt) (hs : Sm s) (hf : 4000010 < fu) : F.nest_statement fu n s = some (stmtW n.Sizes.length s) := by
  unfold F.nest_statement stmtW
  rw [wrong_ok fu _ hs.row (by omega)]
  simp only [Option.bind_some]
  by_cases h1 : wrongP s.Over = 0
  · rw [bne_false h1, cond_false, if_neg (by simp [h1]), gets_ok]
    simp only [Option.bind_some]
    by_cases h2 : takes s.Do < 0
    · rw [dec_true h2, cond_true, if_pos h2]
    · rw [dec_false h2, cond_false, if_neg h2]
      by_cases h3 : takes s.Do = s.Get.length
      · have hg := hs.gets
        have hc : ∀ a : SAccess, chk ([a].length + s.Get.length ≤ maxLen ∧ ([a].length + s.Get.length) * 40 ≤ 140737488355328) = some () := fun a => chk_app (by simp only [List.length_singleton]; omega) (by simp only [List.length_singleton]; omega)
        rw [bne_false h3, cond_false, if_neg (by simp [h3]), hc]
        simp only [Option.bind_some]
        have hl : ([s.Put] ++ s.Get).length = s.Get.length + 1 := by simp
        have hloop := loop_find (body := F.nest_statement_l1 fu n s) ([s.Put] ++ s.Get) (fun k => (k : Int)) (fun a => errI (accW n.Sizes.length s.Over.Box.length a))
          (fun k a hx => by
            have hw := wrap_succ (get_lt hx) (by omega)
            have ha : a.At.Coef.length ≤ 4000000 := by
              rcases List.mem_append.1 (List.mem_of_getElem? hx) with h | h
              · simp at h; subst h; exact hs.put
              · exact hs.get a h
            simp only [F.nest_statement_l1, dec_lt hx, cond_true, idx_nat hx, Option.bind_some, hw, cc, row_ok fu a.At _ ha (by omega), range_ok]
            unfold accW
            by_cases h : a.Array < 0 ∨ a.Array ≥ (n.Sizes.length : Int)
            · rw [dec_true h, cond_true, if_pos h, errI_pos (by decide)]
            · rw [dec_false h, cond_false, if_neg h]
              by_cases h : rowW s.Over.Box.length a.At = 0
              · rw [bne_false h, cond_false, h, errI_zero]
              · rw [bne_true h, cond_true, errI_pos h])
          (by simp only [F.nest_statement_l1, dec_end, cond_false]) fu (by omega)
        rw [show ((0 : Nat) : Int) = 0 from rfl] at hloop
        rw [hloop, bindE_find, firstW_find]
        show _ = some (firstW _ ([s.Put] ++ s.Get))
        by_cases h : firstW (accW n.Sizes.length s.Over.Box.length) ([s.Put] ++ s.Get) = 0
        · rw [h, errI_zero]
        · rw [errI_pos h]
      · rw [bne_true h3, cond_true, if_pos h3]
  · rw [bne_true h1, cond_true, if_pos h1]
theorem nestWrong_ok (fu : Nat) (n : SNest) (hn : SmN n) (hf : 4000010 < fu) : F.nest_Wrong fu n = some (wrongN n) := by
  unfold F.nest_Wrong wrongN
  by_cases h4 : n.Stmts.length > 256
  · rw [dec_true (by omega), cond_true, if_pos h4]
  · rw [dec_false (by omega), cond_false, if_neg h4, indexS_ok fu _ hn.sizes (by omega)]
    simp only [Option.bind_some]
    cases hb : n.Sizes.any badS with
    | true => rfl
    | false =>
      simp only [cond_false, Bool.false_eq_true, if_false]
      have hloop := loop_find (body := F.nest_Wrong_l1 fu n) n.Stmts (fun k => (k : Int)) (fun s => errI (stmtW n.Sizes.length s))
        (fun k s hx => by
          have hw := wrap_succ (get_lt hx) (by omega)
          simp only [F.nest_Wrong_l1, dec_lt hx, cond_true, idx_nat hx, Option.bind_some, hw, statement_ok fu n s (hn.stmt s (List.mem_of_getElem? hx)) hf]
          by_cases h : stmtW n.Sizes.length s = 0
          · rw [bne_false h, cond_false, h, errI_zero]
          · rw [bne_true h, cond_true, errI_pos h])
        (by simp only [F.nest_Wrong_l1, dec_end, cond_false]) fu (by omega)
      rw [show ((0 : Nat) : Int) = 0 from rfl] at hloop
      rw [hloop, bindE_find, firstW_find]
      by_cases h : firstW (stmtW n.Sizes.length) n.Stmts = 0
      · rw [h, errI_zero]
      · rw [errI_pos h]
end Go.DN.Pl
