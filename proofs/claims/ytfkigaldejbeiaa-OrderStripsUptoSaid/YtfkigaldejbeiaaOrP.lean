/-
  Orders: the plain law of OrderStrips.
-/
import Derived.Test.YtfkigaldejbeiaaOrT
import Derived.Test.YtfkigaldejbeiaaOrE
set_option linter.unusedSectionVars false
set_option linter.unusedSimpArgs false
set_option linter.unusedVariables false
namespace Go.DN.Pl
open Go.AM Go.PL

/-! ### The same -/
theorem sameList_refl (fu : Nat) (a : List Int) (ha : a.length ≤ 4000000) (hf : 4000000 < fu) : F.adjointref2_SameList fu a a = some true := by
  unfold F.adjointref2_SameList
  have hl := loop_acc (body := F.adjointref2_SameList_l1 fu a a) a (fun j => (j : Int)) (Ex.brk () : Ex Unit Bool)
    (fun j x hx => by
      have hw := wrap_succ (get_lt hx) (by omega)
      have hn : (x != x) = false := by simp
      simp only [F.adjointref2_SameList_l1, dec_lt hx, cond_true, idx_nat hx, Option.bind_some, hn, cond_false, hw])
    (by simp only [F.adjointref2_SameList_l1, dec_end, cond_false]) fu (by omega)
  rw [show ((0 : Nat) : Int) = 0 from rfl] at hl
  rw [bne_false rfl, cond_false, hl]
  rfl
theorem sameRow_refl (fu : Nat) (r : SRow) (ha : r.Coef.length ≤ 4000000) (hf : 4000000 < fu) : F.adjointref10_SameRow fu r r = some true := by
  unfold F.adjointref10_SameRow
  simp only [beq_self_eq_true, cond_true, sameList_refl fu _ ha hf, Option.bind_some]
theorem sameAccess_refl (fu : Nat) (a : SAccess) (ha : a.At.Coef.length ≤ 4000000) (hf : 4000000 < fu) : F.adjointref10_sameAccess fu a a = some true := by
  unfold F.adjointref10_sameAccess
  simp only [beq_self_eq_true, cond_true, sameRow_refl fu a.At ha hf, Option.bind_some]
theorem sameStmt_refl (fu : Nat) (s : SStmt) (hs : Sm s) (hf : 4000000 < fu) : F.adjointref10_SameStmt fu s s = some true := by
  unfold F.adjointref10_SameStmt
  have h1 := hs.rows
  have h2 := hs.gets
  have hl1 := loop_acc (body := F.adjointref10_SameStmt_l1 fu s s) s.Over.Rows (fun j => (j : Int)) (Ex.brk () : Ex Unit Bool)
    (fun j x hx => by
      have hw := wrap_succ (get_lt hx) (by omega)
      simp only [F.adjointref10_SameStmt_l1, dec_lt hx, cond_true, idx_nat hx, Option.bind_some, sameRow_refl fu x (hs.row x (List.mem_of_getElem? hx)) hf, Bool.not_true, cond_false, hw])
    (by simp only [F.adjointref10_SameStmt_l1, dec_end, cond_false]) fu (by omega)
  have hl2 := loop_acc (body := F.adjointref10_SameStmt_l2 fu s s) s.Get (fun j => (j : Int)) (Ex.brk () : Ex Unit Bool)
    (fun j x hx => by
      have hw := wrap_succ (get_lt hx) (by omega)
      simp only [F.adjointref10_SameStmt_l2, dec_lt hx, cond_true, idx_nat hx, Option.bind_some, sameAccess_refl fu x (hs.get x (List.mem_of_getElem? hx)) hf, Bool.not_true, cond_false, hw])
    (by simp only [F.adjointref10_SameStmt_l2, dec_end, cond_false]) fu (by omega)
  rw [show ((0 : Nat) : Int) = 0 from rfl] at hl1 hl2
  have e : ∀ (y : SStmt), y = s → True := fun _ _ => trivial
  simp only [bne_false (rfl : s.Do = s.Do), bne_false (rfl : s.Value = s.Value), bne_false (rfl : (s.Over.Rows.length : Int) = _), bne_false (rfl : (s.Get.length : Int) = _), cond_false, sameList_refl fu s.Over.Box hs.box hf, sameAccess_refl fu s.Put hs.put hf, Option.bind_some, Bool.not_true, hl1, hl2]
  rfl
theorem sameNest_refl (fu : Nat) (n : SNest) (hn : SmN n) (hf : 4000000 < fu) : F.adjointref10_SameNest fu n n = some true := by
  unfold F.adjointref10_SameNest
  have h1 := hn.stmts
  have hl := loop_acc (body := F.adjointref10_SameNest_l1 fu n n) n.Stmts (fun j => (j : Int)) (Ex.brk () : Ex Unit Bool)
    (fun j x hx => by
      have hw := wrap_succ (get_lt hx) (by omega)
      simp only [F.adjointref10_SameNest_l1, dec_lt hx, cond_true, idx_nat hx, Option.bind_some, sameStmt_refl fu x (hn.stmt x (List.mem_of_getElem? hx)) hf, Bool.not_true, cond_false, hw])
    (by simp only [F.adjointref10_SameNest_l1, dec_end, cond_false]) fu (by omega)
  rw [show ((0 : Nat) : Int) = 0 from rfl] at hl
  simp only [sameList_refl fu n.Sizes hn.sizes hf, Option.bind_some, Bool.not_true, cond_false, bne_false (rfl : (n.Stmts.length : Int) = _), hl]
  rfl

/-! ### Both strip alike -/
theorem empty_sm : SmN ⟨[], []⟩ := ⟨by simp, by simp, fun s hs => by cases hs⟩
theorem strips_same (fu : Nat) (n : SNest) (a b c : Int) (hn : SmN n) (hf : 4000010 < fu) :
    ∃ p : SNest × Int, F.order_Strip fu n a b c = some p ∧ F.adjointref11_Strip fu n a b c = some p ∧ SmN p.1 := by
  unfold F.order_Strip F.adjointref11_Strip
  simp only [nestWrong_ok fu n hn hf, nestRef_ok fu n hn hf, Option.bind_some]
  by_cases h0 : wrongN n = 0
  · rw [bne_false h0]
    simp only [cond_false, cc, Option.bind_some, range_ok]
    by_cases h1 : a < 0 ∨ a ≥ (n.Stmts.length : Int)
    · rw [dec_true h1]
      exact ⟨_, rfl, rfl, empty_sm⟩
    · rw [dec_false h1]
      obtain ⟨i, rfl⟩ : ∃ i : Nat, a = i := ⟨a.toNat, by omega⟩
      have hi : i < n.Stmts.length := by omega
      have hx : n.Stmts[i]? = some n.Stmts[i] := List.getElem?_eq_getElem hi
      generalize n.Stmts[i] = s at hx
      simp only [cond_false, idx_nat hx, Option.bind_some, range_ok]
      have hm := List.mem_of_getElem? hx
      have hs := hn.stmt s hm
      have hg := good_of h0 hm
      by_cases h2 : b < 0 ∨ b ≥ (s.Over.Box.length : Int)
      · rw [dec_true h2]
        exact ⟨_, rfl, rfl, empty_sm⟩
      · rw [dec_false h2]
        obtain ⟨k, rfl⟩ : ∃ k : Nat, b = k := ⟨b.toNat, by omega⟩
        have hk : k < s.Over.Box.length := by omega
        have hb := hg.box
        simp only [cond_false]
        by_cases h3 : c < 1 ∨ c > 4096
        · have : (decide (c < 1) || decide (c > 4096)) = true := by rcases h3 with h | h <;> simp [h]
          rw [this]
          exact ⟨_, rfl, rfl, empty_sm⟩
        · have : (decide (c < 1) || decide (c > 4096)) = false := by simp; omega
          rw [this]
          have hy : s.Over.Box[k]? = some s.Over.Box[k] := List.getElem?_eq_getElem hk
          have hgd : s.Over.Box.getD k 0 = s.Over.Box[k] := by rw [List.getD_eq_getElem?_getD, hy]; rfl
          generalize s.Over.Box[k] = w at hy hgd
          have hr := hg.ran w (List.mem_of_getElem? hy)
          have hput := hg.put
          -- what both come to
          have ht := stripS_sm (z := c) hs hg hk
          have hout : SmN ⟨n.Sizes, n.Stmts.set i (stripS s k c)⟩ := ⟨hn.sizes, by show (n.Stmts.set _ _).length ≤ _; rw [List.length_set]; exact hn.stmts, fun y hy => by
            rcases List.mem_or_eq_of_mem_set hy with h | h
            · exact hn.stmt y h
            · subst h; exact ht⟩
          have key : ∀ X : Option (SNest × Int), X = cond (wrongN ⟨n.Sizes, n.Stmts.set i (stripS s k c)⟩ != 0) (some (⟨[], []⟩, wrongN ⟨n.Sizes, n.Stmts.set i (stripS s k c)⟩)) (some (⟨n.Sizes, n.Stmts.set i (stripS s k c)⟩, 0)) → True := fun _ _ => trivial
          have hP : ∃ p : SNest × Int, cond (wrongN ⟨n.Sizes, n.Stmts.set i (stripS s k c)⟩ != 0) (some ((⟨[], []⟩ : SNest), wrongN ⟨n.Sizes, n.Stmts.set i (stripS s k c)⟩)) (some ((⟨n.Sizes, n.Stmts.set i (stripS s k c)⟩ : SNest), 0)) = some p ∧ SmN p.1 := by
            cases (wrongN ⟨n.Sizes, n.Stmts.set i (stripS s k c)⟩ != 0)
            · exact ⟨_, rfl, hout⟩
            · exact ⟨_, rfl, empty_sm⟩
          obtain ⟨p, hp1, hp2⟩ := hP
          refine ⟨p, ?_, ?_, hp2⟩
          · rw [← hp1]
            have hwk : IntKind.i64.wrap ((k : Int) + 1) = ((k + 1 : Nat) : Int) := wrap_succ hk (by omega)
            have hw1 : IntKind.i64.wrap (w + c) = w + c := i64 (by omega) (by omega)
            have hw2 : IntKind.i64.wrap (w + c - 1) = w + c - 1 := i64 (by omega) (by omega)
            have hst : Int.tdiv (w + c - 1) c = strips w c := by unfold strips; rw [Int.tdiv_eq_ediv_of_nonneg (by omega)]
            have hws := strips_ran hr.1 hr.2 (by omega : 1 ≤ c) (by omega)
            have hw3 : IntKind.i64.wrap (strips w c) = strips w c := i64 (by omega) (by omega)
            have hcat : [lpart s.Over.Box 0 (k : Int), [strips w c, c], lpart s.Over.Box ((k + 1 : Nat) : Int) (s.Over.Box.length : Int)].flatten = newBox s.Over.Box k c := by
              unfold newBox lpart
              rw [hgd]
              simp
              exact List.take_of_length_le (by simp)
            have hcl := newBox_len (z := c) hk
            have hwz : IntKind.i64.wrap (0 - c) = -c := by rw [i64 (by omega) (by omega)]; omega
            have hww : IntKind.i64.wrap (w - 1) = w - 1 := i64 (by omega) (by omega)
            simp only [cond_false, idx_nat hy, Option.bind_some, strip1_ok fu s.Put.At k c (by omega) (by omega) (by omega), amb_self, chk_pos (show (0 : Int) ≤ (k : Int) ∧ (k : Int) ≤ (s.Over.Box.length : Int) by omega), chk_pos (show c ≠ 0 by omega), hwk,
              chk_pos (show (0 : Int) ≤ ((k + 1 : Nat) : Int) ∧ ((k + 1 : Nat) : Int) ≤ (s.Over.Box.length : Int) by omega), hw1, hw2, hst, hw3, concat_ok fu _ (by simp) (show [lpart s.Over.Box 0 (k : Int), [strips w c, c], lpart s.Over.Box ((k + 1 : Nat) : Int) (s.Over.Box.length : Int)].flatten.length ≤ 10000000 by rw [hcat, hcl]; omega) (by omega), hcat,
              p_rows hs hg hk (by omega : 4000000 < fu), hcl]
            rw [chk_pos (by omega)]
            have hrep : (List.replicate (s.Over.Box.length + 1) (0 : Int))[k]? = some 0 := by rw [List.getElem?_replicate, if_pos (by omega)]
            have hset : ((List.replicate (s.Over.Box.length + 1) (0 : Int)).set k (-c))[k + 1]? = some 0 := by rw [List.getElem?_set, if_neg (by omega), List.getElem?_replicate, if_pos (by omega)]
            have hlast : ((List.replicate (s.Over.Box.length + 1) (0 : Int)).set k (-c)).set (k + 1) (-1) = lastC s.Over.Box.length k c := set_two (-c) (-1) k _ hk
            have hrl := hg.rows
            have hc1 : ∀ y : SRow, chk ((s.Over.Rows.map (stripR k c)).length + [y].length ≤ maxLen ∧ ((s.Over.Rows.map (stripR k c)).length + [y].length) * 32 ≤ 140737488355328) = some () := fun y => chk_app (by rw [List.length_map]; simp only [List.length_singleton]; omega) (by rw [List.length_map]; simp only [List.length_singleton]; omega)
            have e3 : loopF (F.order_Strip_l3 fu n i) fu (0, n.Sizes, newBox s.Over.Box k c, s.Over.Rows.map (stripR k c) ++ [⟨lastC s.Over.Box.length k c, w - 1⟩], s.Do, s.Value, s.Put.Array, (stripR k c s.Put.At).Coef, (stripR k c s.Put.At).Const, s.Get.map (stripA k c), []) = some (n.Sizes, newBox s.Over.Box k c, s.Over.Rows.map (stripR k c) ++ [⟨lastC s.Over.Box.length k c, w - 1⟩], s.Do, s.Value, s.Put.Array, (stripR k c s.Put.At).Coef, (stripR k c s.Put.At).Const, s.Get.map (stripA k c), n.Stmts.set i (stripS s k c)) := by
              rw [← hgd]
              exact p_stmts (t := stripS s k c) hn hi ht (by omega) n.Sizes
            simp only [Option.bind_some, Int.toNat_natCast, idx_nat hrep, hwz, idx_nat hset, hlast, hww, hc1, p_gets hs hg hk (by omega : 4000000 < fu), clone_ok fu n.Sizes (by have := hn.sizes; omega), e3, nestWrong_ok fu _ hout hf]
          · rw [← hp1]
            simp only [cond_false, idx_nat hy, Option.bind_some, stripped_ok fu s.Put.At k c (by omega) (by omega) (by omega), amb_self]
            have hrl := hg.rows
            have hsl := hn.stmts
            have hww : IntKind.i64.wrap (w - 1) = w - 1 := i64 (by omega) (by omega)
            have hc1 : ∀ y : SRow, chk ((s.Over.Rows.map (stripR k c)).length + [y].length ≤ maxLen ∧ ((s.Over.Rows.map (stripR k c)).length + [y].length) * 32 ≤ 140737488355328) = some () := fun y => chk_app (by rw [List.length_map]; simp only [List.length_singleton]; omega) (by rw [List.length_map]; simp only [List.length_singleton]; omega)
            have hc2 : chk (([] : List SStmt).length + n.Stmts.length ≤ maxLen ∧ (([] : List SStmt).length + n.Stmts.length) * 128 ≤ 140737488355328) = some () := chk_app (by simp only [List.length_nil]; omega) (by simp only [List.length_nil]; omega)
            have e4 : (⟨⟨newBox s.Over.Box k c, s.Over.Rows.map (stripR k c) ++ [⟨lastC s.Over.Box.length k c, w - 1⟩]⟩, s.Do, s.Value, ⟨s.Put.Array, ⟨(stripR k c s.Put.At).Coef, (stripR k c s.Put.At).Const⟩⟩, s.Get.map (stripA k c)⟩ : SStmt) = stripS s k c := by
              rw [← hgd]; rfl
            simp only [hww, r_box hg hk (by omega : 1 ≤ c) (by omega) (by omega : 4000000 < fu), r_rows hs hg hk (by omega : 4000000 < fu), r_gets hs hg hk (by omega : 4000000 < fu), hc1, hc2, Option.bind_some, List.nil_append, idx_nat hx, Int.toNat_natCast, e4, nestRef_ok fu _ hout hf]
  · rw [bne_true h0]
    exact ⟨_, rfl, rfl, empty_sm⟩

/-! ### Plain times -/
def unitR (v q : Nat) : SRow := ⟨(List.replicate v (0 : Int)).set q 1, 0⟩
def rowsP (v i : Nat) : List SRow := ⟨List.replicate v (0 : Int), (i : Int)⟩ :: (List.range v).map (unitR v)
def lenB (n : SNest) (q : Nat) : Nat := ((n.Stmts[q]?).map fun s => s.Over.Box.length).getD 0
def plainA (n : SNest) (j : Nat) : List (List SRow) := (List.range j).map fun q => rowsP (lenB n q) q
theorem map_range_succ {α : Type} (f : Nat → α) (j : Nat) : (List.range (j + 1)).map f = (List.range j).map f ++ [f j] := by
  rw [List.range_succ, List.map_append]; rfl
theorem rep_get (v q : Nat) (h : q < v) : (List.replicate v (0 : Int))[q]? = some 0 := by rw [List.getElem?_replicate, if_pos h]

theorem plainRow_ok (fu : Nat) (s : SStmt) (i : Nat) (hs : s.Over.Box.length ≤ 4000000) (hf : 4000010 < fu) : loopF (F.order_Plain_l1 fu s) fu (0, [⟨List.replicate s.Over.Box.length (0 : Int), (i : Int)⟩]) = some (rowsP s.Over.Box.length i) := by
  have hl := loop_acc (body := F.order_Plain_l1 fu s) s.Over.Box (fun j => ((j : Int), (⟨List.replicate s.Over.Box.length (0 : Int), (i : Int)⟩ : SRow) :: (List.range j).map (unitR s.Over.Box.length))) (rowsP s.Over.Box.length i)
    (fun j x hx => by
      have hj := get_lt hx
      have hw := wrap_succ hj (by omega)
      have hc1 : chk ((0 : Int) ≤ (s.Over.Box.length : Int) ∧ (s.Over.Box.length : Int) ≤ (s.Over.Box.length : Int) ∧ ((8 : Nat) : Int) * (s.Over.Box.length : Int) ≤ 281474976710656 ∧ (s.Over.Box.length : Int) ≤ 9223372036854775807) = some () := chk_pos (by omega)
      have hc2 : ∀ (a : SRow) (y : SRow), chk ((a :: (List.range j).map (unitR s.Over.Box.length)).length + [y].length ≤ maxLen ∧ ((a :: (List.range j).map (unitR s.Over.Box.length)).length + [y].length) * 32 ≤ 140737488355328) = some () := fun a y => chk_app (by simp only [List.length_cons, List.length_map, List.length_range, List.length_nil]; omega) (by simp only [List.length_cons, List.length_map, List.length_range, List.length_nil]; omega)
      simp only [F.order_Plain_l1, dec_lt hx, cond_true, hc1, Option.bind_some, Int.toNat_natCast, idx_nat (rep_get _ _ hj), hc2, hw, map_range_succ, List.cons_append]
      rfl)
    (by simp only [F.order_Plain_l1, dec_end, cond_false]; rfl) fu (by omega)
  simpa using hl
theorem plain_ok (fu : Nat) (n : SNest) (hn : SmN n) (hf : 4000010 < fu) : F.order_Plain fu n = some (plainA n n.Stmts.length) := by
  unfold F.order_Plain
  have hsl := hn.stmts
  have hl := loop_acc (body := F.order_Plain_l2 fu n) n.Stmts (fun j => ((j : Int), plainA n j)) (plainA n n.Stmts.length)
    (fun j s hx => by
      have hj := get_lt hx
      have hw := wrap_succ hj (by omega)
      have hb := (hn.stmt s (List.mem_of_getElem? hx)).box
      have hc1 : chk ((0 : Int) ≤ (s.Over.Box.length : Int) ∧ (s.Over.Box.length : Int) ≤ (s.Over.Box.length : Int) ∧ ((8 : Nat) : Int) * (s.Over.Box.length : Int) ≤ 281474976710656 ∧ (s.Over.Box.length : Int) ≤ 9223372036854775807) = some () := chk_pos (by omega)
      have hc2 : ∀ y : List SRow, chk ((plainA n j).length + [y].length ≤ maxLen ∧ ((plainA n j).length + [y].length) * 24 ≤ 140737488355328) = some () := fun y => chk_app (by unfold plainA; simp only [List.length_cons, List.length_map, List.length_range, List.length_nil]; omega) (by unfold plainA; simp only [List.length_cons, List.length_map, List.length_range, List.length_nil]; omega)
      have e : plainA n (j + 1) = plainA n j ++ [rowsP s.Over.Box.length j] := by
        unfold plainA
        rw [map_range_succ]
        have : lenB n j = s.Over.Box.length := by unfold lenB; rw [hx]; rfl
        rw [this]
      simp only [F.order_Plain_l2, dec_lt hx, cond_true, idx_nat hx, hc1, Option.bind_some, Int.toNat_natCast, plainRow_ok fu s j hb hf, hc2, hw, e])
    (by simp only [F.order_Plain_l2, dec_end, cond_false]) fu (by omega)
  have e0 : plainA n 0 = [] := rfl
  simp only [e0] at hl
  rw [show ((0 : Nat) : Int) = 0 from rfl] at hl
  simp only [hl, Option.bind_some]

def accR (v i : Nat) : Nat → List SRow
  | 0 => []
  | j + 1 => ⟨List.replicate v (0 : Int), (i : Int)⟩ :: (List.range j).map (unitR v)
theorem refRow2_ok (fu : Nat) (s : SStmt) (i : Nat) (hs : s.Over.Box.length ≤ 4000000) (hf : 4000010 < fu) : loopF (F.adjointref11_Plain_l1 fu i s) fu (-1, []) = some (rowsP s.Over.Box.length i) := by
  have hl := loop_acc (body := F.adjointref11_Plain_l1 fu i s) (List.range (s.Over.Box.length + 1)) (fun j => ((j : Int) - 1, accR s.Over.Box.length i j)) (rowsP s.Over.Box.length i)
    (fun j x hx => by
      have hj : j < s.Over.Box.length + 1 := by have := get_lt hx; simpa using this
      have hw : IntKind.i64.wrap ((j : Int) - 1 + 1) = ((j + 1 : Nat) : Int) - 1 := by rw [i64 (by omega) (by omega)]; omega
      have hd : decide ((j : Int) - 1 < (s.Over.Box.length : Int)) = true := dec_true (by omega)
      have hc1 : chk ((0 : Int) ≤ (s.Over.Box.length : Int) ∧ (s.Over.Box.length : Int) ≤ (s.Over.Box.length : Int) ∧ ((8 : Nat) : Int) * (s.Over.Box.length : Int) ≤ 281474976710656 ∧ (s.Over.Box.length : Int) ≤ 9223372036854775807) = some () := chk_pos (by omega)
      cases j with
      | zero =>
        have hc2 : ∀ y : SRow, chk (([] : List SRow).length + [y].length ≤ maxLen ∧ (([] : List SRow).length + [y].length) * 32 ≤ 140737488355328) = some () := fun y => chk_app (by simp) (by simp)
        have h1 : decide (((0 : Nat) : Int) - 1 < 0) = true := rfl
        simp only [F.adjointref11_Plain_l1, hd, cond_true, hc1, Option.bind_some, h1, Int.toNat_natCast, accR, hc2, hw]
        rfl
      | succ q =>
        have hq : q < s.Over.Box.length := by omega
        have e : (((q + 1 : Nat) : Int) - 1) = (q : Int) := by omega
        have hc2 : ∀ (a y : SRow), chk ((a :: (List.range q).map (unitR s.Over.Box.length)).length + [y].length ≤ maxLen ∧ ((a :: (List.range q).map (unitR s.Over.Box.length)).length + [y].length) * 32 ≤ 140737488355328) = some () := fun a y => chk_app (by simp only [List.length_cons, List.length_map, List.length_range, List.length_nil]; omega) (by simp only [List.length_cons, List.length_map, List.length_range, List.length_nil]; omega)
        rw [e] at hd hw
        have h1 : decide ((q : Int) < 0) = false := dec_false (by omega)
        rw [show accR s.Over.Box.length i (q + 1) = ⟨List.replicate s.Over.Box.length (0 : Int), (i : Int)⟩ :: (List.range q).map (unitR s.Over.Box.length) from rfl, show accR s.Over.Box.length i (q + 1 + 1) = ⟨List.replicate s.Over.Box.length (0 : Int), (i : Int)⟩ :: (List.range (q + 1)).map (unitR s.Over.Box.length) from rfl, map_range_succ]
        simp only [F.adjointref11_Plain_l1, e, hd, cond_true, hc1, Option.bind_some, h1, cond_false, Int.toNat_natCast, idx_nat (rep_get _ _ hq), hc2, hw, List.cons_append]
        rfl)
    (by
      have hd : decide (((s.Over.Box.length + 1 : Nat) : Int) - 1 < (s.Over.Box.length : Int)) = false := dec_false (by omega)
      simp only [List.length_range, F.adjointref11_Plain_l1, hd, cond_false, accR]; rfl) fu (by rw [List.length_range]; omega)
  exact hl
theorem refPlain_ok (fu : Nat) (n : SNest) (hn : SmN n) (hf : 4000010 < fu) : F.adjointref11_Plain fu n = some (plainA n n.Stmts.length) := by
  unfold F.adjointref11_Plain
  have hsl := hn.stmts
  have hl := loop_acc (body := F.adjointref11_Plain_l2 fu n) n.Stmts (fun j => ((j : Int), plainA n j)) (plainA n n.Stmts.length)
    (fun j s hx => by
      have hj := get_lt hx
      have hw := wrap_succ hj (by omega)
      have hb := (hn.stmt s (List.mem_of_getElem? hx)).box
      have hc2 : ∀ y : List SRow, chk ((plainA n j).length + [y].length ≤ maxLen ∧ ((plainA n j).length + [y].length) * 24 ≤ 140737488355328) = some () := fun y => chk_app (by unfold plainA; simp only [List.length_cons, List.length_map, List.length_range, List.length_nil]; omega) (by unfold plainA; simp only [List.length_cons, List.length_map, List.length_range, List.length_nil]; omega)
      have e : plainA n (j + 1) = plainA n j ++ [rowsP s.Over.Box.length j] := by
        unfold plainA
        rw [map_range_succ]
        have : lenB n j = s.Over.Box.length := by unfold lenB; rw [hx]; rfl
        rw [this]
      simp only [F.adjointref11_Plain_l2, dec_lt hx, cond_true, idx_nat hx, Option.bind_some, refRow2_ok fu s j hb hf, hc2, hw, e])
    (by simp only [F.adjointref11_Plain_l2, dec_end, cond_false]) fu (by omega)
  have e0 : plainA n 0 = [] := rfl
  simp only [e0] at hl
  rw [show ((0 : Nat) : Int) = 0 from rfl] at hl
  simp only [hl, Option.bind_some]
theorem plain_small {n : SNest} (hn : SmN n) {j : Nat} {l : List SRow} (hl : l ∈ plainA n j) : l.length ≤ 4000001 ∧ ∀ r ∈ l, r.Coef.length ≤ 4000000 := by
  obtain ⟨q, _, rfl⟩ := List.mem_map.1 hl
  have hb : lenB n q ≤ 4000000 := by
    unfold lenB
    cases hx : n.Stmts[q]? with
    | none => simp
    | some s => exact (hn.stmt s (List.mem_of_getElem? hx)).box
  refine ⟨by unfold rowsP; simp only [List.length_cons, List.length_map, List.length_range]; omega, fun r hr => ?_⟩
  rcases List.mem_cons.1 hr with h | h
  · subst h; simpa using hb
  · obtain ⟨p, _, rfl⟩ := List.mem_map.1 h
    unfold unitR
    simpa using hb

/-! ### The law -/
theorem law_ok (fu : Nat) (n : SNest) (a b c : Int) (hn : SmN n) (hf : 4000010 < fu) : F.adjointlaw11_OrderStrips fu n a b c = some true := by
  obtain ⟨p, h1, h2, h3⟩ := strips_same fu n a b c hn hf
  have hsl := hn.stmts
  have hpl : (plainA n n.Stmts.length).length = n.Stmts.length := by unfold plainA; simp
  have hl := loop_acc (body := F.adjointlaw11_OrderStrips_l2 fu (plainA n n.Stmts.length) (plainA n n.Stmts.length)) (plainA n n.Stmts.length) (fun j => (j : Int)) (Ex.brk () : Ex Unit Bool)
    (fun j l hx => by
      have hw := wrap_succ (get_lt hx) (by omega)
      obtain ⟨hm1, hm2⟩ := plain_small hn (List.mem_of_getElem? hx)
      have hl2 := loop_acc (body := F.adjointlaw11_OrderStrips_l1 fu (plainA n n.Stmts.length) (plainA n n.Stmts.length) j l) l (fun q => (q : Int)) (Ex.brk () : Ex Unit (Int ⊕ Ex Unit Bool))
        (fun q r hr => by
          have hw := wrap_succ (get_lt hr) (by omega)
          simp only [F.adjointlaw11_OrderStrips_l1, dec_lt hr, cond_true, idx_nat hx, idx_nat hr, Option.bind_some, sameRow_refl fu r (hm2 r (List.mem_of_getElem? hr)) (by omega), Bool.not_true, cond_false, hw])
        (by simp only [F.adjointlaw11_OrderStrips_l1, dec_end, cond_false]) fu (by omega)
      rw [show ((0 : Nat) : Int) = 0 from rfl] at hl2
      simp only [F.adjointlaw11_OrderStrips_l2, dec_lt hx, cond_true, idx_nat hx, Option.bind_some, bne_false (rfl : (l.length : Int) = _), cond_false, hl2, hw]
      rfl)
    (by simp only [F.adjointlaw11_OrderStrips_l2, dec_end, cond_false]) fu (by omega)
  rw [show ((0 : Nat) : Int) = 0 from rfl] at hl
  unfold F.adjointlaw11_OrderStrips
  obtain ⟨m, e⟩ := p
  simp only [h1, h2, Option.bind_some, sameNest_refl fu m h3 (by omega), Bool.not_true, cond_false, bne_false (rfl : e = e), plain_ok fu n hn hf, refPlain_ok fu n hn hf, bne_false (rfl : ((plainA n n.Stmts.length).length : Int) = _), nestRef_ok fu n hn hf]
  by_cases h : wrongN n = 0
  · rw [bne_false h, cond_false, hl]
    rfl
  · rw [bne_true h, cond_true]
end Go.DN.Pl
namespace Go.DN
open Go.AM Go.DN.Pl
theorem small_of {n : SNest} (h : okSNest n) : SmN n where
  sizes := Nat.le_trans h.1.1 (by omega)
  stmts := Nat.le_trans h.2.1 (by omega)
  stmt := fun s hs => by
    obtain ⟨⟨hbox, hrows⟩, _, _, ⟨_, hput⟩, hgets⟩ := h.2.2 s hs
    exact ⟨Nat.le_trans hbox.1 (by omega), Nat.le_trans hrows.1 (by omega), fun r hr => Nat.le_trans (hrows.2 r hr).1.1 (by omega), Nat.le_trans hput.1.1 (by omega), Nat.le_trans hgets.1 (by omega), fun a ha => Nat.le_trans (hgets.2 a ha).2.1.1 (by omega)⟩
theorem orderStripsLaw (n : SNest) (a b c : Int) (h : okSNest n) (h1 : okI a) (h2 : okI b) (h3 : okI c) : ∃ fu, F.adjointlaw11_OrderStrips fu n a b c = some true :=
  ⟨5000000, law_ok 5000000 n a b c (small_of h) (by omega)⟩
end Go.DN
