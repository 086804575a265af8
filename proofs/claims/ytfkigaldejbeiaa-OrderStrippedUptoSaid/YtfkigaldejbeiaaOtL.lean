/-
  Orders: the plain law: what strip-mining comes to.
-/
import Derived.Test.YtfkigaldejbeiaaOtS
set_option linter.unusedSectionVars false
set_option linter.unusedSimpArgs false
set_option linter.unusedVariables false
namespace Go.DN.Pl
open Go.AM Go.PL
theorem strip_F (fu : Nat) (n : SNest) (a b c : Int) (hn : SmN n) (hf : 4000010 < fu) :
    ∃ p : SNest × Int, F.order_Strip fu n a b c = some p ∧ (p.2 = 0 → wrongN n = 0 ∧ ∃ (i k : Nat) (s : SStmt), n.Stmts[i]? = some s ∧ k < s.Over.Box.length ∧ 1 ≤ c ∧ c ≤ 4096 ∧ p.1 = ⟨n.Sizes, n.Stmts.set i (stripS s k c)⟩ ∧ SmN p.1 ∧ wrongN p.1 = 0) := by
  unfold F.order_Strip
  simp only [nestWrong_ok fu n hn hf, Option.bind_some]
  by_cases h0 : wrongN n = 0
  · rw [bne_false h0]
    simp only [cond_false, cc, Option.bind_some, range_ok]
    by_cases h1 : a < 0 ∨ a ≥ (n.Stmts.length : Int)
    · rw [dec_true h1]
      exact ⟨_, rfl, fun h => absurd h (by decide)⟩
    · rw [dec_false h1]
      obtain ⟨i, rfl⟩ : ∃ i : Nat, a = i := ⟨a.toNat, by omega⟩
      have hi : i < n.Stmts.length := by omega
      have hx : n.Stmts[i]? = some n.Stmts[i] := List.getElem?_eq_getElem hi
      generalize n.Stmts[i] = s at hx
      simp only [cond_false, idx_nat hx, Option.bind_some, range_ok]
      have hm := List.mem_of_getElem? hx
      have hs := hn.stmt s hm
      have hg := good_of h0 hm
      by_cases h2 : b < 0 ∨ b ≥ (s.Over.Box.length : Int)
      · rw [dec_true h2]
        exact ⟨_, rfl, fun h => absurd h (by decide)⟩
      · rw [dec_false h2]
        obtain ⟨k, rfl⟩ : ∃ k : Nat, b = k := ⟨b.toNat, by omega⟩
        have hk : k < s.Over.Box.length := by omega
        have hb := hg.box
        simp only [cond_false]
        by_cases h3 : c < 1 ∨ c > 4096
        · have : (decide (c < 1) || decide (c > 4096)) = true := by rcases h3 with h | h <;> simp [h]
          rw [this]
          exact ⟨_, rfl, fun h => absurd h (by decide)⟩
        · have : (decide (c < 1) || decide (c > 4096)) = false := by simp; omega
          rw [this]
          have hy : s.Over.Box[k]? = some s.Over.Box[k] := List.getElem?_eq_getElem hk
          have hgd : s.Over.Box.getD k 0 = s.Over.Box[k] := by rw [List.getD_eq_getElem?_getD, hy]; rfl
          generalize s.Over.Box[k] = w at hy hgd
          have hr := hg.ran w (List.mem_of_getElem? hy)
          have hput := hg.put
          -- what both come to
          have ht := stripS_sm (z := c) hs hg hk
          have hout : SmN ⟨n.Sizes, n.Stmts.set i (stripS s k c)⟩ := ⟨hn.sizes, by show (n.Stmts.set _ _).length ≤ _; rw [List.length_set]; exact hn.stmts, fun y hy => by
            rcases List.mem_or_eq_of_mem_set hy with h | h
            · exact hn.stmt y h
            · subst h; exact ht⟩
          have key : ∀ X : Option (SNest × Int), X = cond (wrongN ⟨n.Sizes, n.Stmts.set i (stripS s k c)⟩ != 0) (some (⟨[], []⟩, wrongN ⟨n.Sizes, n.Stmts.set i (stripS s k c)⟩)) (some (⟨n.Sizes, n.Stmts.set i (stripS s k c)⟩, 0)) → True := fun _ _ => trivial
          have hP : ∃ p : SNest × Int, cond (wrongN ⟨n.Sizes, n.Stmts.set i (stripS s k c)⟩ != 0) (some ((⟨[], []⟩ : SNest), wrongN ⟨n.Sizes, n.Stmts.set i (stripS s k c)⟩)) (some ((⟨n.Sizes, n.Stmts.set i (stripS s k c)⟩ : SNest), 0)) = some p ∧ (p.2 = 0 → p.1 = ⟨n.Sizes, n.Stmts.set i (stripS s k c)⟩ ∧ wrongN p.1 = 0) := by
            by_cases hz : wrongN ⟨n.Sizes, n.Stmts.set i (stripS s k c)⟩ = 0
            · rw [bne_false hz]
              exact ⟨_, rfl, fun _ => ⟨rfl, hz⟩⟩
            · rw [bne_true hz]
              exact ⟨_, rfl, fun h => absurd h hz⟩
          obtain ⟨p, hp1, hp2⟩ := hP
          refine ⟨p, ?_, fun h => ?_⟩
          · rw [← hp1]
            have hwk : IntKind.i64.wrap ((k : Int) + 1) = ((k + 1 : Nat) : Int) := wrap_succ hk (by omega)
            have hw1 : IntKind.i64.wrap (w + c) = w + c := i64 (by omega) (by omega)
            have hw2 : IntKind.i64.wrap (w + c - 1) = w + c - 1 := i64 (by omega) (by omega)
            have hst : Int.tdiv (w + c - 1) c = strips w c := by unfold strips; rw [Int.tdiv_eq_ediv_of_nonneg (by omega)]
            have hws := strips_ran hr.1 hr.2 (by omega : 1 ≤ c) (by omega)
            have hw3 : IntKind.i64.wrap (strips w c) = strips w c := i64 (by omega) (by omega)
            have hcat : [lpart s.Over.Box 0 (k : Int), [strips w c, c], lpart s.Over.Box ((k + 1 : Nat) : Int) (s.Over.Box.length : Int)].flatten = newBox s.Over.Box k c := by
              unfold newBox lpart
              rw [hgd]
              simp
              exact List.take_of_length_le (by simp)
            have hcl := newBox_len (z := c) hk
            have hwz : IntKind.i64.wrap (0 - c) = -c := by rw [i64 (by omega) (by omega)]; omega
            have hww : IntKind.i64.wrap (w - 1) = w - 1 := i64 (by omega) (by omega)
            simp only [cond_false, idx_nat hy, Option.bind_some, strip1_ok fu s.Put.At k c (by omega) (by omega) (by omega), amb_self, amb2_self, chk_pos (show (0 : Int) ≤ (k : Int) ∧ (k : Int) ≤ (s.Over.Box.length : Int) by omega), chk_pos (show c ≠ 0 by omega), hwk,
              chk_pos (show (0 : Int) ≤ ((k + 1 : Nat) : Int) ∧ ((k + 1 : Nat) : Int) ≤ (s.Over.Box.length : Int) by omega), hw1, hw2, hst, hw3, concat_ok fu _ (by simp) (show [lpart s.Over.Box 0 (k : Int), [strips w c, c], lpart s.Over.Box ((k + 1 : Nat) : Int) (s.Over.Box.length : Int)].flatten.length ≤ 10000000 by rw [hcat, hcl]; omega) (by omega), hcat,
              p_rows hs hg hk (by omega : 4000000 < fu), hcl]
            rw [chk_pos (by omega)]
            have hrep : (List.replicate (s.Over.Box.length + 1) (0 : Int))[k]? = some 0 := by rw [List.getElem?_replicate, if_pos (by omega)]
            have hset : ((List.replicate (s.Over.Box.length + 1) (0 : Int)).set k (-c))[k + 1]? = some 0 := by rw [List.getElem?_set, if_neg (by omega), List.getElem?_replicate, if_pos (by omega)]
            have hlast : ((List.replicate (s.Over.Box.length + 1) (0 : Int)).set k (-c)).set (k + 1) (-1) = lastC s.Over.Box.length k c := set_two (-c) (-1) k _ hk
            have hrl := hg.rows
            have hc1 : ∀ y : SRow, chk ((s.Over.Rows.map (stripR k c)).length + [y].length ≤ maxLen ∧ ((s.Over.Rows.map (stripR k c)).length + [y].length) * 32 ≤ 140737488355328) = some () := fun y => chk_app (by rw [List.length_map]; simp only [List.length_singleton]; omega) (by rw [List.length_map]; simp only [List.length_singleton]; omega)
            have e3 : loopF (F.order_Strip_l3 fu n i) fu (0, n.Sizes, newBox s.Over.Box k c, s.Over.Rows.map (stripR k c) ++ [⟨lastC s.Over.Box.length k c, w - 1⟩], s.Do, s.Value, s.Put.Array, (stripR k c s.Put.At).Coef, (stripR k c s.Put.At).Const, s.Get.map (stripA k c), []) = some (n.Sizes, newBox s.Over.Box k c, s.Over.Rows.map (stripR k c) ++ [⟨lastC s.Over.Box.length k c, w - 1⟩], s.Do, s.Value, s.Put.Array, (stripR k c s.Put.At).Coef, (stripR k c s.Put.At).Const, s.Get.map (stripA k c), n.Stmts.set i (stripS s k c)) := by
              rw [← hgd]
              exact p_stmts (t := stripS s k c) hn hi ht (by omega) n.Sizes
            simp only [Option.bind_some, Int.toNat_natCast, idx_nat hrep, hwz, idx_nat hset, hlast, hww, hc1, p_gets hs hg hk (by omega : 4000000 < fu), clone_ok fu n.Sizes (by have := hn.sizes; omega), e3, nestWrong_ok fu _ hout hf]
          · obtain ⟨q1, q2⟩ := hp2 h
            exact ⟨h0, i, k, s, hx, hk, by omega, by omega, q1, by rw [q1]; exact hout, q2⟩
  · rw [bne_true h0, cond_true]
    exact ⟨_, rfl, fun h => absurd h h0⟩
end Go.DN.Pl
