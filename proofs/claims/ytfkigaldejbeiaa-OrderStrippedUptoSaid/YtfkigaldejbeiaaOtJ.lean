/-
  Nest: the plain law: memory copied; what a run comes to.
-/
import Derived.Test.YtfkigaldejbeiaaOtI
set_option linter.unusedSectionVars false
set_option linter.unusedSimpArgs false
set_option linter.unusedVariables false
namespace Go.DN
open Go.AM
theorem copied_ok (fu : Nat) {n : SNest} (hs : n.Sizes.length ≤ 1048576) (hz : ∀ x ∈ n.Sizes, 0 ≤ x ∧ x ≤ 65536) (mem : List (List Int)) (hf : 2000000 < fu) :
    (Fits n mem ∧ F.nest_Copied fu n mem = some (0, mem)) ∨ (¬ Fits n mem ∧ ∃ e, e ≠ 0 ∧ F.nest_Copied fu n mem = some (e, [])) := by
  by_cases hl : mem.length = n.Sizes.length
  · have b : ((mem.length : Int) != (n.Sizes.length : Int)) = false := by simp [hl]
    have hrow : ∀ k (hk : k < mem.length), ∃ z, n.Sizes[k]? = some z ∧ z ≤ 65536 := fun k hk => ⟨_, List.getElem?_eq_getElem (by omega), (hz _ (List.getElem_mem (by omega))).2⟩
    obtain ⟨r, h1, h2⟩ := loopF_inv (body := F.nest_Copied_l1 fu n mem)
      (fun q : Int × List (List Int) => ∃ k : Nat, q.1 = (k : Int) ∧ k ≤ mem.length ∧ q.2 = mem.take k ++ List.replicate (mem.length - k) [] ∧ ∀ (j : Nat) (r : List Int) (z : Int), j < k → mem[j]? = some r → n.Sizes[j]? = some z → (r.length : Int) = z)
      (fun q => mem.length - q.1.toNat) (fun r => (r = Ex.brk mem ∧ Fits n mem) ∨ (r = Ex.ret ((6 : Int), ([] : List (List Int))) ∧ ¬ Fits n mem)) (by
        rintro ⟨i, m4⟩ ⟨k, e1, hk, e2, e3⟩
        simp only at e1 e2
        subst e1; subst e2
        by_cases h : k < mem.length
        · have hm : mem[k]? = some mem[k] := List.getElem?_eq_getElem h
          obtain ⟨z, hzk, hz2⟩ := hrow k h
          have hw : IntKind.i64.wrap ((k : Int) + 1) = ((k + 1 : Nat) : Int) := wrap_succ h (by omega)
          by_cases hzz : (mem[k].length : Int) = z
          · left
            have b2 : ((mem[k].length : Int) != z) = false := by simp [hzz]
            have hlen : (mem.take k ++ List.replicate (mem.length - k) ([] : List Int)).length = mem.length := by
              rw [List.length_append, List.length_take, List.length_replicate]; omega
            have c1 := chk_pos (p := (0 : Int) ≤ (k : Int) ∧ (k : Int) < ((mem.take k ++ List.replicate (mem.length - k) ([] : List Int)).length : Int)) (by rw [hlen]; omega)
            have c2 := chk_pos (p := (k : Int).toNat < (mem.take k ++ List.replicate (mem.length - k) ([] : List Int)).length) (by rw [hlen]; omega)
            refine ⟨(((k + 1 : Nat) : Int), mem.take (k + 1) ++ List.replicate (mem.length - (k + 1)) []), ?_, ⟨k + 1, rfl, by omega, rfl, fun j r z' hj hr hz' => ?_⟩, by simp only; omega⟩
            · simp only [F.nest_Copied_l1, dec_lt hm, cond_true, idx_nat hm, idx_nat hzk, Option.bind_some, b2, cond_false, clone_ok fu mem[k] (by omega), c1, c2, hw]
              rw [Int.toNat_natCast, setMid mem k h]
            · by_cases hjk : j = k
              · subst hjk
                rw [hm] at hr; cases hr
                rw [hzk] at hz'; cases hz'
                exact hzz
              · exact e3 j r z' (by omega) hr hz'
          · right
            have b2 : ((mem[k].length : Int) != z) = true := by simpa using hzz
            refine ⟨_, by simp only [F.nest_Copied_l1, dec_lt hm, cond_true, idx_nat hm, idx_nat hzk, Option.bind_some, b2], .inr ⟨rfl, fun hF => hzz ((fits_iff hl).1 hF k _ _ hm hzk)⟩⟩
        · right
          have : k = mem.length := by omega
          subst this
          refine ⟨Ex.brk (mem.take mem.length ++ List.replicate (mem.length - mem.length) []), by simp only [F.nest_Copied_l1, dec_end, cond_false], .inl ⟨?_, (fits_iff hl).2 fun j r z hr hz' => e3 j r z (get_lt hr) hr hz'⟩⟩
          rw [List.take_length, Nat.sub_self]; simp) fu (0, List.replicate (Int.toNat (mem.length : Int)) []) ⟨0, rfl, Nat.zero_le _, by simp, fun j r z hj => by omega⟩ (by simp only; omega)
    have hc : F.nest_Copied fu n mem = bindE (fun r => r) (some r) (fun m8 => some ((0 : Int), m8)) := by
      unfold F.nest_Copied
      simp only [b, cond_false]
      rw [chk_pos]
      rotate_left
      · omega
      rw [Option.bind_some, chk_pos (allNil_replicate _), Option.bind_some, h1]
    rcases h2 with ⟨rfl, hF⟩ | ⟨rfl, hF⟩
    · exact .inl ⟨hF, hc⟩
    · exact .inr ⟨hF, 6, by decide, hc⟩
  · have b : ((mem.length : Int) != (n.Sizes.length : Int)) = true := by simp; omega
    refine .inr ⟨fun h => hl h.len, 2, by decide, ?_⟩
    unfold F.nest_Copied; rw [b]; rfl
theorem nestRun_ok (fu : Nat) {n : SNest} (hs : n.Sizes.length ≤ 1048576) (hw : wN n = 0) (mem : List (List Int)) (hf : 2000000 < fu) :
    (∃ hF : Fits n mem, F.nest_Run fu n mem = some ((n.Stmts.foldl stepS (⟨mem, hF⟩ : Mem n)).1, 0)) ∨ (∃ e, e ≠ 0 ∧ F.nest_Copied fu n mem = some (e, []) ∧ F.nest_Run fu n mem = some ([], e)) := by
  have hW := nestWrong_ok fu n hs hf
  obtain ⟨hl, hz, hg⟩ := good_all hw
  have b : (wN n != 0) = false := by simp [hw]
  rcases copied_ok fu hs hz mem hf with ⟨hF, hc⟩ | ⟨hF, e, he, hc⟩
  · left
    refine ⟨hF, ?_⟩
    have h1 := runLoop_ok fu hg hl ⟨mem, hF⟩ (by omega)
    unfold F.nest_Run
    have b0 : ((0 : Int) != 0) = false := rfl
    simp only [hW, Option.bind_some, b, cond_false, hc, b0, h1]
  · right
    have be : (e != 0) = true := by simpa using he
    refine ⟨e, he, hc, ?_⟩
    unfold F.nest_Run
    simp only [hW, Option.bind_some, b, cond_false, hc, be, cond_true]
end Go.DN
