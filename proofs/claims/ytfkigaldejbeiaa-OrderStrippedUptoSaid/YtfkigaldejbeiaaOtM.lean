/-
  Orders: the plain law: strips change nothing.
-/
import Derived.Test.YtfkigaldejbeiaaOtK
import Derived.Test.YtfkigaldejbeiaaOtL
import Derived.Test.YtfkigaldejbeiaaOtN
set_option linter.unusedSectionVars false
set_option linter.unusedSimpArgs false
set_option linter.unusedVariables false
namespace Go.DN
open Go.AM
theorem orderStripped_F (n : SNest) (a b c : Int) (mem : List (List Int)) (hs : n.Sizes.length ≤ 1048576) (hn : Pl.SmN n) : F.adjointlaw11_OrderStripped 5000000 n a b c mem = some true := by
  have hal : F.adjointlaw11_alive 5000000 = some true := alive_ok 4999980
  generalize hfu : 5000000 = fu at hal
  obtain ⟨⟨n', e⟩, h1, h2⟩ := Pl.strip_F fu n a b c hn (by omega)
  unfold F.adjointlaw11_OrderStripped
  simp only [hal, Option.bind_some, Bool.not_true, cond_false, h1]
  by_cases he : e = 0
  · obtain ⟨hw, i, k, s, hx, hk, hc1, hc2, hp, hn', hw'⟩ := h2 he
    simp only at hp hn' hw'
    have hs' : n'.Sizes.length ≤ 1048576 := by rw [hp]; exact hs
    have q : wN n = 0 := by
      have e1 := nestWrong_ok fu n hs (by omega)
      rw [Pl.nestWrong_ok fu n hn (by omega), hw] at e1
      exact (Option.some.inj e1).symm
    have q' : wN n' = 0 := by
      have e1 := nestWrong_ok fu n' hs' (by omega)
      rw [Pl.nestWrong_ok fu n' hn' (by omega), hw'] at e1
      exact (Option.some.inj e1).symm
    obtain ⟨hl, hz, hg⟩ := good_all q
    obtain ⟨hl', hz', hg'⟩ := good_all q'
    have b : (e != 0) = false := by simp [he]
    have b2 : ∀ x : Int, (x == x) = true := fun x => by simp
    simp only [b, cond_false]
    rcases nestRun_ok fu hs q mem (by omega) with ⟨hF, r1⟩ | ⟨x, hx0, c1, r1⟩
    · rcases nestRun_ok fu hs' q' mem (by omega) with ⟨hF', r2⟩ | ⟨x, hx0, c2, r2⟩
      · have hsame : (n'.Stmts.foldl stepS (⟨mem, hF'⟩ : Mem n')).1 = (n.Stmts.foldl stepS (⟨mem, hF⟩ : Mem n)).1 := by
          rw [stepS_all _ hg', stepS_all _ hg]
          show n'.Stmts.foldl (fun m s => allM s m) mem = n.Stmts.foldl (fun m s => allM s m) mem
          rw [hp]
          exact fold_set (fun m s => allM s m) n.Stmts i s _ hx (fun m => allM_strip (hg s (List.mem_of_getElem? hx)) hk hc1 hc2 m) mem
        rw [hsame] at r2
        generalize n.Stmts.foldl stepS (⟨mem, hF⟩ : Mem n) = R at r1 r2
        have hsm := same_ok fu R.1 (by rw [R.2.len]; exact hs) (fun r hr => by
          obtain ⟨k, hk⟩ := List.getElem?_of_mem hr
          have hkl := get_lt hk
          have hln := R.2.len
          have hzk : n.Sizes[k]? = some (n.Sizes[k]'(by omega)) := List.getElem?_eq_getElem _
          have he := (fits_iff R.2.len).1 R.2 k r _ hk hzk
          have hb := (hz _ (List.getElem_mem (by omega : k < n.Sizes.length))).2
          omega) (by omega)
        simp only [r1, r2, Option.bind_some, b2, cond_true, hsm]
      · exact absurd hF (by
          have hF2 : Fits n' mem := by unfold Fits; rw [hp]; exact hF
          rcases copied_ok fu hs' hz' mem (by omega) with ⟨_, hc⟩ | ⟨hno, _⟩
          · rw [c2] at hc
            cases hc
            exact absurd rfl hx0
          · exact absurd hF2 hno)
    · have c2 : F.nest_Copied fu n' mem = some (x, []) := by rw [hp]; exact c1
      have r2 : F.nest_Run fu n' mem = some ([], x) := by
        rcases nestRun_ok fu hs' q' mem (by omega) with ⟨hF', r2⟩ | ⟨y, hy0, c3, r2⟩
        · rcases copied_ok fu hs' hz' mem (by omega) with ⟨_, hc⟩ | ⟨hno, _⟩
          · rw [c2] at hc
            cases hc
            exact absurd rfl hx0
          · exact absurd hF' hno
        · rw [c2] at c3
          cases c3
          exact r2
      have hsm := same_ok fu [] (by simp) (by simp) (by omega)
      simp only [r1, r2, Option.bind_some, b2, cond_true, hsm]
  · have b : (e != 0) = true := by simpa using he
    simp only [b, cond_true]
end Go.DN
