/-
  Nest: the plain law: all statements, there and at the reference.
-/
import Derived.Test.YtfkigaldejbeiaaOtE
set_option linter.unusedSectionVars false
set_option linter.unusedSimpArgs false
set_option linter.unusedVariables false
namespace Go.DN
open Go.AM
theorem all1_ok (fu : Nat) {n : SNest} {s : SStmt} (g : GoodS n s) (m : Mem n) (hf : 5010 < fu) :
  F.points_All_1_2 fu s.Over.Box s.Over.Rows s.Over.Box s.Over.Rows s.Do s.Value s.Put.Array s.Put.At.Coef s.Put.At.Const s.Get m.1 =
   some (s.Over.Box, s.Over.Rows, s.Over.Box, s.Over.Rows, s.Do, s.Value, s.Put.Array, s.Put.At.Coef, s.Put.At.Const, s.Get, (runY (yN g) (pts s.Over) m).1.1) := by
 have h4 := g.over.len
 have hs : (⟨s.Over.Box, s.Over.Rows⟩ : SPoints) = s.Over := rfl
 unfold F.points_All_1_2
 rw [hs, wrong_ok fu s.Over (by omega), g.bad, Option.bind_some]
 have e0 : ((0 : Int) == 0) = true := rfl
 rw [e0, cond_true, chk_pos]
 rotate_left
 · omega
 rw [Option.bind_some]
 obtain ⟨x', b1, b2, b3, b4⟩ := walkN_ok g fu 0 (List.replicate (Int.toNat (s.Over.Box.length : Int)) 0) m (by omega) (by simp) (fun y hy => by
  rw [List.eq_of_mem_replicate hy]; omega) (by omega)
 have b4 : F.points_walk_6 fu s.Over 0 (List.replicate (Int.toNat (s.Over.Box.length : Int)) (0 : Int)) s.Over.Box s.Over.Rows s.Do s.Value s.Put.Array s.Put.At.Coef s.Put.At.Const s.Get m.1 = _ := b4
 rw [b4]
 have c1 : Nat.beq (List.length x') (List.length (List.replicate (Int.toNat (s.Over.Box.length : Int)) (0 : Int))) = true := by
  rw [b1, List.length_replicate]; simp
 have c2 := Mem.beq (runY (yN g) ((ext (s.Over.Box.drop 0) ((List.replicate (Int.toNat (s.Over.Box.length : Int)) (0 : Int)).take 0)).filter (sat s.Over)) m).1 m
 simp only [Option.bind_some, c1, c2, cond_true]
 rfl
open Classical in
noncomputable def stepS {n : SNest} (m : Mem n) (s : SStmt) : Mem n := if g : GoodS n s then (runY (yN g) (pts s.Over) m).1 else m
theorem stepS_val {n : SNest} {s : SStmt} (g : GoodS n s) (m : Mem n) : (stepS m s) = (runY (yN g) (pts s.Over) m).1 := by unfold stepS; rw [dif_pos g]
theorem stepS_fold {n : SNest} {s : SStmt} (g : GoodS n s) (m : Mem n) : (stepS m s).1 = (pts s.Over).foldl (fun m a => doM s a m) m.1 := by rw [stepS_val g]; exact (runN_go g _ m).2
theorem foldE_inl {σ α ρ : Type} (f : σ → α → σ) (e : σ → ρ) : ∀ (l : List α) (s : σ), foldE (fun s a => some (.inl (f s a))) e s l = some (e (l.foldl f s))
 | [], _ => rfl
 | a :: l, s => by simp only [foldE, List.foldl_cons]; exact foldE_inl f e l (f s a)
theorem runLoop_ok (fu : Nat) {n : SNest} (hg : ∀ s ∈ n.Stmts, GoodS n s) (hl : n.Stmts.length ≤ 256) (m : Mem n) (hf : 5010 < fu) :
  loopF (F.nest_Run_l1 fu n) fu (0, m.1) = some (n.Stmts.foldl stepS m).1 := by
 have := loop_list (body := F.nest_Run_l1 fu n) n.Stmts (fun (m : Mem n) i => (i, m.1)) (fun m s => some (.inl (stepS m s))) (fun m => m.1)
  (fun m k s hk => by
   have g := hg s (List.mem_of_getElem? hk)
   have hw := wrap_succ (get_lt hk) (by omega)
   have h1 : F.points_All fu s.Over = some (s.Over.Box, s.Over.Rows) := rfl
   have hb := Mem.beq (runY (yN g) (pts s.Over) m).1 m
   simp only [F.nest_Run_l1, dec_lt hk, cond_true, idx_nat hk, Option.bind_some, h1, all1_ok fu g m hf, hb, hw]
   simp only [stepS_val g]
   rfl)
  (fun m => by simp only [F.nest_Run_l1, dec_end, cond_false]) fu (by omega) m
 rw [this, foldE_inl]
theorem pts_mem {p : SPoints} (g : Good p) {x : List Int} (h : x ∈ pts p) : Ran x ∧ x.length = p.Box.length := mem_ran g (List.mem_filter.1 h).1
end Go.DN
