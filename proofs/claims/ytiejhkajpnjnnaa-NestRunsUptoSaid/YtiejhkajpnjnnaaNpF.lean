/-
  Nest: the plain law: all statements, there and at the reference.
-/
import Derived.Test.YtiejhkajpnjnnaaNpE
set_option linter.unusedSectionVars false
set_option linter.unusedSimpArgs false
set_option linter.unusedVariables false
namespace Go.DN
open Go.AM
theorem all1_ok (fu : Nat) {n : SNest} {s : SStmt} (g : GoodS n s) (m : Mem n) (hf : 5010 < fu) :
  F.points_All_1 fu s.Over.Box s.Over.Rows s.Over.Box s.Over.Rows s.Do s.Value s.Put.Array s.Put.At.Coef s.Put.At.Const s.Get m.1 =
   some (s.Over.Box, s.Over.Rows, s.Over.Box, s.Over.Rows, s.Do, s.Value, s.Put.Array, s.Put.At.Coef, s.Put.At.Const, s.Get, (runY (yN g) (pts s.Over) m).1.1) := by
 have h4 := g.over.len
 have hs : (⟨s.Over.Box, s.Over.Rows⟩ : SPoints) = s.Over := rfl
 unfold F.points_All_1
 rw [hs, wrong_ok fu s.Over (by omega), g.bad, Option.bind_some]
 have e0 : ((0 : Int) == 0) = true := rfl
 rw [e0, cond_true, chk_pos]
 rotate_left
 · omega
 rw [Option.bind_some]
 obtain ⟨x', b1, b2, b3, b4⟩ := walkN_ok g fu 0 (List.replicate (Int.toNat (s.Over.Box.length : Int)) 0) m (by omega) (by simp) (fun y hy => by
  rw [List.eq_of_mem_replicate hy]; omega) (by omega)
 have b4 : F.points_walk_2 fu s.Over 0 (List.replicate (Int.toNat (s.Over.Box.length : Int)) (0 : Int)) s.Over.Box s.Over.Rows s.Do s.Value s.Put.Array s.Put.At.Coef s.Put.At.Const s.Get m.1 = _ := b4
 rw [b4]
 have c1 : Nat.beq (List.length x') (List.length (List.replicate (Int.toNat (s.Over.Box.length : Int)) (0 : Int))) = true := by
  rw [b1, List.length_replicate]; simp
 have c2 := Mem.beq (runY (yN g) ((ext (s.Over.Box.drop 0) ((List.replicate (Int.toNat (s.Over.Box.length : Int)) (0 : Int)).take 0)).filter (sat s.Over)) m).1 m
 simp only [Option.bind_some, c1, c2, cond_true]
 rfl
open Classical in
noncomputable def stepS {n : SNest} (m : Mem n) (s : SStmt) : Mem n := if g : GoodS n s then (runY (yN g) (pts s.Over) m).1 else m
theorem stepS_val {n : SNest} {s : SStmt} (g : GoodS n s) (m : Mem n) : (stepS m s) = (runY (yN g) (pts s.Over) m).1 := by unfold stepS; rw [dif_pos g]
theorem stepS_fold {n : SNest} {s : SStmt} (g : GoodS n s) (m : Mem n) : (stepS m s).1 = (pts s.Over).foldl (fun m a => doM s a m) m.1 := by rw [stepS_val g]; exact (runN_go g _ m).2
theorem foldE_inl {σ α ρ : Type} (f : σ → α → σ) (e : σ → ρ) : ∀ (l : List α) (s : σ), foldE (fun s a => some (.inl (f s a))) e s l = some (e (l.foldl f s))
 | [], _ => rfl
 | a :: l, s => by simp only [foldE, List.foldl_cons]; exact foldE_inl f e l (f s a)
theorem runLoop_ok (fu : Nat) {n : SNest} (hg : ∀ s ∈ n.Stmts, GoodS n s) (hl : n.Stmts.length ≤ 256) (m : Mem n) (hf : 5010 < fu) :
  loopF (F.nest_Run_l1 fu n) fu (0, m.1) = some (n.Stmts.foldl stepS m).1 := by
 have := loop_list (body := F.nest_Run_l1 fu n) n.Stmts (fun (m : Mem n) i => (i, m.1)) (fun m s => some (.inl (stepS m s))) (fun m => m.1)
  (fun m k s hk => by
   have g := hg s (List.mem_of_getElem? hk)
   have hw := wrap_succ (get_lt hk) (by omega)
   have h1 : F.points_All fu s.Over = some (s.Over.Box, s.Over.Rows) := rfl
   have hb := Mem.beq (runY (yN g) (pts s.Over) m).1 m
   simp only [F.nest_Run_l1, dec_lt hk, cond_true, idx_nat hk, Option.bind_some, h1, all1_ok fu g m hf, hb, hw]
   simp only [stepS_val g]
   rfl)
  (fun m => by simp only [F.nest_Run_l1, dec_end, cond_false]) fu (by omega) m
 rw [this, foldE_inl]
def spotsOf (i : Nat) (s : SStmt) : List SSpot := (pts s.Over).map fun x => ⟨(i : Int), x⟩
def spots (n : SNest) : List SSpot := n.Stmts.zipIdx.flatMap fun q => spotsOf q.2 q.1
theorem zip_get {α : Type} {l : List α} {k : Nat} {q : α × Nat} (h : l.zipIdx[k]? = some q) : l[k]? = some q.1 ∧ q.2 = k := by
 rw [List.getElem?_zipIdx] at h
 obtain ⟨a, h1, h2⟩ := Option.map_eq_some_iff.1 h
 subst h2
 exact ⟨h1, by simp⟩
theorem pts_len {p : SPoints} (g : Good p) : (pts p).length ≤ 4096 := Nat.le_trans (List.length_filter_le _ _) g.pts_le
theorem flat_len {α β : Type} {f : α → List β} {M : Nat} : ∀ (l : List α), (∀ a ∈ l, (f a).length ≤ M) → (l.flatMap f).length ≤ l.length * M
 | [], _ => by simp
 | a :: l, h => by
  have h1 := h a List.mem_cons_self
  have h2 := flat_len l fun b hb => h b (List.mem_cons_of_mem _ hb)
  rw [List.flatMap_cons, List.length_append, List.length_cons, Nat.add_mul]
  omega
theorem spots_ok (fu : Nat) {n : SNest} (hg : ∀ s ∈ n.Stmts, GoodS n s) (hl : n.Stmts.length ≤ 256) (hf : 68719476750 < fu) : F.adjointref10_Spots fu n = some (spots n) := by
 have hM : (spots n).length ≤ 1048576 := by
  have := flat_len (f := fun q : SStmt × Nat => spotsOf q.2 q.1) (M := 4096) n.Stmts.zipIdx (fun q hq => by
   obtain ⟨k, hk⟩ := List.getElem?_of_mem hq
   have := zip_get hk
   unfold spotsOf
   rw [List.length_map]
   exact pts_len (hg q.1 (List.mem_of_getElem? this.1)).over)
  rw [List.length_zipIdx] at this
  have h2 : n.Stmts.length * 4096 ≤ 256 * 4096 := Nat.mul_le_mul_right _ hl
  unfold spots
  omega
 have := acc_loop (body := F.adjointref10_Spots_l2 fu n) n.Stmts.zipIdx (fun out i => (i, out)) (fun q => spotsOf q.2 q.1) (fun out => out) 1048576 [] (by show 0 + (spots n).length ≤ _; omega)
  (fun k q out hk hout => by
   obtain ⟨h1, h2⟩ := zip_get hk
   have g := hg q.1 (List.mem_of_getElem? h1)
   have hw := wrap_succ (get_lt h1) (by omega)
   have hp := pts_len g.over
   have hfm : (pts q.1.Over).flatMap (fun x => [(⟨(k : Int), x⟩ : SSpot)]) = spotsOf k q.1 := by unfold spotsOf; rw [List.map_eq_flatMap]
   rw [h2] at hout ⊢
   have hin := acc_loop (body := F.adjointref10_Spots_l1 fu (k : Int) (pts q.1.Over)) (pts q.1.Over) (fun out i => (i, out)) (fun x => [(⟨(k : Int), x⟩ : SSpot)]) (fun out => out) 1048576 out (by rw [hfm]; exact hout)
    (fun j x o hj ho => by
     have hw := wrap_succ (get_lt hj) (by omega)
     have c := chk_pos (p := (List.length o) + (List.length [(⟨(k : Int), x⟩ : SSpot)]) ≤ maxLen ∧ ((List.length o) + (List.length [(⟨(k : Int), x⟩ : SSpot)])) * 32 ≤ 140737488355328) (by simp only [List.length_singleton, maxLen] at *; omega)
     simp only [F.adjointref10_Spots_l1, dec_lt hj, cond_true, idx_nat hj, Option.bind_some, hw, c])
    (fun o => by simp only [F.adjointref10_Spots_l1, dec_end, cond_false]) fu (by omega)
   simp only [F.adjointref10_Spots_l2, dec_lt h1, cond_true, idx_nat h1, Option.bind_some, hw, refAll_ok fu g.over hf, hin, hfm])
  (fun out => by
   have : decide (((n.Stmts.zipIdx).length : Int) < (n.Stmts.length : Int)) = false := by rw [List.length_zipIdx]; simp
   simp only [F.adjointref10_Spots_l2, this, cond_false]) fu (by rw [List.length_zipIdx]; omega)
 simp only [F.adjointref10_Spots, this, Option.bind_some, List.nil_append]
 rfl
open Classical in
noncomputable def stepR {n : SNest} (m : Mem n) (q : SSpot) : Mem n := if h : ∃ s, n.Stmts[q.Stmt.toNat]? = some s ∧ GoodS n s then ⟨doM h.choose q.At m.1, doM_fits h.choose_spec.2 _ m.2⟩ else m
theorem stepR_val {n : SNest} {s : SStmt} {q : SSpot} (g : GoodS n s) (h : n.Stmts[q.Stmt.toNat]? = some s) (m : Mem n) : (stepR m q).1 = doM s q.At m.1 := by
 have hex : ∃ s, n.Stmts[q.Stmt.toNat]? = some s ∧ GoodS n s := ⟨s, h, g⟩
 unfold stepR
 rw [dif_pos hex]
 have : hex.choose = s := by
  exact Option.some.inj (hex.choose_spec.1.symm.trans h)
 simp only [this]
theorem pts_mem {p : SPoints} (g : Good p) {x : List Int} (h : x ∈ pts p) : Ran x ∧ x.length = p.Box.length := mem_ran g (List.mem_filter.1 h).1
theorem refLoop_ok (fu : Nat) {n : SNest} (hg : ∀ s ∈ n.Stmts, GoodS n s) (hl : n.Stmts.length ≤ 256) (m : Mem n) (hf : 2000000 < fu) (hM : (spots n).length ≤ 1048576) :
  loopF (F.adjointref10_Run_l1 fu n (spots n)) fu (0, m.1) = some ((spots n).foldl stepR m).1 := by
 have := loop_list (body := F.adjointref10_Run_l1 fu n (spots n)) (spots n) (fun (m : Mem n) i => (i, m.1)) (fun m q => some (.inl (stepR m q))) (fun m => m.1)
  (fun m k q hk => by
   have hw := wrap_succ (get_lt hk) (by omega)
   obtain ⟨z, hz, hq⟩ := List.mem_flatMap.1 (List.mem_of_getElem? hk)
   obtain ⟨j, hj⟩ := List.getElem?_of_mem hz
   obtain ⟨h1, h2⟩ := zip_get hj
   have g := hg z.1 (List.mem_of_getElem? h1)
   obtain ⟨x, hx, rfl⟩ := List.mem_map.1 hq
   obtain ⟨hr, hxl⟩ := pts_mem g.over hx
   have h1' : n.Stmts[(Int.toNat ((z.2 : Nat) : Int))]? = some z.1 := by rw [Int.toNat_natCast, h2]; exact h1
   have hv := stepR_val (q := ⟨(z.2 : Int), x⟩) g h1' m
   have hb := Mem.beq (stepR m ⟨(z.2 : Int), x⟩) m
   rw [hv] at hb
   have hidx : idx n.Stmts (z.2 : Int) = some z.1 := idx_nat (by rw [h2]; exact h1)
   simp only [F.adjointref10_Run_l1, dec_lt hk, cond_true, idx_nat hk, Option.bind_some, hidx, refDo_ok fu g hr hxl m.2 (by omega), hb, hw]
   rw [← hv]
   rfl)
  (fun m => by simp only [F.adjointref10_Run_l1, dec_end, cond_false]) fu (by omega) m
 rw [this, foldE_inl]
theorem same_run {n : SNest} (hg : ∀ s ∈ n.Stmts, GoodS n s) (m : Mem n) : (n.Stmts.foldl stepS m) = (spots n).foldl stepR m := by
 have key : ∀ (l : List SStmt) (i : Nat) (m : Mem n), (∀ k s, l[k]? = some s → n.Stmts[i + k]? = some s) → l.foldl stepS m = ((l.zipIdx i).flatMap fun q => spotsOf q.2 q.1).foldl stepR m := by
  intro l
  induction l with
  | nil => intro i m _; rfl
  | cons s l ih =>
   intro i m h
   have h0 := h 0 s rfl
   have g := hg s (List.mem_of_getElem? h0)
   rw [List.foldl_cons, List.zipIdx_cons, List.flatMap_cons, List.foldl_append]
   have e : stepS m s = (spotsOf i s).foldl stepR m := by
    apply Subtype.ext
    rw [stepS_fold g]
    unfold spotsOf
    generalize pts s.Over = L
    induction L generalizing m with
    | nil => rfl
    | cons x L ihL =>
     simp only [List.foldl_cons, List.map_cons]
     have hv := stepR_val (q := ⟨(i : Int), x⟩) g (by simpa using h0) m
     rw [← hv]
     exact ihL (stepR m ⟨(i : Int), x⟩)
   rw [e]
   exact ih (i + 1) _ fun k s' hk => by
    have := h (k + 1) s' hk
    rwa [show i + (k + 1) = i + 1 + k by omega] at this
 exact key n.Stmts 0 m fun k s h => by rwa [Nat.zero_add]
end Go.DN
