/-
  Nest: the plain law: the walk over a statement's points.
-/
import Derived.Test.YtfkigaldejbeiaaOtD
set_option linter.unusedSectionVars false
set_option linter.unusedSimpArgs false
set_option linter.unusedVariables false
namespace Go.DN
open Go.AM
theorem getD_take {l : List Int} {k i : Nat} (h : i < k) : (l.take k).getD i 0 = l.getD i 0 := by
 rw [List.getD_eq_getElem?_getD, List.getD_eq_getElem?_getD, List.getElem?_take, if_pos h]
abbrev Mem (n : SNest) := { m : List (List Int) // Fits n m }
def yN {n : SNest} {s : SStmt} (g : GoodS n s) (a : List Int) (m : Mem n) : Mem n × Jp := (⟨doM s a m.1, doM_fits g a m.2⟩, .go)
theorem runN_go {n : SNest} {s : SStmt} (g : GoodS n s) : ∀ (l : List (List Int)) (m : Mem n), (runY (yN g) l m).2 = .go ∧ (runY (yN g) l m).1.1 = l.foldl (fun m a => doM s a m) m.1
 | [], m => ⟨rfl, rfl⟩
 | a :: l, m => by
  have := runN_go g l ⟨doM s a m.1, doM_fits g a m.2⟩
  simpa [runY, yN] using this
theorem Mem.beq {n : SNest} (a b : Mem n) : Nat.beq (List.length a.1) (List.length b.1) = true := by
 rw [a.2.len, b.2.len]; exact Nat.beq_refl _
theorem yN_ok (fu : Nat) {n : SNest} {s : SStmt} (g : GoodS n s) {x : List Int} (hx : Ran x) (hl : x.length = s.Over.Box.length) (m : Mem n) (hf : 20 < fu) :
  F.nest_Run_y_2 fu x s.Over.Box s.Over.Rows s.Do s.Value s.Put.Array s.Put.At.Coef s.Put.At.Const s.Get m.1 = some (s.Over.Box, s.Over.Rows, s.Do, s.Value, s.Put.Array, s.Put.At.Coef, s.Put.At.Const, s.Get, (yN g x m).1.1) := by
 have hs : (⟨(⟨s.Over.Box, s.Over.Rows⟩ : SPoints), s.Do, s.Value, (⟨s.Put.Array, (⟨s.Put.At.Coef, s.Put.At.Const⟩ : SRow)⟩ : SAccess), s.Get⟩ : SStmt) = s := rfl
 unfold F.nest_Run_y_2
 rw [hs, nestDo_ok fu g hx hl m.2 hf, Option.bind_some]
 have hb : Nat.beq (List.length (doM s x m.1)) (List.length m.1) = true := Mem.beq ⟨_, doM_fits g x m.2⟩ m
 rw [hb]; rfl
theorem walkN_ok {n : SNest} {s : SStmt} (gs : GoodS n s) : ∀ (fu k : Nat) (x : List Int) (m : Mem n), k ≤ s.Over.Box.length → x.length = s.Over.Box.length → Ran x → 5000 + (s.Over.Box.length - k) < fu →
    ∃ x' : List Int, x'.length = s.Over.Box.length ∧ Ran x' ∧ x'.take k = x.take k ∧ F.points_walk_6 fu s.Over (k : Int) x s.Over.Box s.Over.Rows s.Do s.Value s.Put.Array s.Put.At.Coef s.Put.At.Const s.Get m.1 =
      some (true, x', s.Over.Box, s.Over.Rows, s.Do, s.Value, s.Put.Array, s.Put.At.Coef, s.Put.At.Const, s.Get, (runY (yN gs) ((ext (s.Over.Box.drop k) (x.take k)).filter (sat s.Over)) m).1.1) := by
  have g := gs.over
  generalize hp : s.Over = p at *
  have h4 := g.len
  intro fu
  induction fu with
  | zero => intro k x m _ _ _ h; omega
  | succ fu ih =>
    intro k x m hk hl hr hf
    show ∃ x' : List Int, x'.length = p.Box.length ∧ Ran x' ∧ x'.take k = x.take k ∧ F.points_walk_6_b (F.points_walk_6 fu) (fu + 1) p (k : Int) x p.Box p.Rows s.Do s.Value s.Put.Array s.Put.At.Coef s.Put.At.Const s.Get m.1 = _
    unfold F.points_walk_6_b
    rw [hopeless_ok (fu + 1) g hr hl k (by omega), Option.bind_some]
    rcases Bool.eq_false_or_eq_true (p.Rows.any fun r => decide (hopV r p x k < 0)) with h | h
    · rw [h, cond_true, hop_none g hr hl hk h]
      exact ⟨x, hl, hr, rfl, rfl⟩
    · rw [h, cond_false]
      by_cases hkl : k = p.Box.length
      · subst hkl
        have hs : sat p x = true := by
          have := hop_leaf g hl
          rw [h] at this
          simpa using this.symm
        have e1 : ((p.Box.length : Int) == (p.Box.length : Int)) = true := by simp
        have hy := yN_ok (fu + 1) gs hr (by rw [hp]; exact hl) m (by omega)
        rw [hp] at hy
        rw [e1, cond_true, clone2_ok (fu + 1) x (by omega), Option.bind_some, hy, Option.bind_some]
        refine ⟨x, hl, hr, rfl, ?_⟩
        rw [List.drop_length, List.take_of_length_le (Nat.le_of_eq hl)]
        have hb := Mem.beq (yN gs x m).1 m
        simp only [hb, cond_true]
        simp only [ext, List.filter_cons, hs, if_true, List.filter_nil, runY, yN]
      · have hkl : k < p.Box.length := by omega
        have e1 : ((k : Int) == (p.Box.length : Int)) = false := by simp; omega
        have hbx := g.box _ (getD_mem hkl)
        have htk : (x.take k).length = k := by rw [List.length_take]; omega
        have ek : IntKind.i64.wrap ((k : Int) + 1) = ((k + 1 : Nat) : Int) := by rw [i64 (by omega) (by omega)]; omega
        rw [e1, cond_false, idx_nat (getD_of (l := x) (i := k) (by omega)), Option.bind_some, Int.toNat_natCast]
        have hloop := walk_loop (body := F.points_walk_6_l1 (F.points_walk_6 fu) (fu + 1) p (k : Int)) (fun x (m : Mem n) => (x, p.Box, p.Rows, s.Do, s.Value, s.Put.Array, s.Put.At.Coef, s.Put.At.Const, s.Get, m.1)) (fun x m => Ex.brk (x, p.Box, p.Rows, s.Do, s.Value, s.Put.Array, s.Put.At.Coef, s.Put.At.Const, s.Get, m.1)) (fun x m j => Ex.ret (false, x, p.Box, p.Rows, s.Do, s.Value, s.Put.Array, s.Put.At.Coef, s.Put.At.Const, s.Get, m.1)) (yN gs) p.Box.length (p.Box.getD k 0).toNat k
          (fun i => (ext (p.Box.drop (k + 1)) (x.take k ++ [(i : Int)])).filter (sat p)) (x.take k) hkl (by omega)
          (fun i y m hi hyl hyr hyt hyi => by
            obtain ⟨x1, a1, a2, a3, a4⟩ := ih (k + 1) y m (by omega) hyl hyr (by omega)
            have ht : y.take (k + 1) = x.take k ++ [(i : Int)] := by
              rw [List.take_add_one, hyt, getD_of (l := y) (i := k) (by omega), hyi]; rfl
            have h1k : x1.getD k 0 = (i : Int) := by
              rw [← getD_take (l := x1) (Nat.lt_succ_self k), a3, getD_take (Nat.lt_succ_self k), hyi]
            refine ⟨x1, a1, a2, ?_, ?_⟩
            · have : x1.take k = (x1.take (k + 1)).take k := by rw [List.take_take, Nat.min_eq_left (by omega)]
              rw [this, a3, ht, List.take_append_of_le_length (by omega), List.take_of_length_le (by omega)]
            · rw [ht] at a4
              have hgo := (runN_go gs ((ext (p.Box.drop (k + 1)) (x.take k ++ [(i : Int)])).filter (sat p)) m).1
              have hb := Mem.beq (runY (yN gs) ((ext (p.Box.drop (k + 1)) (x.take k ++ [(i : Int)])).filter (sat p)) m).1 m
              rw [if_pos hgo]
              have hd : decide ((i : Int) < p.Box.getD k 0) = true := by simp only [decide_eq_true_eq]; omega
              have hw : IntKind.i64.wrap ((i : Int) + 1) = ((i + 1 : Nat) : Int) := by rw [i64 (by omega) (by omega)]; omega
              have cl : Nat.beq (List.length x1) (List.length y) = true := by rw [a1, hyl]; exact Nat.beq_refl _
              simp only [F.points_walk_6_l1, idx_nat (getD_of (l := y) (i := k) (by omega)), hyi, idx_nat (getD_of (l := p.Box) (i := k) hkl), Option.bind_some, hd, cond_true, ek, a4, cl, hb, Bool.not_true, cond_false, idx_nat (getD_of (l := x1) (i := k) (by omega)), h1k, hw, Int.toNat_natCast])
          (fun y m hyl hyi => by
            have hd : decide (((p.Box.getD k 0).toNat : Int) < p.Box.getD k 0) = false := by simp only [decide_eq_false_iff_not]; omega
            simp only [F.points_walk_6_l1, idx_nat (getD_of (l := y) (i := k) (by omega)), hyi, idx_nat (getD_of (l := p.Box) (i := k) hkl), Option.bind_some, hd, cond_false])
          (fu + 1) (x.set k 0) m (by rw [List.length_set]; exact hl) (fun z hz => by
            rcases List.mem_or_eq_of_mem_set hz with h | h
            · exact hr z h
            · subst h; omega)
          (by rw [List.take_set, List.set_eq_of_length_le (by omega)])
          (by rw [List.getD_eq_getElem?_getD, List.getElem?_set_self (by omega)]; rfl) (by omega)
        obtain ⟨x', b1, b2, b3, b4⟩ := hloop
        refine ⟨x', b1, b2, b3, ?_⟩
        have hdr : p.Box.drop k = p.Box.getD k 0 :: p.Box.drop (k + 1) := by
          rw [List.drop_eq_getElem_cons hkl, List.getD_eq_getElem?_getD, List.getElem?_eq_getElem hkl]; rfl
        rw [hdr, filter_ext_cons]
        try dsimp only at b4
        rw [if_pos (runN_go gs _ m).1] at b4
        rw [b4]
        rfl
end Go.DN
