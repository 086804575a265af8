/-
  Orders: the plain law: both strip alike.
-/
import Derived.Test.YtfkigaldejbeiaaOtR
set_option linter.unusedSectionVars false
set_option linter.unusedSimpArgs false
set_option linter.unusedVariables false
namespace Go.DN.Pl
open Go.AM Go.PL
structure Good (s : SStmt) : Prop where
 box : s.Over.Box.length ≤ 4
 ran : ∀ b ∈ s.Over.Box, 0 ≤ b ∧ b ≤ 4096
 rows : s.Over.Rows.length ≤ 8
 row : ∀ r ∈ s.Over.Rows, r.Coef.length = s.Over.Box.length
 put : s.Put.At.Coef.length = s.Over.Box.length
 get : ∀ a ∈ s.Get, a.At.Coef.length = s.Over.Box.length
theorem rowW_len {v : Nat} {r : SRow} (h : rowW v r = 0) : r.Coef.length = v := by
 unfold rowW at h
 split at h
 · omega
 · rename_i h1; omega
theorem accW_len {sz : Int} {v : Nat} {a : SAccess} (h : accW sz v a = 0) : a.At.Coef.length = v := by
 unfold accW at h
 split at h
 · omega
 · exact rowW_len h
theorem good_of {n : SNest} (h : wrongN n = 0) {s : SStmt} (hs : s ∈ n.Stmts) : Good s := by
  unfold wrongN at h
  split at h
  · omega
  · split at h
    · omega
    · have h1 := firstW_zero h s hs
      unfold stmtW at h1
      split at h1
      · rename_i h2; exact absurd h1 h2
      · rename_i h2
        have h2 : wrongP s.Over = 0 := by omega
        split at h1
        · omega
        · split at h1
          · omega
          · have h3 := firstW_zero h1
            unfold wrongP at h2
            split at h2
            · omega
            · rename_i hb
              split at h2
              · omega
              · rename_i hany
                split at h2
                · omega
                · split at h2
                  · omega
                  · rename_i hrows
                    have h4 := firstW_zero h2
                    refine ⟨by omega, fun b hb' => ?_, by omega, fun r hr => rowW_len (h4 r hr), accW_len (h3 _ List.mem_cons_self), fun a ha => accW_len (h3 a (List.mem_cons_of_mem _ ha))⟩
                    have := List.any_eq_false.1 (by simpa using hany) b hb'
                    simp [badB] at this
                    omega
def strips (b z : Int) : Int := (b + z - 1) / z
theorem strips_ran {b z : Int} (h1 : 0 ≤ b) (h2 : b ≤ 4096) (h3 : 1 ≤ z) (h4 : z ≤ 4096) : 0 ≤ strips b z ∧ strips b z ≤ 8192 := by
 unfold strips
 refine ⟨Int.ediv_nonneg (by omega) (by omega), ?_⟩
 have := Int.ediv_le_self z (show 0 ≤ b + z - 1 by omega)
 omega
def newBox (l : List Int) (k : Nat) (z : Int) : List Int := l.take k ++ [strips (l.getD k 0) z, z] ++ l.drop (k + 1)
def lastC (n k : Nat) (z : Int) : List Int := List.replicate k 0 ++ [-z, -1] ++ List.replicate (n - k - 1) 0
theorem set_two (a b : Int) : ∀ (k n : Nat), k < n → ((List.replicate (n + 1) (0 : Int)).set k a).set (k + 1) b = List.replicate k 0 ++ [a, b] ++ List.replicate (n - k - 1) 0
 | 0, n, h => by
  obtain ⟨m, rfl⟩ : ∃ m, n = m + 1 := ⟨n - 1, by omega⟩
  simp [List.replicate_succ]
 | k + 1, n, h => by
  obtain ⟨m, rfl⟩ : ∃ m, n = m + 1 := ⟨n - 1, by omega⟩
  have := set_two a b k m (by omega)
  rw [List.replicate_succ, List.set_cons_succ, List.set_cons_succ, this, List.replicate_succ (n := k)]
  simp only [List.cons_append]
  congr 3
  omega
theorem newBox_len {l : List Int} {k : Nat} {z : Int} (hk : k < l.length) : (newBox l k z).length = l.length + 1 := by
 unfold newBox
 simp only [List.length_append, List.length_take, List.length_cons, List.length_nil, List.length_drop]
 omega
theorem stripL_len {l : List Int} {k : Nat} {z : Int} (hk : k < l.length) : (stripL l k z).length = l.length + 1 := by
 unfold stripL
 simp only [List.length_append, List.length_take, List.length_cons, List.length_nil, List.length_drop]
 omega
def stripA (k : Nat) (z : Int) (a : SAccess) : SAccess := ⟨a.Array, stripR k z a.At⟩
def stripS (s : SStmt) (k : Nat) (z : Int) : SStmt :=
 ⟨⟨newBox s.Over.Box k z, s.Over.Rows.map (stripR k z) ++ [⟨lastC s.Over.Box.length k z, s.Over.Box.getD k 0 - 1⟩]⟩, s.Do, s.Value, stripA k z s.Put, s.Get.map (stripA k z)⟩
section
variable {s : SStmt} {k : Nat} {z : Int}
theorem stripS_sm (hs : Sm s) (hg : Good s) (hk : k < s.Over.Box.length) : Sm (stripS s k z) where
  box := by show (newBox _ _ _).length ≤ _; rw [newBox_len hk]; have := hg.box; omega
  rows := by
    show (s.Over.Rows.map (stripR k z) ++ [_]).length ≤ _
    have := hg.rows
    simp only [List.length_append, List.length_map, List.length_singleton]; omega
  row := fun r hr => by
    have hr : r ∈ s.Over.Rows.map (stripR k z) ++ [_] := hr
    have hb := hg.box
    rcases List.mem_append.1 hr with h | h
    · obtain ⟨r0, h1, rfl⟩ := List.mem_map.1 h
      show (stripL _ _ _).length ≤ _
      have := hg.row r0 h1
      rw [stripL_len (by omega)]; omega
    · simp at h
      subst h
      show (lastC _ _ _).length ≤ _
      unfold lastC
      simp only [List.length_append, List.length_replicate, List.length_cons, List.length_nil]
      omega
  put := by
    show (stripL _ _ _).length ≤ _
    have := hg.put
    have hb := hg.box
    rw [stripL_len (by omega)]; omega
  gets := by show (s.Get.map _).length ≤ _; rw [List.length_map]; exact hs.gets
  get := fun a ha => by
    obtain ⟨a0, h1, rfl⟩ := List.mem_map.1 ha
    show (stripL _ _ _).length ≤ _
    have := hg.get a0 h1
    have hb := hg.box
    rw [stripL_len (by omega)]; omega
variable {fu : Nat}
theorem p_rows (hs : Sm s) (hg : Good s) (hk : k < s.Over.Box.length) (hf : 4000000 < fu) (a : List Int) (b c d : Int) (e : List Int) (f : Int) :
  loopF (F.order_Strip_l1 fu k z s) fu (0, [], a, b, c, d, e, f) = some (s.Over.Rows.map (stripR k z), a, b, c, d, e, f) := by
 have hl := loop_acc (body := F.order_Strip_l1 fu k z s) s.Over.Rows (fun j => ((j : Int), (s.Over.Rows.take j).map (stripR k z), a, b, c, d, e, f)) (s.Over.Rows.map (stripR k z), a, b, c, d, e, f)
  (fun j x hx => by
   have hr := hg.rows
   have hw := wrap_succ (get_lt hx) (by omega)
   have hj := get_lt hx
   have hxl := hg.row x (List.mem_of_getElem? hx)
   have hb := hg.box
   have hc : ∀ y : SRow, chk (((s.Over.Rows.take j).map (stripR k z)).length + [y].length ≤ maxLen ∧ (((s.Over.Rows.take j).map (stripR k z)).length + [y].length) * 32 ≤ 140737488355328) = some () := fun y => chk_app (by rw [List.length_map, lenT hx]; simp only [List.length_singleton]; omega) (by rw [List.length_map, lenT hx]; simp only [List.length_singleton]; omega)
   simp only [F.order_Strip_l1, dec_lt hx, cond_true, idx_nat hx, Option.bind_some, hw, strip1_ok fu x k z (by omega) (by omega) (by omega), amb_self, amb2_self, hc, take_succ hx, List.map_append, List.map_cons, List.map_nil])
  (by simp only [F.order_Strip_l1, dec_end, cond_false, List.take_length]) fu (by have := hg.rows; omega)
 simpa using hl
theorem p_gets (hs : Sm s) (hg : Good s) (hk : k < s.Over.Box.length) (hf : 4000000 < fu) (a : List Int) (b c d : Int) (e : List Int) (f : Int) :
  loopF (F.order_Strip_l2 fu k z s) fu (0, [], a, b, c, d, e, f) = some (s.Get.map (stripA k z), a, b, c, d, e, f) := by
 have hl := loop_acc (body := F.order_Strip_l2 fu k z s) s.Get (fun j => ((j : Int), (s.Get.take j).map (stripA k z), a, b, c, d, e, f)) (s.Get.map (stripA k z), a, b, c, d, e, f)
  (fun j x hx => by
   have hr := hs.gets
   have hw := wrap_succ (get_lt hx) (by omega)
   have hj := get_lt hx
   have hxl := hg.get x (List.mem_of_getElem? hx)
   have hb := hg.box
   have hc : ∀ y : SAccess, chk (((s.Get.take j).map (stripA k z)).length + [y].length ≤ maxLen ∧ (((s.Get.take j).map (stripA k z)).length + [y].length) * 40 ≤ 140737488355328) = some () := fun y => chk_app (by rw [List.length_map, lenT hx]; simp only [List.length_singleton]; omega) (by rw [List.length_map, lenT hx]; simp only [List.length_singleton]; omega)
   simp only [F.order_Strip_l2, dec_lt hx, cond_true, idx_nat hx, Option.bind_some, hw, strip1_ok fu x.At k z (by omega) (by omega) (by omega), amb_self, amb2_self, hc, take_succ hx, List.map_append, List.map_cons, List.map_nil]
   rfl)
  (by simp only [F.order_Strip_l2, dec_end, cond_false, List.take_length]) fu (by have := hs.gets; omega)
 simpa using hl
theorem p_stmts {n : SNest} {i : Nat} {t : SStmt} (hn : SmN n) (hi : i < n.Stmts.length) (ht : Sm t) (hf : 4000000 < fu) (a : List Int) :
    loopF (F.order_Strip_l3 fu n i) fu (0, a, t.Over.Box, t.Over.Rows, t.Do, t.Value, t.Put.Array, t.Put.At.Coef, t.Put.At.Const, t.Get, []) = some (a, t.Over.Box, t.Over.Rows, t.Do, t.Value, t.Put.Array, t.Put.At.Coef, t.Put.At.Const, t.Get, n.Stmts.set i t) := by
  have hl := loop_acc (body := F.order_Strip_l3 fu n i) n.Stmts (fun j => ((j : Int), a, t.Over.Box, t.Over.Rows, t.Do, t.Value, t.Put.Array, t.Put.At.Coef, t.Put.At.Const, t.Get, (n.Stmts.set i t).take j)) (a, t.Over.Box, t.Over.Rows, t.Do, t.Value, t.Put.Array, t.Put.At.Coef, t.Put.At.Const, t.Get, n.Stmts.set i t)
    (fun j x hx => by
      have hr := hn.stmts
      have hw := wrap_succ (get_lt hx) (by omega)
      have hj := get_lt hx
      have hlt : ((n.Stmts.set i t).take j).length = j := by rw [List.length_take, List.length_set]; omega
      have hc : ∀ y : SStmt, chk (((n.Stmts.set i t).take j).length + [y].length ≤ maxLen ∧ (((n.Stmts.set i t).take j).length + [y].length) * 128 ≤ 140737488355328) = some () := fun y => chk_app (by rw [hlt]; simp only [List.length_singleton]; omega) (by rw [hlt]; simp only [List.length_singleton]; omega)
      by_cases h : j = i
      · subst h
        have hs : (n.Stmts.set j t)[j]? = some t := by rw [List.getElem?_set]; simp [hj]
        simp only [F.order_Strip_l3, dec_lt hx, cond_true, idx_nat hx, Option.bind_some, hw, beq_self_eq_true, own_ok fu t ht hf, amb_self, amb2_self, hc, take_succ hs]
      · have hb : ((j : Int) == (i : Int)) = false := by simp; omega
        have hs : (n.Stmts.set i t)[j]? = some x := by rw [List.getElem?_set, if_neg (by omega)]; exact hx
        simp only [F.order_Strip_l3, dec_lt hx, cond_true, idx_nat hx, Option.bind_some, hw, hb, cond_false, own_ok fu x (hn.stmt x (List.mem_of_getElem? hx)) hf, amb_self, amb2_self, hc, take_succ hs])
    (by
      have e : (n.Stmts.set i t).take n.Stmts.length = n.Stmts.set i t := List.take_of_length_le (by simp)
      simp only [F.order_Strip_l3, dec_end, cond_false, e]) fu (by have := hn.stmts; omega)
  simpa using hl
end
end Go.DN.Pl
