/-
  Arrays: the plain law of matrices: what is gathered.
-/
import Derived.Test.YtcbaolgciiieeaaRgA
set_option linter.unusedSectionVars false
set_option linter.unusedSimpArgs false
set_option linter.unusedVariables false
set_option maxRecDepth 20000
namespace Go.DN.Pl
open Go.AM Go.PL
def mk (m n : Nat) (f : Nat → Nat → Int) : List Int := (List.range (m * n)).map fun p => f (p / n) (p % n)
theorem mk_len (m n : Nat) (f : Nat → Nat → Int) : (mk m n f).length = m * n := by unfold mk; simp
theorem row_lt {m n i j : Nat} (hi : i < m) (hj : j < n) : i * n + j < m * n := by
 have : (i + 1) * n ≤ m * n := Nat.mul_le_mul_right n hi
 rw [Nat.add_mul, Nat.one_mul] at this
 omega
theorem row_div {n i j : Nat} (hj : j < n) : (i * n + j) / n = i ∧ (i * n + j) % n = j := by
 have h0 : 0 < n := by omega
 refine ⟨?_, ?_⟩
 · rw [Nat.mul_comm, Nat.mul_add_div h0, Nat.div_eq_of_lt hj, Nat.add_zero]
 · rw [Nat.mul_comm, Nat.mul_add_mod, Nat.mod_eq_of_lt hj]
theorem mk_get {m n : Nat} {f : Nat → Nat → Int} {i j : Nat} (hi : i < m) (hj : j < n) : (mk m n f)[i * n + j]? = some (f i j) := by
 have h := row_lt hi hj
 obtain ⟨h1, h2⟩ := row_div (i := i) hj
 unfold mk
 rw [List.getElem?_map, List.getElem?_range h]
 simp only [Option.map_some, h1, h2]
theorem mk_ext {m n : Nat} {f g : Nat → Nat → Int} (h : ∀ i j, i < m → j < n → f i j = g i j) : mk m n f = mk m n g := by
 unfold mk
 apply List.map_congr_left
 intro p hp
 have hp := List.mem_range.1 hp
 have hn : 0 < n := by
  rcases Nat.eq_zero_or_pos n with h0 | h0
  · rw [h0, Nat.mul_zero] at hp; omega
  · exact h0
 exact h _ _ (Nat.div_lt_of_lt_mul (by rw [Nat.mul_comm]; exact hp)) (Nat.mod_lt _ hn)
theorem mk_of {l : List Int} {m n : Nat} (h : l.length = m * n) : l = mk m n fun i j => l.getD (i * n + j) 0 := by
  apply List.ext_getElem?
  intro p
  unfold mk
  rw [List.getElem?_map]
  by_cases hp : p < m * n
  · rw [List.getElem?_range hp, Option.map_some, List.getElem?_eq_getElem (by omega)]
    congr 1
    show l[p] = l.getD (p / n * n + p % n) 0
    rw [Nat.mul_comm, Nat.div_add_mod, List.getD_eq_getElem?_getD, List.getElem?_eq_getElem (by omega)]
    rfl
  · rw [List.getElem?_eq_none (by omega), List.getElem?_eq_none (by rw [List.length_range]; omega)]; rfl
theorem mk_row {m n : Nat} {f : Nat → Nat → Int} {i : Nat} (hi : i < m) : ((mk m n f).drop (i * n)).take n = (List.range n).map (f i) := by
  apply List.ext_getElem?
  intro j
  by_cases hj : j < n
  · rw [List.getElem?_take, if_pos hj, List.getElem?_drop, mk_get hi hj, List.getElem?_map, List.getElem?_range hj]
    rfl
  · have h1 : (((mk m n f).drop (i * n)).take n).length ≤ j := by rw [List.length_take]; omega
    rw [List.getElem?_eq_none h1, List.getElem?_eq_none (by rw [List.length_map, List.length_range]; omega)]
theorem flat_range {α : Type} (g : Nat → Nat → α) (n : Nat) : ∀ m : Nat, ((List.range m).flatMap fun i => (List.range n).map (g i)) = (List.range (m * n)).map fun p => g (p / n) (p % n)
 | 0 => by simp
 | m + 1 => by
  rw [List.range_succ, List.flatMap_append, flat_range g n m, Nat.add_mul, Nat.one_mul, List.range_add, List.map_append]
  congr 1
  rw [List.flatMap_cons, List.flatMap_nil, List.append_nil, List.map_map]
  apply List.map_congr_left
  intro j hj
  have hj := List.mem_range.1 hj
  obtain ⟨h1, h2⟩ := row_div (i := m) hj
  simp only [Function.comp_apply, h1, h2]
def rdF (x : Int) (t : Int) (n : Nat) : List Int := (List.range n).map fun (j : Nat) => IntKind.i64.wrap (x + IntKind.i64.wrap ((j : Int) * t))
theorem rdF_len (x t : Int) (n : Nat) : (rdF x t n).length = n := by unfold rdF; simp
theorem rdF_succ (x t : Int) (n : Nat) : rdF x t (n + 1) = rdF x t n ++ [IntKind.i64.wrap (x + IntKind.i64.wrap ((n : Int) * t))] := by
 unfold rdF; rw [List.range_succ, List.map_append]; rfl
theorem reads1_ok (fu : Nat) (v : SView) (k : Nat) (d : Nat) (t x : Int) (m : List Int) (ht : v.Steps[k]? = some t) (hd : d ≤ 65536) (hm : m.length ≤ 1000000000) (hf : 4000000 < fu) :
  loopF (F.view_Reads_l1 fu v (k : Int) (d : Int) x) fu (0, m) = some (m ++ rdF x t d) := by
 have h := loop_at (body := F.view_Reads_l1 fu v (k : Int) (d : Int) x) d (fun j => ((j : Int), m ++ rdF x t j)) (fun _ => none) (m ++ rdF x t d) (fun j hj _ => by
  have hl := rdF_len x t j
  have hc : ∀ y : Int, chk ((m ++ rdF x t j).length + [y].length ≤ maxLen ∧ ((m ++ rdF x t j).length + [y].length) * 8 ≤ 140737488355328) = some () := fun y =>
   chk_app (by simp only [List.length_append, List.length_singleton]; omega) (by simp only [List.length_append, List.length_singleton]; omega)
  simp only [F.view_Reads_l1, dec_true (show (j : Int) < (d : Int) by omega), cond_true, idx_nat ht, Option.bind_some, hc, wrap_succ hj (show d ≤ 9223372036854775807 by omega), rdF_succ, List.append_assoc])
  (fun _ => by simp only [F.view_Reads_l1, dec_false (show ¬ ((d : Int) < (d : Int)) by omega), cond_false]) fu (by omega)
 have hn : (List.range d).findSome? (fun _ => (none : Option (List Int))) = none := List.findSome?_eq_none_iff.2 fun _ _ => rfl
 rw [hn, show rdF x t 0 = [] from rfl, List.append_nil] at h
 exact h
theorem reads2_ok (fu : Nat) (v : SView) (l : List Int) (k : Nat) (d : Nat) (t : Int) (ht : v.Steps[k]? = some t) (hd : d ≤ 4096) (hl : l.length ≤ 65536) (hf : 4000000 < fu) :
  loopF (F.view_Reads_l2 fu v l (k : Int) (d : Int)) fu (0, []) = some (l.flatMap fun x => rdF x t d) := by
 have hlen : ∀ i, ((l.take i).flatMap fun x => rdF x t d).length = (l.take i).length * d := fun i => by
  induction l.take i with
  | nil => simp
  | cons a r ih => rw [List.flatMap_cons, List.length_append, rdF_len, ih, List.length_cons, Nat.add_mul, Nat.one_mul, Nat.add_comm]
 have h := loop_acc (body := F.view_Reads_l2 fu v l (k : Int) (d : Int)) l (fun i => ((i : Int), (l.take i).flatMap fun x => rdF x t d)) (l.flatMap fun x => rdF x t d) (fun i x hx => by
  have h1 := hlen i
  have h2 : (l.take i).length ≤ 65536 := by rw [List.length_take]; omega
  have h3 : (l.take i).length * d ≤ 65536 * 4096 := Nat.mul_le_mul h2 hd
  simp only [F.view_Reads_l2, dec_lt hx, cond_true, idx_nat hx, Option.bind_some, reads1_ok fu v k d t x _ ht (by omega) (by rw [h1]; omega) hf, wrap_succ (get_lt hx) (show l.length ≤ 9223372036854775807 by omega)]
  rw [take_succ hx, List.flatMap_append, List.flatMap_cons, List.flatMap_nil, List.append_nil])
  (by simp only [F.view_Reads_l2, dec_end, cond_false, List.take_length]) fu (by omega)
 exact h
def reads2 (s t0 t1 : Int) (m n : Nat) : List Int := (rdF s t0 m).flatMap fun x => rdF x t1 n
theorem reads_ok (fu : Nat) (s t0 t1 : Int) (m n : Nat) (hw : wrongS ⟨s, [(m : Int), (n : Int)], [t0, t1]⟩ = 0) (hm : m ≤ 4096) (hn : n ≤ 4096) (hf : 4000000 < fu) :
  F.view_Reads fu ⟨s, [(m : Int), (n : Int)], [t0, t1]⟩ = some (reads2 s t0 t1 m n, 0) := by
 unfold F.view_Reads
 rw [wrong_ok fu _ (by simp) (by simp) hf, hw]
 simp only [Option.bind_some, bne_false, cond_false]
 have hmk : ∀ (l : List Int) (d : Nat), l.length ≤ 65536 → d ≤ 4096 → IntKind.i64.wrap ((l.length : Int) * (d : Int)) = (l.length : Int) * (d : Int) ∧ chk ((0 : Int) ≤ 0 ∧ 0 ≤ (l.length : Int) * (d : Int) ∧ ((8 : Nat) : Int) * ((l.length : Int) * (d : Int)) ≤ 281474976710656 ∧ (l.length : Int) * (d : Int) ≤ 9223372036854775807) = some () := fun l d h1 h2 => by
  have h3 : l.length * d ≤ 65536 * 4096 := Nat.mul_le_mul h1 h2
  have h4 : (l.length : Int) * (d : Int) = ((l.length * d : Nat) : Int) := by simp
  rw [h4]
  exact ⟨i64 (by omega) (by omega), chk_pos ⟨by omega, by omega, by omega, by omega⟩⟩
 have e1 := hmk [s] m (by simp) hm
 have e2 := hmk (rdF s t0 m) n (by rw [rdF_len]; omega) hn
 have q1 := reads2_ok fu ⟨s, [(m : Int), (n : Int)], [t0, t1]⟩ [s] 0 m t0 rfl hm (by simp) hf
 rw [List.flatMap_cons, List.flatMap_nil, List.append_nil] at q1
 have q2 := reads2_ok fu ⟨s, [(m : Int), (n : Int)], [t0, t1]⟩ (rdF s t0 m) 1 n t1 rfl hn (by rw [rdF_len]; omega) hf
 have h := loop_acc (body := F.view_Reads_l3 fu ⟨s, [(m : Int), (n : Int)], [t0, t1]⟩) [(m : Int), (n : Int)] (fun k => (match k with | 0 => [s] | 1 => rdF s t0 m | _ => reads2 s t0 t1 m n, (k : Int))) (reads2 s t0 t1 m n) (fun k x hx => by
  match k, hx with
  | 0, hx =>
   cases hx
   simp only [F.view_Reads_l3, show ((0 : Nat) : Int) = 0 from rfl, show decide ((0 : Int) < (([(m : Int), (n : Int)] : List Int).length : Int)) = true from rfl, cond_true, idx0, Option.bind_some, e1.1, e1.2]
   have q1' : loopF (F.view_Reads_l2 fu ⟨s, [(m : Int), (n : Int)], [t0, t1]⟩ [s] 0 (m : Int)) fu (0, List.replicate (Int.toNat 0) (0 : Int)) = some (rdF s t0 m) := q1
   rw [q1']
   rfl
  | 1, hx =>
   cases hx
   simp only [F.view_Reads_l3, show ((1 : Nat) : Int) = 1 from rfl, show decide ((1 : Int) < (([(m : Int), (n : Int)] : List Int).length : Int)) = true from rfl, cond_true, idx1, Option.bind_some, e2.1, e2.2]
   have q2' : loopF (F.view_Reads_l2 fu ⟨s, [(m : Int), (n : Int)], [t0, t1]⟩ (rdF s t0 m) 1 (n : Int)) fu (0, List.replicate (Int.toNat 0) (0 : Int)) = some (reads2 s t0 t1 m n) := q2
   rw [q2']
   rfl
  | k + 2, hx => simp at hx)
  (by simp only [F.view_Reads_l3, dec_end, cond_false]; rfl) fu (by simp; omega)
 have h' : loopF (F.view_Reads_l3 fu ⟨s, [(m : Int), (n : Int)], [t0, t1]⟩) fu ([s], 0) = some (reads2 s t0 t1 m n) := h
 rw [h']
 rfl
theorem gather_fill (fu : Nat) (src r z : List Int) (out : List Int) (v : SView) (hr : F.view_Reads fu v = some (r, 0)) (hl : r.length = z.length) (hol : out.length = z.length) (hz : z.length ≤ 65536) (hg : ∀ (k : Nat) p, r[k]? = some p → ∃ y, idx src p = some y ∧ out[k]? = some y) (hf : 4000000 < fu) :
  F.array_gather fu v src z = some out := by
 unfold F.array_gather
 rw [hr]
 simp only [Option.bind_some]
 have h := loop_acc (body := F.array_gather_l1 fu src r) r (fun k => ((k : Int), out.take k ++ z.drop k)) out (fun k p hp => by
  obtain ⟨y, h1, h2⟩ := hg k p hp
  have hk := get_lt hp
  obtain ⟨w, hw⟩ := fill_idx (r := out) (l0 := z) (k := k) (by omega) hol
  simp only [F.array_gather_l1, dec_lt hp, cond_true, idx_nat hp, Option.bind_some, h1, hw, Int.toNat_natCast, fill_set h2 hol, wrap_succ hk (show r.length ≤ 9223372036854775807 by omega)])
  (by
   have := fill_done hol
   simp only [F.array_gather_l1, dec_end, cond_false, hl, this]) fu (by omega)
 have h' : loopF (F.array_gather_l1 fu src r) fu (0, z) = some out := by simpa using h
 rw [h']
 rfl
end Go.DN.Pl
