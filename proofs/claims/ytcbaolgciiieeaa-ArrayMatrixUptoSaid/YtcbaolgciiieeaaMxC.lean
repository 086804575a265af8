/-
  Arrays: the plain law of matrices: products.
-/
import Derived.Test.YtcbaolgciiieeaaMxB
set_option linter.unusedSectionVars false
set_option linter.unusedSimpArgs false
set_option linter.unusedVariables false
set_option maxRecDepth 20000
namespace Go.DN.Pl
open Go.AM Go.PL
def dotF (k : Nat) (a b : Nat → Int) : Int := (List.range k).foldl (fun s l => IntKind.i64.wrap (s + IntKind.i64.wrap (a l * b l))) 0
theorem dotF_succ (k : Nat) (a b : Nat → Int) : dotF (k + 1) a b = IntKind.i64.wrap (dotF k a b + IntKind.i64.wrap (a k * b k)) := by
 unfold dotF; rw [List.range_succ, List.foldl_append]; rfl
theorem dot1_ok (fu : Nat) (p : Spairing) (X Y : List Int) (i j k : Nat) (A B : Nat → Int) (v14 v17 : Int) (hk : k ≤ 65536)
  (hx : lpart (lpart X (IntKind.wrap .i64 ((IntKind.wrap .i64 ((IntKind.wrap .i64 (0 * p.left)) + v14)) * p.inner)) (X.length : Int)) 0 p.inner = (List.range k).map A)
  (hy : lpart (lpart Y (IntKind.wrap .i64 ((IntKind.wrap .i64 ((IntKind.wrap .i64 (0 * p.right)) + v17)) * p.inner)) (Y.length : Int)) 0 p.inner = (List.range k).map B) (hf : 4000000 < fu) :
  loopF (F.array_dot_l1 fu p X Y 0 v14 v17) fu (0, 0) = some (dotF k A B) := by
 have h := loop_acc (body := F.array_dot_l1 fu p X Y 0 v14 v17) ((List.range k).map A) (fun l => (dotF l A B, (l : Int))) (dotF k A B) (fun l x hl => by
  have hlt : l < k := by have := get_lt hl; rwa [List.length_map, List.length_range] at this
  have hxe : x = A l := by rw [List.getElem?_map, List.getElem?_range hlt] at hl; exact (Option.some.inj hl).symm
  have hyl : ((List.range k).map B)[l]? = some (B l) := by rw [List.getElem?_map, List.getElem?_range hlt]; rfl
  subst hxe
  simp only [F.array_dot_l1, hx, hy, dec_lt hl, cond_true, idx_nat hl, idx_nat hyl, Option.bind_some, dotF_succ, wrap_succ hlt (show k ≤ 9223372036854775807 by omega)])
  (by
   have e : ((List.range k).map A).length = k := by simp
   simp only [F.array_dot_l1, hx, dec_end, cond_false]
   rw [e]) fu (by rw [List.length_map, List.length_range]; omega)
 exact h
theorem w0 {v : Int} {i : Nat} (hi : i ≤ 65536) : IntKind.i64.wrap (IntKind.i64.wrap (0 * v) + (i : Int)) = (i : Int) := by
 rw [Int.zero_mul, i64 (n := 0) (by omega) (by omega), Int.zero_add, i64 (by omega) (by omega)]
theorem wij {i k : Nat} (h : i * k ≤ 65536) : IntKind.i64.wrap ((i : Int) * (k : Int)) = ((i * k : Nat) : Int) := by
 rw [← Int.natCast_mul, i64 (by omega) (by omega)]
theorem row_le {m i k : Nat} (hi : i < m) : i * k + k ≤ m * k := by
 have : (i + 1) * k ≤ m * k := Nat.mul_le_mul_right k hi
 rwa [Nat.add_mul, Nat.one_mul] at this
section
variable (fu : Nat) (tA tB dm : List Int) (m n k : Nat) (A B : Nat → Nat → Int) (d : List Int) (hm : m ≤ 4096) (hn : n ≤ 4096) (hk : k ≤ 4096) (hmk : m * k ≤ 65536) (hnk : n * k ≤ 65536) (hmn : m * n ≤ 65536) (hf : 4000000 < fu)
def pr (tA tB dm : List Int) (m n k : Nat) : Spairing := ⟨tA, tB, dm, 1, (m : Int), (n : Int), (k : Int)⟩
def outD (m n k : Nat) (A B : Nat → Nat → Int) : List Int := mk m n fun i j => dotF k (A i) (B j)
def stD (m n k : Nat) (A B : Nat → Nat → Int) (q : Nat) : List Int := (outD m n k A B).take q ++ (List.replicate (m * n) (0 : Int)).drop q
theorem outD_len : (outD m n k A B).length = (List.replicate (m * n) (0 : Int)).length := by unfold outD; rw [mk_len, List.length_replicate]
theorem part_row {m k i : Nat} {A : Nat → Nat → Int} (hi : i < m) (hmk : m * k ≤ 65536) (hi2 : i ≤ 65536) {v : Int} :
  lpart (lpart (mk m k A) (IntKind.wrap .i64 ((IntKind.wrap .i64 ((IntKind.wrap .i64 (0 * v)) + (i : Int))) * (k : Int))) ((mk m k A).length : Int)) 0 (k : Int) = (List.range k).map (A i) := by
 have h := row_le (k := k) hi
 rw [w0 hi2, wij (by omega), lpart_drop, lpart_take, mk_row hi]
include hm hn hk hmk hnk hmn hf in
theorem dot2_ok {i : Nat} (hi : i < m) : loopF (F.array_dot_l2 fu (pr tA tB dm m n k) (mk m k A) (mk n k B) 0 (i : Int)) fu (0, stD m n k A B (i * n), d) = some (stD m n k A B (i * n + n), d) := by
 have h := loop_at (body := F.array_dot_l2 fu (pr tA tB dm m n k) (mk m k A) (mk n k B) 0 (i : Int)) n (fun j => ((j : Int), stD m n k A B (i * n + j), d)) (fun _ => none) (stD m n k A B (i * n + n), d) (fun j hj _ => by
  have r1 := row_le (k := k) hi
  have r2 := row_le (k := k) hj
  have r3 := row_le (k := n) hi
  have r4 := row_lt hi hj
  have hq : (outD m n k A B)[i * n + j]? = some (dotF k (A i) (B j)) := mk_get (f := fun i j => dotF k (A i) (B j)) hi hj
  have hlen := outD_len m n k A B
  obtain ⟨y, hy⟩ := fill_idx (r := outD m n k A B) (l0 := List.replicate (m * n) (0 : Int)) (k := i * n + j) (by rw [List.length_replicate]; exact r4) hlen
  have hset := fill_set hq hlen
  have e1 : IntKind.wrap .i64 ((IntKind.wrap .i64 ((IntKind.wrap .i64 (0 * (n : Int))) + (j : Int))) * (k : Int)) = ((j * k : Nat) : Int) := by rw [w0 (by omega), wij (by omega)]
  have e2 : IntKind.wrap .i64 ((IntKind.wrap .i64 ((IntKind.wrap .i64 ((IntKind.wrap .i64 (0 * (m : Int))) + (i : Int))) * (n : Int))) + (j : Int)) = ((i * n + j : Nat) : Int) := by
   rw [w0 (by omega), wij (by omega), ← Int.natCast_add, i64 (by omega) (by omega)]
  have hyl : (mk n k B).length = n * k := mk_len n k B
  have c1 : chk ((0 : Int) ≤ ((j * k : Nat) : Int) ∧ ((j * k : Nat) : Int) ≤ ((mk n k B).length : Int)) = some () := chk_pos ⟨by omega, by rw [hyl]; omega⟩
  have c2 : chk ((0 : Int) ≤ (k : Int) ∧ (k : Int) ≤ ((lpart (mk n k B) ((j * k : Nat) : Int) ((mk n k B).length : Int)).length : Int)) = some () := chk_pos ⟨by omega, by
   rw [lpart_drop, List.length_drop, hyl]; omega⟩
  have hd1 := dot1_ok fu (pr tA tB dm m n k) (mk m k A) (mk n k B) i j k (A i) (B j) (i : Int) (j : Int) (by omega) (part_row hi hmk (by omega)) (part_row hj hnk (by omega)) hf
  have hy' : idx (stD m n k A B (i * n + j)) ((i * n + j : Nat) : Int) = some y := hy
  have hset' : (stD m n k A B (i * n + j)).set (i * n + j) (dotF k (A i) (B j)) = stD m n k A B (i * n + (j + 1)) := hset
  simp only [F.array_dot_l2, show (pr tA tB dm m n k).right = (n : Int) from rfl, show (pr tA tB dm m n k).left = (m : Int) from rfl, show (pr tA tB dm m n k).inner = (k : Int) from rfl, dec_true (show (j : Int) < (n : Int) by omega), cond_true, e1, e2, c1, c2, Option.bind_some, hd1, hy', Int.toNat_natCast, hset', wrap_succ hj (show n ≤ 9223372036854775807 by omega)])
  (fun _ => by simp only [F.array_dot_l2, show (pr tA tB dm m n k).right = (n : Int) from rfl, dec_false (show ¬ ((n : Int) < (n : Int)) by omega), cond_false]) fu (by omega)
 have hn0 : (List.range n).findSome? (fun _ => (none : Option (List Int × List Int))) = none := List.findSome?_eq_none_iff.2 fun _ _ => rfl
 rw [hn0] at h
 exact h
include hm hn hk hmk hnk hmn hf in
theorem dot3_ok : loopF (F.array_dot_l3 fu (pr tA tB dm m n k) (mk m k A) (mk n k B) 0) fu (0, List.replicate (m * n) (0 : Int), d) = some (outD m n k A B, d) := by
 have hlen := outD_len m n k A B
 have h := loop_at (body := F.array_dot_l3 fu (pr tA tB dm m n k) (mk m k A) (mk n k B) 0) m (fun i => ((i : Int), stD m n k A B (i * n), d)) (fun _ => none) (outD m n k A B, d) (fun i hi _ => by
  have r1 := row_le (k := k) hi
  have e1 : IntKind.wrap .i64 ((IntKind.wrap .i64 ((IntKind.wrap .i64 (0 * (m : Int))) + (i : Int))) * (k : Int)) = ((i * k : Nat) : Int) := by rw [w0 (by omega), wij (by omega)]
  have hxl : (mk m k A).length = m * k := mk_len m k A
  have c1 : chk ((0 : Int) ≤ ((i * k : Nat) : Int) ∧ ((i * k : Nat) : Int) ≤ ((mk m k A).length : Int)) = some () := chk_pos ⟨by omega, by rw [hxl]; omega⟩
  have c2 : chk ((0 : Int) ≤ (k : Int) ∧ (k : Int) ≤ ((lpart (mk m k A) ((i * k : Nat) : Int) ((mk m k A).length : Int)).length : Int)) = some () := chk_pos ⟨by omega, by
   rw [lpart_drop, List.length_drop, hxl]; omega⟩
  have hd2 := dot2_ok fu tA tB dm m n k A B d hm hn hk hmk hnk hmn hf hi
  have e2 : i * n + n = (i + 1) * n := by rw [Nat.add_mul, Nat.one_mul]
  rw [e2] at hd2
  simp only [F.array_dot_l3, show (pr tA tB dm m n k).left = (m : Int) from rfl, show (pr tA tB dm m n k).inner = (k : Int) from rfl, dec_true (show (i : Int) < (m : Int) by omega), cond_true, e1, c1, c2, Option.bind_some, hd2, wrap_succ hi (show m ≤ 9223372036854775807 by omega)])
  (fun _ => by
   have hdn := fill_done hlen
   rw [List.length_replicate] at hdn
   have hdn' : stD m n k A B (m * n) = outD m n k A B := hdn
   simp only [F.array_dot_l3, show (pr tA tB dm m n k).left = (m : Int) from rfl, dec_false (show ¬ ((m : Int) < (m : Int)) by omega), cond_false, hdn']) fu (by omega)
 have hn0 : (List.range m).findSome? (fun _ => (none : Option (List Int × List Int))) = none := List.findSome?_eq_none_iff.2 fun _ _ => rfl
 rw [hn0] at h
 have h' : loopF (F.array_dot_l3 fu (pr tA tB dm m n k) (mk m k A) (mk n k B) 0) fu (0, (outD m n k A B).take (0 * n) ++ (List.replicate (m * n) (0 : Int)).drop (0 * n), d) = some (outD m n k A B, d) := h
 rw [Nat.zero_mul, List.take_zero, List.drop_zero, List.nil_append] at h'
 exact h'
include hm hn hk hmk hnk hmn hf in
theorem dot4_ok : loopF (F.array_dot_l4 fu (pr tA tB dm m n k) (mk m k A) (mk n k B)) fu (0, List.replicate (m * n) (0 : Int), d) = some (outD m n k A B, d) := by
 obtain ⟨f, rfl⟩ : ∃ f, fu = f + 2 := ⟨fu - 2, by omega⟩
 have h3 := dot3_ok (f + 2) tA tB dm m n k A B d hm hn hk hmk hnk hmn hf
 have s1 : F.array_dot_l4 (f + 2) (pr tA tB dm m n k) (mk m k A) (mk n k B) (0, List.replicate (m * n) (0 : Int), d) = some (.inl (1, outD m n k A B, d)) := by
  simp only [F.array_dot_l4, show (pr tA tB dm m n k).both = 1 from rfl, show decide ((0 : Int) < 1) = true from rfl, cond_true, h3, Option.bind_some]
  rfl
 have s2 : F.array_dot_l4 (f + 2) (pr tA tB dm m n k) (mk m k A) (mk n k B) (1, outD m n k A B, d) = some (.inr (outD m n k A B, d)) := by
  simp only [F.array_dot_l4, show (pr tA tB dm m n k).both = 1 from rfl, show decide ((1 : Int) < 1) = false from rfl, cond_false]
 have : ∀ g, loopF (F.array_dot_l4 (f + 2) (pr tA tB dm m n k) (mk m k A) (mk n k B)) (g + 2) (0, List.replicate (m * n) (0 : Int), d) = some (outD m n k A B, d) := fun g => by
  simp only [loopF, s1, s2]
 exact this f
end
def dotOp : SOp := ⟨16, [], [1], [], [], [0], 0⟩
theorem dotOp_ok : okOp dotOp := ⟨by simp [dotOp], by simp [dotOp], by simp [dotOp], by simp [dotOp], by simp [dotOp]⟩
theorem capW_one {n : Nat} (h : n ≤ 4096) : capW 1 (n : Int) = (n : Int) := by
 unfold capW
 rw [Int.one_mul, i64 (by omega) (by omega), if_neg (by omega)]
theorem dotErr2 (m k k' n : Nat) : dotErr dotOp (d2 m k) (d2 k' n) = !(decide (k = k')) := by
  have h1 : onceB [1] 2 = true := by decide
  have h2 : onceB [0] 2 = true := by decide
  unfold dotErr lensD sameD
  show (false || (!(onceB [1] 2) || !(onceB [0] 2)) || (!(decide ([(k : Int)] = [(k' : Int)])) || !(decide (([] : List Int) = [])))) = _
  rw [h1, h2]
  by_cases h : k = k'
  · subst h; simp
  · have : ¬ ((k : Int) = (k' : Int)) := by omega
    simp [h, this]
theorem dotS2 (m k n : Nat) : dotS dotOp (d2 m k) (d2 k n) = (d2 m n, 0) := by
 unfold dotS
 rw [dotErr2]
 simp only [decide_true, Bool.not_true, Bool.false_eq_true, if_false]
 rfl
theorem dotS2_bad {m k k' n : Nat} (h : k ≠ k') : dotS dotOp (d2 m k) (d2 k' n) = ([], 6) := by
 unfold dotS
 rw [dotErr2, decide_eq_false h]
 rfl
theorem mk_zero (m n : Nat) : List.replicate (m * n) (0 : Int) = mk m n fun _ _ => 0 := by
 unfold mk
 rw [List.map_const', List.length_range]
theorem arrDot_ok (fu : Nat) {m k n : Nat} (A B : Nat → Nat → Int) (d : List Int) (ha : (sizeS (d2 m k)).2 = 0) (hb : (sizeS (d2 k n)).2 = 0) (hc : (sizeS (d2 m n)).2 = 0) (hf : 4000000 < fu) :
    F.array_dot fu dotOp (mat m k A) (mat k n B) d (List.replicate (m * n) 0) = some (mk m n fun i j => dotF k (A i) (fun l => B l j)) := by
  obtain ⟨hm, hk, hmk, _⟩ := size2 ha
  obtain ⟨_, hn, hkn, _⟩ := size2 hb
  obtain ⟨_, _, hmn, _⟩ := size2 hc
  obtain ⟨⟨tA, tB, dm, bo, le, ri, inn⟩, h1, h2⟩ := pair_full fu dotOp (d2 m k) (d2 k n) dotOp_ok (by simp [d2]) (by simp [d2]) hf
  rw [dotS2] at h1 h2
  obtain ⟨⟨_, e2⟩, e3, e4, e5, e6, e7⟩ := h2 rfl
  have f2 : inn = (k : Int) := e2.trans (capW_one hk)
  have f3 : tA = [0, 1] := e3
  have f4 : tB = [1, 0] := e4
  have f5 : bo = 1 := e5
  have f6 : le = (m : Int) := e6.trans (capW_one hm)
  have f7 : ri = (n : Int) := e7.trans (capW_one hn)
  clear e2 e3 e4 e5 e6 e7 h2
  subst f2; subst f3; subst f4; subst f5; subst f6; subst f7
  have t1 := turned_id fu (mat m k A) A rfl ha rfl hf
  have t2 := turned_ok fu (mat k n B) B rfl hb rfl hf
  have h4 := dot4_ok fu [0, 1] [1, 0] dm m n k A (fun j l => B l j) d hm hn hk hmk (by rw [Nat.mul_comm]; exact hkn) hmn hf
  have hc0 : (cond (((List.replicate (m * n) (0 : Int)).length : Int) == 0) (some true) (some ((k : Int) == 0))) = some (((List.replicate (m * n) (0 : Int)).length : Int) == 0 || (k : Int) == 0) := cc _ _
  unfold F.array_dot
  simp only [show (mat m k A).Dims = d2 m k from rfl, show (mat k n B).Dims = d2 k n from rfl, h1, Option.bind_some, t1, t2, hc0]
  cases hz : (((List.replicate (m * n) (0 : Int)).length : Int) == 0 || (k : Int) == 0) with
  | true =>
    simp only [cond_true]
    rw [Bool.or_eq_true] at hz
    rcases hz with hz | hz
    · have h0 : m * n = 0 := by
        rw [List.length_replicate] at hz
        have := eq_of_beq hz
        omega
      unfold mk
      rw [h0]; rfl
    · have h0 : k = 0 := by simpa using hz
      subst h0
      rw [mk_zero]
      rfl
  | false =>
    simp only [cond_false]
    have h4' : loopF (F.array_dot_l4 fu ⟨[0, 1], [1, 0], dm, 1, (m : Int), (n : Int), (k : Int)⟩ (mk m k A) (mk n k fun j l => B l j)) fu (0, List.replicate (m * n) (0 : Int), d) = some (outD m n k A (fun j l => B l j), d) := h4
    rw [h4']
    rfl
def badT (r : Option (SArray × Bool)) : Prop := ∃ x, r = some (x, false)
theorem times_bad (fu : Nat) (a b : SArray) (e : Int) (x : SArray) (h : F.array_Do fu dotOp [a, b] = some (x, e)) (he : e ≠ 0) : badT (F.adjointlaw2_times fu a b) := by
 refine ⟨x, ?_⟩
 unfold F.adjointlaw2_times
 have h' : F.array_Do fu (⟨16, ([] : List Int), [1], ([] : List Int), ([] : List Int), [0], 0⟩ : SOp) [a, b] = some (x, e) := h
 rw [h']
 simp [he]
theorem dot_fit (fu : Nat) {m k k' n : Nat} (ha : (sizeS (d2 m k)).2 = 0) (hb : (sizeS (d2 k' n)).2 = 0) (hf : 4000000 < fu) : F.array_fits fu dotOp [d2 m k, d2 k' n] = some 0 := by
 rw [fits_ok fu _ _ ⟨by simp, fun x hx => by simp at hx; rcases hx with h | h <;> rw [h] <;> simp [d2]⟩ hf]
 show some (if rightS 16 2 ≠ 0 then rightS 16 2 else firstW szE [d2 m k, d2 k' n]) = some 0
 rw [show rightS 16 2 = 0 from rfl, firstW_cons, firstW_cons]
 unfold szE
 rw [if_pos ha, if_pos hb]
 rfl
theorem times_mat (fu : Nat) {m k k' n : Nat} (A B : Nat → Nat → Int) (ha : (sizeS (d2 m k)).2 = 0) (hb : (sizeS (d2 k' n)).2 = 0) (hf : 4000000 < fu) :
    (k = k' ∧ (sizeS (d2 m n)).2 = 0 ∧ F.adjointlaw2_times fu (mat m k A) (mat k' n B) = some (mat m n fun i j => dotF k (A i) (fun l => B l j), true)) ∨ ((k ≠ k' ∨ (sizeS (d2 m n)).2 ≠ 0) ∧ badT (F.adjointlaw2_times fu (mat m k A) (mat k' n B))) := by
  have hfit := dot_fit fu ha hb hf
  have hRS := k_dot fu dotOp dotOp_ok hf rfl (d2 m k) (d2 k' n) [] (by simp [d2]) (by simp [d2]) hfit
  have hw : ∀ x ∈ [mat m k A, mat k' n B], wrongA x = 0 := fun x hx => by
    simp at hx
    rcases hx with h | h <;> rw [h]
    · exact mat_right ha
    · exact mat_right hb
  by_cases hk : k = k'
  · subst hk
    rw [dotS2] at hRS
    by_cases hc : (sizeS (d2 m n)).2 = 0
    · refine .inl ⟨rfl, hc, ?_⟩
      have hD : F.array_Dims fu dotOp (List.map (·.Dims) [mat m k A, mat k n B]) = some (d2 m n, 0) := by
        show F.array_Dims fu dotOp [d2 m k, d2 k n] = _
        rw [hRS.1]
        unfold finS
        rw [if_neg (by simp), if_neg (by simpa using hc)]
      obtain ⟨_, _, _, hsz⟩ := size2 hc
      have hzl : (sizeS (d2 m n)).1.toNat = m * n := by rw [hsz]; omega
      have hdot := arrDot_ok fu A B (d2 m n) ha hb hc hf
      have hbq : Nat.beq (List.length (mk m n fun i j => dotF k (A i) (fun l => B l j))) (List.length (List.replicate (m * n) (0 : Int))) = true := by rw [mk_len, List.length_replicate]; exact Nat.beq_refl _
      have hF : F.array_fill fu dotOp [mat m k A, mat k n B] (d2 m n) (List.replicate (sizeS (d2 m n)).1.toNat 0) = some (mk m n fun i j => dotF k (A i) (fun l => B l j)) := by
        rw [hzl]
        unfold F.array_fill
        simp only [show dotOp.Kind = 16 from rfl, Int.reduceBEq, cond_true, cond_false, Option.bind_some, idx0, idx1, hdot, hbq]
      have hDo := do_good fu dotOp [mat m k A, mat k n B] (d2 m n) _ (by simp) hw rfl hD hc hF (by rw [mk_len, hzl]) hf
      unfold F.adjointlaw2_times
      have h' : F.array_Do fu (⟨16, ([] : List Int), [1], ([] : List Int), ([] : List Int), [0], 0⟩ : SOp) [mat m k A, mat k n B] = _ := hDo
      rw [h']
      rfl
    · refine .inr ⟨.inr hc, ?_⟩
      have hD : F.array_Dims fu dotOp (List.map (·.Dims) [mat m k A, mat k n B]) = some ([], (sizeS (d2 m n)).2) := by
        show F.array_Dims fu dotOp [d2 m k, d2 k n] = _
        rw [hRS.1]
        unfold finS
        rw [if_neg (by simp), if_pos (by simpa using hc)]
      exact times_bad fu _ _ _ _ (do_bad fu dotOp [mat m k A, mat k n B] [] _ (by simp) hw rfl hD hc hf) hc
  · refine .inr ⟨.inl hk, ?_⟩
    rw [dotS2_bad hk] at hRS
    have hD : F.array_Dims fu dotOp (List.map (·.Dims) [mat m k A, mat k' n B]) = some ([], 6) := by
      show F.array_Dims fu dotOp [d2 m k, d2 k' n] = _
      rw [hRS.1]
      rfl
    exact times_bad fu _ _ _ _ (do_bad fu dotOp [mat m k A, mat k' n B] [] 6 (by simp) hw rfl hD (by simp) hf) (by simp)
theorem times_wrong (fu : Nat) (a b : SArray) (ha : a.Dims.length ≤ 4000000) (hb : b.Dims.length ≤ 4000000) (h : wrongA a ≠ 0 ∨ wrongA b ≠ 0) (hf : 4000000 < fu) : badT (F.adjointlaw2_times fu a b) := by
 have hne : firstW wrongA [a, b] ≠ 0 := fun h0 => by
  have := firstW_zero h0
  rcases h with h | h
  · exact h (this a (by simp))
  · exact h (this b (by simp))
 exact times_bad fu a b _ _ (do_wrong fu dotOp [a, b] (by simp) (fun x hx => by simp at hx; rcases hx with h | h <;> rw [h] <;> assumption) rfl hne hf) hne
end Go.DN.Pl
