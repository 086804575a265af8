/-
  Arrays: the plain law: pairs.
-/
import Derived.Test.YtcbaolgciiieeaaAdU
set_option linter.unusedSectionVars false
set_option linter.unusedSimpArgs false
set_option linter.unusedVariables false
namespace Go.DN.Pl
open Go.AM Go.PL
def capW (m d : Int) : Int := if 65537 < IntKind.wrap .i64 (m * d) then 65537 else IntKind.wrap .i64 (m * d)
theorem natBeq (n : Nat) : Nat.beq n n = true := Nat.beq_refl n
theorem pair2_ok (fu : Nat) (ins d m3 m4 : List Int) (m5 m6 m7 m8 : Int) (m9 : List Int) (hd : d.length ≤ 4000000) (hi : ins.length ≤ 4000000) (h9 : m9.length ≤ 8000000) (hf : 4000000 < fu) :
  F.array_pair_2 fu ins d m3 m4 m5 m6 m7 m8 m9 = some (freeU ins d.length, m3, m4, m5, (keepU d ins d.length).foldl capW m6, m7, m8, m9 ++ keepU d ins d.length) := by
 unfold F.array_pair_2
 have h := loop_count (body := F.array_pair_2_l1 fu ins d) d.length (fun k => ((k : Int), m9 ++ keepU d ins k, m3, m4, m5, (keepU d ins k).foldl capW m6, m7, m8, freeU ins k)) (m9 ++ keepU d ins d.length, m3, m4, m5, (keepU d ins d.length).foldl capW m6, m7, m8, freeU ins d.length)
  (fun k hk => by
   have hx := get_atI hk
   have hw := wrap_succ hk (by omega)
   have hl := keepU_len d ins k
   have hl2 := freeU_len ins k
   simp only [F.array_pair_2_l1, dec_lt hx, cond_true, idx_nat hx, contains_ok fu ins _ hi hf, Option.bind_some, hw]
   rw [keepU_succ, show freeU ins (k + 1) = if hasB ins k then freeU ins k else freeU ins k ++ [(k : Int)] from rfl]
   cases hasB ins (k : Int) with
   | true => rfl
   | false =>
    simp only [Bool.not_false, cond_true, Bool.false_eq_true, if_false]
    rw [chk_app (by simp only [List.length_singleton]; omega) (by simp only [List.length_singleton]; omega), chk_app (by simp only [List.length_singleton, List.length_append]; omega) (by simp only [List.length_singleton, List.length_append]; omega)]
    simp only [Option.bind_some, F.array_pair_1_6, natBeq, cond_true, List.foldl_append, List.foldl_cons, List.foldl_nil, List.append_assoc]
    rfl)
  (by simp only [F.array_pair_2_l1, dec_end, cond_false]) fu (by omega)
 rw [show freeU ins 0 = [] from rfl, show keepU d ins 0 = [] from rfl, show ((0 : Nat) : Int) = 0 from rfl, List.append_nil, List.foldl_nil] at h
 simp only [h, Option.bind_some]
theorem pair22_ok (fu : Nat) (ins d m3 m4 : List Int) (m5 m6 m7 m8 : Int) (m9 : List Int) (hd : d.length ≤ 4000000) (hi : ins.length ≤ 4000000) (h9 : m9.length ≤ 8000000) (hf : 4000000 < fu) :
  F.array_pair_2_2 fu ins d m3 m4 m5 m6 m7 m8 m9 = some (freeU ins d.length, m3, m4, m5, m6, (keepU d ins d.length).foldl capW m7, m8, m9 ++ keepU d ins d.length) := by
 unfold F.array_pair_2_2
 have h := loop_count (body := F.array_pair_2_2_l1 fu ins d) d.length (fun k => ((k : Int), m9 ++ keepU d ins k, m3, m4, m5, m6, (keepU d ins k).foldl capW m7, m8, freeU ins k)) (m9 ++ keepU d ins d.length, m3, m4, m5, m6, (keepU d ins d.length).foldl capW m7, m8, freeU ins d.length)
  (fun k hk => by
   have hx := get_atI hk
   have hw := wrap_succ hk (by omega)
   have hl := keepU_len d ins k
   have hl2 := freeU_len ins k
   simp only [F.array_pair_2_2_l1, dec_lt hx, cond_true, idx_nat hx, contains_ok fu ins _ hi hf, Option.bind_some, hw]
   rw [keepU_succ, show freeU ins (k + 1) = if hasB ins k then freeU ins k else freeU ins k ++ [(k : Int)] from rfl]
   cases hasB ins (k : Int) with
   | true => rfl
   | false =>
    simp only [Bool.not_false, cond_true, Bool.false_eq_true, if_false]
    rw [chk_app (by simp only [List.length_singleton]; omega) (by simp only [List.length_singleton]; omega), chk_app (by simp only [List.length_singleton, List.length_append]; omega) (by simp only [List.length_singleton, List.length_append]; omega)]
    simp only [Option.bind_some, F.array_pair_1_9, natBeq, cond_true, List.foldl_append, List.foldl_cons, List.foldl_nil, List.append_assoc]
    rfl)
  (by simp only [F.array_pair_2_2_l1, dec_end, cond_false]) fu (by omega)
 rw [show freeU ins 0 = [] from rfl, show keepU d ins 0 = [] from rfl, show ((0 : Nat) : Int) = 0 from rfl, List.append_nil, List.foldl_nil] at h
 simp only [h, Option.bind_some]
theorem chosenL_get {d l : List Int} {k : Nat} {x : Int} (h : l[k]? = some x) : (chosenL d l)[k]? = some (atI d x.toNat) := by
 unfold chosenL; rw [List.getElem?_map, h]; rfl
theorem idx_in {d : List Int} {x : Int} (h : 0 ≤ x ∧ x < (d.length : Int)) : idx d x = some (atI d x.toNat) := by
 have := idx_nat (get_atI (l := d) (show x.toNat < d.length by omega))
 rwa [Int.toNat_of_nonneg h.1] at this
theorem takeC {d l : List Int} : (chosenL d l).take l.length = chosenL d l := by rw [← chosenL_len d l]; exact List.take_length
theorem pairL2_ok (fu : Nat) (op : SOp) (a : List Int) (ha : op.Lo.length ≤ 4000000) (hr : ∀ x ∈ op.Lo, 0 ≤ x ∧ x < (a.length : Int)) (hf : 4000000 < fu) :
  loopF (F.array_pair_l2 fu op a) fu (0, [], [], 1, 1, 1, 1, []) = some ([], [], (chosenL a op.Lo).foldl capW 1, 1, 1, 1, chosenL a op.Lo) := by
 have h := loop_acc (body := F.array_pair_l2 fu op a) op.Lo (fun k => ((k : Int), [], [], ((chosenL a op.Lo).take k).foldl capW 1, 1, 1, 1, (chosenL a op.Lo).take k)) ([], [], (chosenL a op.Lo).foldl capW 1, 1, 1, 1, chosenL a op.Lo)
  (fun k x hx => by
   have hw := wrap_succ (get_lt hx) (by omega)
   have hr := hr x (List.mem_of_getElem? hx)
   have hc := chosenL_get (d := a) hx
   have hl := lenT hc
   have := get_lt hx
   simp only [F.array_pair_l2, dec_lt hx, cond_true, idx_nat hx, Option.bind_some, hw, idx_in hr, amb_self, amb2_self, amb3_self, amb4_self]
   rw [chk_app (by simp only [List.length_singleton]; omega) (by simp only [List.length_singleton]; omega), take_succ hc]
   simp only [Option.bind_some, F.array_pair_1_3, natBeq, cond_true, List.foldl_append, List.foldl_cons, List.foldl_nil, amb_self, amb2_self, amb3_self, amb4_self]
   rfl)
  (by simp only [F.array_pair_l2, dec_end, cond_false, takeC]) fu (by omega)
 rw [List.take_zero, show ((0 : Nat) : Int) = 0 from rfl, List.foldl_nil] at h
 exact h
theorem pairL3_ok (fu : Nat) (op : SOp) (a m1 m2 : List Int) (m3 m4 m5 m6 : Int) (m7 : List Int) (ha : op.At.length ≤ 4000000) (hr : ∀ x ∈ op.At, 0 ≤ x ∧ x < (a.length : Int)) (hf : 4000000 < fu) :
  loopF (F.array_pair_l3 fu op a) fu (0, m1, m2, m3, m4, m5, m6, m7) = some (m1, m2, m3, m4, m5, (chosenL a op.At).foldl capW m6, m7) := by
 have h := loop_acc (body := F.array_pair_l3 fu op a) op.At (fun k => ((k : Int), m1, m2, m3, m4, m5, ((chosenL a op.At).take k).foldl capW m6, m7)) (m1, m2, m3, m4, m5, (chosenL a op.At).foldl capW m6, m7)
  (fun k x hx => by
   have hw := wrap_succ (get_lt hx) (by omega)
   have hr := hr x (List.mem_of_getElem? hx)
   have hc := chosenL_get (d := a) hx
   simp only [F.array_pair_l3, dec_lt hx, cond_true, idx_nat hx, Option.bind_some, hw, idx_in hr, amb_self, amb2_self, amb3_self, amb4_self]
   rw [take_succ hc]
   simp only [Option.bind_some, F.array_pair_1_12, natBeq, cond_true, List.foldl_append, List.foldl_cons, List.foldl_nil, amb_self, amb2_self, amb3_self, amb4_self]
   rfl)
  (by simp only [F.array_pair_l3, dec_end, cond_false, takeC]) fu (by omega)
 rw [List.take_zero, show ((0 : Nat) : Int) = 0 from rfl, List.foldl_nil] at h
 exact h
def sameD (a b l m : List Int) : Bool := decide (chosenL a l = chosenL b m)
theorem pairL1_ok (fu : Nat) (a b l m : List Int) (hlm : l.length = m.length) (hl : l.length ≤ 4000000) (hra : ∀ x ∈ l, 0 ≤ x ∧ x < (a.length : Int)) (hrb : ∀ x ∈ m, 0 ≤ x ∧ x < (b.length : Int)) (hf : 4000000 < fu) :
    loopF (F.array_pair_l1 fu a b l m) fu (0, [], [], [], 0, 0, 0, 0) = some (if sameD a b l m then Ex.brk ([], [], [], 0, 0, 0, 0) else Ex.ret (⟨[], [], [], 0, 0, 0, 0⟩, 6)) := by
  have h := loop_at (body := F.array_pair_l1 fu a b l m) l.length (fun k => ((k : Int), [], [], [], 0, 0, 0, 0)) (fun k => if atI (chosenL a l) k != atI (chosenL b m) k then some (Ex.ret (⟨[], [], [], 0, 0, 0, 0⟩, 6)) else none) (Ex.brk ([], [], [], 0, 0, 0, 0))
    (fun k hk _ => by
      have hx := get_atI hk
      have hy := get_atI (l := m) (show k < m.length by omega)
      have hw := wrap_succ hk (by omega)
      have h1 := hra _ (List.mem_of_getElem? hx)
      have h2 := hrb _ (List.mem_of_getElem? hy)
      simp only [F.array_pair_l1, dec_lt hx, cond_true, idx_nat hx, idx_nat hy, Option.bind_some, hw, idx_in h1, idx_in h2]
      rw [atI_get (chosenL_get (d := a) hx), atI_get (chosenL_get (d := b) hy)]
      cases atI a (atI l k).toNat != atI b (atI m k).toNat <;> rfl)
    (fun _ => by simp only [F.array_pair_l1, dec_end, cond_false]) fu (by omega)
  rw [show ((0 : Nat) : Int) = 0 from rfl] at h
  rw [h, findCst]
  have e : ((List.range l.length).any fun k => atI (chosenL a l) k != atI (chosenL b m) k) = !(sameD a b l m) := by
    rw [Bool.eq_iff_iff, Bool.not_eq_true']
    unfold sameD
    constructor
    · intro h
      obtain ⟨k, _, hk⟩ := List.any_eq_true.1 h
      rw [decide_eq_false_iff_not]
      intro e; rw [e] at hk; simp at hk
    · intro h
      rw [decide_eq_false_iff_not] at h
      apply Classical.byContradiction
      intro h2
      rw [Bool.not_eq_true, any_range] at h2
      apply h
      apply List.ext_getElem?
      intro i
      by_cases hi : i < l.length
      · have h3 := h2 i hi
        rw [get_atI (l := chosenL a l) (by rw [chosenL_len]; omega), get_atI (l := chosenL b m) (by rw [chosenL_len]; omega)]
        simp at h3; rw [h3]
      · rw [List.getElem?_eq_none (by rw [chosenL_len]; omega), List.getElem?_eq_none (by rw [chosenL_len]; omega)]
  rw [e]
  cases sameD a b l m <;> rfl
theorem sameD_app (a b l1 l2 m1 m2 : List Int) (h : l1.length = m1.length) : sameD a b (l1 ++ l2) (m1 ++ m2) = (sameD a b l1 m1 && sameD a b l2 m2) := by
 unfold sameD
 rw [Bool.eq_iff_iff, Bool.and_eq_true, decide_eq_true_iff, decide_eq_true_iff, decide_eq_true_iff]
 unfold chosenL
 rw [List.map_append, List.map_append]
 constructor
 · intro e; exact List.append_inj e (by simp [h])
 · rintro ⟨e1, e2⟩; rw [e1, e2]
def lensD (op : SOp) : Bool := ((op.At.length : Int) != op.Step.length) || ((op.Lo.length : Int) != op.Hi.length)
theorem lensD_eq {op : SOp} (h : lensD op = false) : op.At.length = op.Step.length ∧ op.Lo.length = op.Hi.length := by
 unfold lensD at h
 simp at h
 omega
def dotErr (op : SOp) (a b : List Int) : Bool :=
 lensD op || (!(onceB (op.At ++ op.Lo) a.length) || !(onceB (op.Step ++ op.Hi) b.length)) || (!(sameD a b op.At op.Step) || !(sameD a b op.Lo op.Hi))
def dotL (op : SOp) (a b : List Int) : List Int := chosenL a op.Lo ++ keepU a (op.At ++ op.Lo) a.length ++ keepU b (op.Step ++ op.Hi) b.length
def dotS (op : SOp) (a b : List Int) : List Int × Int := if dotErr op a b then ([], 6) else (dotL op a b, 0)
def okOp (op : SOp) : Prop := op.Dims.length ≤ 1048576 ∧ op.At.length ≤ 1048576 ∧ op.Lo.length ≤ 1048576 ∧ op.Hi.length ≤ 1048576 ∧ op.Step.length ≤ 1048576
theorem once_mem {l : List Int} {rank : Nat} (h : onceB l rank = true) : ∀ x ∈ l, 0 ≤ x ∧ x < (rank : Int) := (onceB_iff.1 h).1
theorem dotDims_ok (fu : Nat) (op : SOp) (a b : List Int) (ho : okOp op) (ha : a.length ≤ 1000000) (hb : b.length ≤ 1000000) (hf : 4000000 < fu) : F.adjointref2_dotDims fu op a b = some (dotS op a b) := by
 obtain ⟨_, o1, o2, o3, o4⟩ := ho
 unfold F.adjointref2_dotDims dotS dotErr
 rw [cc]
 simp only [Option.bind_some]
 rw [show (((op.At.length : Int) != op.Step.length) || ((op.Lo.length : Int) != op.Hi.length)) = lensD op from rfl]
 cases hlp : lensD op with
 | true => rfl
 | false =>
  obtain ⟨e1, e2⟩ := lensD_eq hlp
  have lA : (op.At ++ op.Lo).length ≤ 4000000 := by rw [List.length_append]; omega
  have lB : (op.Step ++ op.Hi).length ≤ 4000000 := by rw [List.length_append]; omega
  simp only [cond_false, both_ok fu op.At op.Lo (by omega) (by omega), both_ok fu op.Step op.Hi (by omega) (by omega), once_ok fu (op.At ++ op.Lo) a.length lA hf, once_ok fu (op.Step ++ op.Hi) b.length lB hf, Option.bind_some, cc, Bool.false_or]
  cases hoA : onceB (op.At ++ op.Lo) a.length with
  | false => rfl
  | true =>
  cases hoB : onceB (op.Step ++ op.Hi) b.length with
  | false => rfl
  | true =>
   have mA := once_mem hoA
   have mB := once_mem hoB
   have c1 := chosen_ok fu a op.At (by omega) (fun x hx => mA x (List.mem_append_left _ hx)) hf
   have c2 := chosen_ok fu a op.Lo (by omega) (fun x hx => mA x (List.mem_append_right _ hx)) hf
   have c3 := chosen_ok fu b op.Step (by omega) (fun x hx => mB x (List.mem_append_left _ hx)) hf
   have c4 := chosen_ok fu b op.Hi (by omega) (fun x hx => mB x (List.mem_append_right _ hx)) hf
   have k1 := keepU_len a (op.At ++ op.Lo) a.length
   have k2 := keepU_len b (op.Step ++ op.Hi) b.length
   have s1 := sameList_ok fu (chosenL a op.At) (chosenL b op.Step) (by rw [chosenL_len]; omega) hf
   have s2 := sameList_ok fu (chosenL a op.Lo) (chosenL b op.Hi) (by rw [chosenL_len]; omega) hf
   simp only [Bool.not_true, Bool.or_false, cond_false, c1, c2, c3, c4, s1, s2, Option.bind_some, amb_self, amb2_self, amb3_self, amb4_self, cc]
   rw [show decide (chosenL a op.At = chosenL b op.Step) = sameD a b op.At op.Step from rfl, show decide (chosenL a op.Lo = chosenL b op.Hi) = sameD a b op.Lo op.Hi from rfl, Bool.false_or]
   cases hs : (!(sameD a b op.At op.Step) || !(sameD a b op.Lo op.Hi)) with
   | true => rfl
   | false =>
    simp only [cond_false, free_ok fu a (op.At ++ op.Lo) (by omega) lA hf, free_ok fu b (op.Step ++ op.Hi) (by omega) lB hf, Option.bind_some, chosen_free fu a _ (by omega) hf, chosen_free fu b _ (by omega) hf,
     both_ok fu (chosenL a op.Lo) (keepU a (op.At ++ op.Lo) a.length) (by rw [chosenL_len]; omega) (by omega),
     both_ok fu (chosenL a op.Lo ++ keepU a (op.At ++ op.Lo) a.length) (keepU b (op.Step ++ op.Hi) b.length) (by rw [List.length_append, chosenL_len]; omega) (by omega)]
    rfl
theorem pair_full (fu : Nat) (op : SOp) (a b : List Int) (ho : okOp op) (ha : a.length ≤ 1000000) (hb : b.length ≤ 1000000) (hf : 4000000 < fu) :
  ∃ p, F.array_pair fu op a b = some (p, (dotS op a b).2) ∧ ((dotS op a b).2 = 0 → (p.dims = (dotS op a b).1 ∧ p.inner = (chosenL a op.At).foldl capW 1) ∧ p.turnA = op.Lo ++ (freeU (op.Lo ++ op.At) a.length ++ op.At) ∧ p.turnB = op.Hi ++ (freeU (op.Hi ++ op.Step) b.length ++ op.Step) ∧
   p.both = (chosenL a op.Lo).foldl capW 1 ∧ p.left = (keepU a (op.Lo ++ op.At) a.length).foldl capW 1 ∧ p.right = (keepU b (op.Hi ++ op.Step) b.length).foldl capW 1) := by
 obtain ⟨_, o1, o2, o3, o4⟩ := ho
 unfold F.array_pair dotS dotErr
 have f2 : ∀ x y : List Int, [x, y].flatten = x ++ y := fun x y => by simp
 have f3 : ∀ x y z : List Int, [x, y, z].flatten = x ++ (y ++ z) := fun x y z => by simp
 have n1 : Go.Proofs.Ytcbaolgciiieeaa.F.slices_Concat fu [op.Lo, op.At] = some (op.Lo ++ op.At) := by
  rw [concat_ok fu _ (by simp) (by rw [f2, List.length_append]; omega) (by omega), f2]
 have n2 : Go.Proofs.Ytcbaolgciiieeaa.F.slices_Concat fu [op.Hi, op.Step] = some (op.Hi ++ op.Step) := by
  rw [concat_ok fu _ (by simp) (by rw [f2, List.length_append]; omega) (by omega), f2]
 have lA : (op.Lo ++ op.At).length ≤ 4000000 := by rw [List.length_append]; omega
 have lB : (op.Hi ++ op.Step).length ≤ 4000000 := by rw [List.length_append]; omega
 simp only [n1, n2, Option.bind_some, amb_self, amb2_self, amb3_self, amb4_self, distinct_ok fu (op.Lo ++ op.At) a.length lA (by omega) hf, distinct_ok fu (op.Hi ++ op.Step) b.length lB (by omega) hf, cc]
 rw [onceB_comm op.Lo op.At, onceB_comm op.Hi op.Step]
 rw [show (((op.At.length : Int) != op.Step.length) || (((op.Lo.length : Int) != op.Hi.length) || (!(onceB (op.At ++ op.Lo) a.length) || !(onceB (op.Step ++ op.Hi) b.length)))) = (lensD op || (!(onceB (op.At ++ op.Lo) a.length) || !(onceB (op.Step ++ op.Hi) b.length))) by unfold lensD; simp only [Bool.or_assoc]]
 cases h1 : (lensD op || (!(onceB (op.At ++ op.Lo) a.length) || !(onceB (op.Step ++ op.Hi) b.length))) with
 | true => exact ⟨_, rfl, fun h => by simp at h⟩
 | false =>
  simp only [Bool.or_eq_false_iff, Bool.not_eq_false'] at h1
  obtain ⟨hlp, hoA, hoB⟩ := h1
  obtain ⟨e1, e2⟩ := lensD_eq hlp
  have mA := once_mem hoA
  have mB := once_mem hoB
  have q1 := pairL1_ok fu a b (op.Lo ++ op.At) (op.Hi ++ op.Step) (by rw [List.length_append, List.length_append]; omega) lA (fun x hx => mA x (List.mem_append.2 (List.mem_append.1 hx).symm)) (fun x hx => mB x (List.mem_append.2 (List.mem_append.1 hx).symm)) hf
  rw [sameD_app _ _ _ _ _ _ e2] at q1
  rw [cond_false, q1]
  rw [show (!(sameD a b op.At op.Step) || !(sameD a b op.Lo op.Hi)) = !(sameD a b op.Lo op.Hi && sameD a b op.At op.Step) by cases sameD a b op.At op.Step <;> cases sameD a b op.Lo op.Hi <;> rfl]
  cases hs : (sameD a b op.Lo op.Hi && sameD a b op.At op.Step) with
  | false => exact ⟨_, rfl, fun h => by simp at h⟩
  | true =>
   have k1 := keepU_len a (op.Lo ++ op.At) a.length
   have k2 := keepU_len b (op.Hi ++ op.Step) b.length
   have u1 := freeU_len (op.Lo ++ op.At) a.length
   have u2 := freeU_len (op.Hi ++ op.Step) b.length
   have n3 : Go.Proofs.Ytcbaolgciiieeaa.F.slices_Concat fu [op.Lo, freeU (op.Lo ++ op.At) a.length, op.At] = some (op.Lo ++ (freeU (op.Lo ++ op.At) a.length ++ op.At)) := by
    rw [concat_ok fu _ (by simp) (by rw [f3, List.length_append, List.length_append]; omega) (by omega), f3]
   have n4 : Go.Proofs.Ytcbaolgciiieeaa.F.slices_Concat fu [op.Hi, freeU (op.Hi ++ op.Step) b.length, op.Step] = some (op.Hi ++ (freeU (op.Hi ++ op.Step) b.length ++ op.Step)) := by
    rw [concat_ok fu _ (by simp) (by rw [f3, List.length_append, List.length_append]; omega) (by omega), f3]
   simp only [if_true, bindE, pairL2_ok fu op a (by omega) (fun x hx => mA x (List.mem_append_right _ hx)) hf, Option.bind_some,
    pair2_ok fu (op.Lo ++ op.At) a [] [] _ _ _ _ (chosenL a op.Lo) (by omega) lA (by rw [chosenL_len]; omega) hf,
    pair22_ok fu (op.Hi ++ op.Step) b [] [] _ _ _ _ (chosenL a op.Lo ++ keepU a (op.Lo ++ op.At) a.length) (by omega) lB (by rw [List.length_append, chosenL_len]; omega) hf,
    pairL3_ok fu op a _ _ _ _ _ _ _ (by omega) (fun x hx => mA x (List.mem_append_left _ hx)) hf, n3, n4, amb_self, amb2_self, amb3_self, amb4_self]
   refine ⟨_, rfl, fun _ => ⟨⟨?_, rfl⟩, rfl, rfl, rfl, rfl, rfl⟩⟩
   show chosenL a op.Lo ++ keepU a (op.Lo ++ op.At) a.length ++ keepU b (op.Hi ++ op.Step) b.length = dotL op a b
   rw [keepU_comm, keepU_comm b]; rfl
theorem pair_ok (fu : Nat) (op : SOp) (a b : List Int) (ho : okOp op) (ha : a.length ≤ 1000000) (hb : b.length ≤ 1000000) (hf : 4000000 < fu) :
  ∃ p, F.array_pair fu op a b = some (p, (dotS op a b).2) ∧ ((dotS op a b).2 = 0 → p.dims = (dotS op a b).1 ∧ p.inner = (chosenL a op.At).foldl capW 1) := by
 obtain ⟨p, h1, h2⟩ := pair_full fu op a b ho ha hb hf
 exact ⟨p, h1, fun h => (h2 h).1⟩
end Go.DN.Pl
