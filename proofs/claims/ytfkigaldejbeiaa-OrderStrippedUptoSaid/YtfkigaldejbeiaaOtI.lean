/-
  Nest: the plain law: memory copied and compared; the law.
-/
import Derived.Test.YtfkigaldejbeiaaOtH
set_option linter.unusedSectionVars false
set_option linter.unusedSimpArgs false
set_option linter.unusedVariables false
namespace Go.DN
open Go.AM
theorem setMid {α : Type} (l : List α) (k : Nat) (hk : k < l.length) (z : α) : (l.take k ++ List.replicate (l.length - k) z).set k l[k] = l.take (k + 1) ++ List.replicate (l.length - (k + 1)) z := by
 have h1 : (l.take k).length = k := by rw [List.length_take]; omega
 rw [List.set_append_right _ _ (by omega), h1, Nat.sub_self]
 obtain ⟨r, hr⟩ : ∃ r, l.length - k = r + 1 := ⟨l.length - k - 1, by omega⟩
 have : l.length - (k + 1) = r := by omega
 have e : l.take (k + 1) = l.take k ++ [l[k]] := by rw [List.take_add_one, List.getElem?_eq_getElem hk]; rfl
 rw [hr, List.replicate_succ, List.set_cons_zero, e, this, List.append_assoc]
 rfl
theorem fits_iff {n : SNest} {m : List (List Int)} (hl : m.length = n.Sizes.length) : Fits n m ↔ ∀ (k : Nat) (r : List Int) (z : Int), m[k]? = some r → n.Sizes[k]? = some z → (r.length : Int) = z := by
  constructor
  · intro h k r z h1 h2
    have h : m.map (fun r => (List.length r : Int)) = n.Sizes := h
    rw [← h, List.getElem?_map, h1] at h2
    exact Option.some.inj h2
  · intro h
    show m.map (fun r => (List.length r : Int)) = n.Sizes
    apply List.ext_getElem (by rw [List.length_map]; exact hl)
    intro k h1 h2
    rw [List.length_map] at h1
    rw [List.getElem_map]
    exact h k _ _ (List.getElem?_eq_getElem h1) (List.getElem?_eq_getElem h2)
theorem same_ok (fu : Nat) (a : List (List Int)) (hl : a.length ≤ 1048576) (hr : ∀ r ∈ a, r.length ≤ 65536) (hf : 2000000 < fu) : F.adjointref10_SameMemory fu a a = some true := by
 have hloop := loop_list (body := F.adjointref10_SameMemory_l2 fu a a) a (fun (_ : Unit) i => i) (fun _ r => some (.inl ())) (fun _ => Ex.brk ())
  (fun _ k r hk => by
   have hw := wrap_succ (get_lt hk) (by omega)
   have hrl := hr r (List.mem_of_getElem? hk)
   have b : ((r.length : Int) != (r.length : Int)) = false := by simp
   have hin := loop_list (body := F.adjointref10_SameMemory_l1 fu a a (k : Int) r) r (fun (_ : Unit) i => i) (fun _ x => some (.inl ())) (fun _ => Ex.brk ())
    (fun _ j x hj => by
     have hw := wrap_succ (get_lt hj) (by omega)
     have b : (x != x) = false := by simp
     simp only [F.adjointref10_SameMemory_l1, dec_lt hj, cond_true, idx_nat hk, idx_nat hj, Option.bind_some, b, cond_false, hw]
     rfl)
    (fun _ => by simp only [F.adjointref10_SameMemory_l1, dec_end, cond_false]) fu (by omega) ()
   rw [foldE_inl (fun _ _ => ())] at hin
   simp only [F.adjointref10_SameMemory_l2, dec_lt hk, cond_true, idx_nat hk, Option.bind_some, b, cond_false, hin, hw]
   rfl)
  (fun _ => by simp only [F.adjointref10_SameMemory_l2, dec_end, cond_false]) fu (by omega) ()
 rw [foldE_inl (fun _ _ => ())] at hloop
 have b : ((a.length : Int) != (a.length : Int)) = false := by simp
 unfold F.adjointref10_SameMemory
 simp only [b, cond_false]
 rw [hloop]; rfl
end Go.DN
