/-
  Arrays: the plain law of what operations do: sums, differences and products of entries.
-/
import Derived.Test.YtcbaolgciiieeaaGreatAeE
set_option linter.unusedSectionVars false
set_option linter.unusedSimpArgs false
set_option linter.unusedVariables false
set_option maxRecDepth 20000
namespace Go.DN.Pl
open Go.AM Go.PL
theorem fill_set {α : Type} {r l0 : List α} {k : Nat} {x : α} (h : r[k]? = some x) (hl : r.length = l0.length) : (r.take k ++ l0.drop k).set k x = r.take (k + 1) ++ l0.drop (k + 1) := by
 have hk := get_lt h
 rw [List.set_append, lenT h, if_neg (Nat.lt_irrefl k), Nat.sub_self, take_succ h, List.append_assoc]
 congr 1
 rw [List.drop_eq_getElem_cons (show k < l0.length by omega)]
 rfl
theorem fill_idx {α : Type} {r l0 : List α} {k : Nat} (hk : k < l0.length) (hl : r.length = l0.length) : ∃ y, idx (r.take k ++ l0.drop k) (k : Int) = some y := by
 have h : k < (r.take k ++ l0.drop k).length := by rw [List.length_append, List.length_take, List.length_drop]; omega
 exact ⟨_, idx_nat (List.getElem?_eq_getElem h)⟩
theorem fill_done {α : Type} {r l0 : List α} (hl : r.length = l0.length) : r.take l0.length ++ l0.drop l0.length = r := by
 rw [← hl, List.take_length, hl, List.drop_length, List.append_nil]
def wrongA (a : SArray) : Int := if (sizeS a.Dims).2 = 0 then (if (sizeS a.Dims).1 = (a.Data.length : Int) then 0 else 6) else (sizeS a.Dims).2
theorem wrongA_ok (fu : Nat) (a : SArray) (ha : a.Dims.length ≤ 4000000) (hf : 4000000 < fu) : F.array_Wrong fu a = some (wrongA a) := by
  unfold F.array_Wrong wrongA
  simp only [size_ok fu a.Dims ha hf, Option.bind_some]
  by_cases h : (sizeS a.Dims).2 = 0
  · rw [if_pos h, h, show ((0 : Int) == 0) = true from rfl, cond_true]
    by_cases h2 : (sizeS a.Dims).1 = (a.Data.length : Int)
    · rw [bne_false h2, if_pos h2]; rfl
    · rw [bne_true h2, if_neg h2]; rfl
  · rw [if_neg h, show ((sizeS a.Dims).2 == 0) = false by simp [h]]
    rfl
theorem wrongA_zero {a : SArray} (h : wrongA a = 0) : (sizeS a.Dims).2 = 0 ∧ (sizeS a.Dims).1 = (a.Data.length : Int) := by
  unfold wrongA at h
  split at h
  · rename_i h1
    split at h
    · rename_i h2; exact ⟨h1, h2⟩
    · exact absurd h (by simp)
  · rename_i h1; exact absurd h h1
theorem wrongA_of {a : SArray} (h1 : (sizeS a.Dims).2 = 0) (h2 : (sizeS a.Dims).1 = (a.Data.length : Int)) : wrongA a = 0 := by
 unfold wrongA; rw [if_pos h1, if_pos h2]
theorem size_ran' {d : List Int} (h : (sizeS d).2 = 0) : 0 ≤ (sizeS d).1 ∧ (sizeS d).1 ≤ 65536 := by
  unfold sizeS at h ⊢
  split
  · simp
  · rename_i h1
    rw [if_neg h1] at h
    split
    · simp
    · rename_i h2
      rw [if_neg h2] at h
      split
      · simp
      · rename_i h3
        rw [if_neg h3] at h
        split
        · simp
        · rename_i h4
          have hd : d.any badD = false := by simpa using h2
          have hg := good_dims hd
          have hm : ∀ x ∈ d, 1 ≤ x := fun x hx => by
            have h5 := hg x hx
            by_cases h0 : x = 0
            · exact absurd (hasB_mem.2 (h0 ▸ hx)) h3
            · omega
          have := prodF_mono d 1 (by omega) hm
          refine ⟨?_, ?_⟩
          · show (0 : Int) ≤ prodF 1 d; omega
          · show prodF 1 d ≤ 65536; omega
def nilA : SArray := ⟨[], []⟩
theorem do_dims (fu : Nat) (args : List SArray) (hl : args.length ≤ 1048576) (hf : 4000000 < fu) : loopF (F.array_Do_l1 fu args) fu (0, List.replicate args.length ([] : List Int)) = some (args.map (·.Dims)) := by
 have hml : (args.map (·.Dims)).length = (List.replicate args.length ([] : List Int)).length := by rw [List.length_map, List.length_replicate]
 have h1 := loop_acc (body := F.array_Do_l1 fu args) args (fun k => ((k : Int), (args.map (·.Dims)).take k ++ (List.replicate args.length ([] : List Int)).drop k)) (args.map (·.Dims)) (fun k x hx => by
  have hk := get_lt hx
  have hx' : (args.map (·.Dims))[k]? = some x.Dims := by rw [List.getElem?_map, hx]; rfl
  obtain ⟨y, hy⟩ := fill_idx (r := args.map (·.Dims)) (l0 := List.replicate args.length ([] : List Int)) (k := k) (by rw [List.length_replicate]; exact hk) hml
  simp only [F.array_Do_l1, dec_lt hx, cond_true, idx_nat hx, Option.bind_some, hy, Int.toNat_natCast, fill_set hx' hml, wrap_succ hk (show args.length ≤ 9223372036854775807 by omega)])
  (by
   have := fill_done hml
   rw [List.length_replicate] at this
   simp only [F.array_Do_l1, dec_end, cond_false, this]) fu (by omega)
 simp only [List.take_zero, List.nil_append, List.drop_zero] at h1
 exact h1
theorem do_many {k : Int} {n : Nat} (hr : rightS k n = 0) : (cond (decide (manyS k ≥ 0)) (cond (manyS k != (n : Int)) (some true) (cond (manyS k == (-1)) (some ((n : Int) == 0)) (some false))) (cond (manyS k == (-1)) (some ((n : Int) == 0)) (some false))) = some false := by
  obtain ⟨m1, m2, m3⟩ := right_many hr
  by_cases hp : manyS k ≥ 0
  · rw [dec_true hp, cond_true, bne_false (m2 hp), cond_false, show (manyS k == (-1)) = false from beq_eq_false_iff_ne.2 (by omega)]
    rfl
  · rw [dec_false hp, cond_false]
    by_cases hq : manyS k = -1
    · have h0 := m3 hq
      rw [hq, show ((-1 : Int) == -1) = true from rfl, cond_true, show ((n : Int) == 0) = false from beq_eq_false_iff_ne.2 (by omega)]
    · rw [show (manyS k == (-1)) = false by simp [hq], cond_false]
theorem do_wrongs (fu : Nat) (args : List SArray) (hl : args.length ≤ 1048576) (ha : ∀ a ∈ args, a.Dims.length ≤ 4000000) (hf : 4000000 < fu) :
  loopF (F.array_Do_l2 fu args) fu (0, [], []) = some (match errI (firstW wrongA args) with | some e => .ret (nilA, e) | none => .brk ([], [])) := by
 have h2 := loop_ends (body := F.array_Do_l2 fu args) args (fun k => ((k : Int), ([] : List Int), ([] : List Int))) (fun a => (errI (wrongA a)).map fun e => Ex.ret (nilA, e)) (.brk (([] : List Int), ([] : List Int))) (fun k x hx => by
  have hdl := ha x (List.mem_of_getElem? hx)
  simp only [F.array_Do_l2, dec_lt hx, cond_true, idx_nat hx, Option.bind_some, wrongA_ok fu x hdl hf, wrap_succ (get_lt hx) (show args.length ≤ 9223372036854775807 by omega)]
  by_cases h : wrongA x = 0
  · rw [bne_false h, h, errI_zero]; rfl
  · rw [bne_true h, errI_pos h]; rfl)
  (by simp only [F.array_Do_l2, dec_end, cond_false]) fu (by omega)
 rw [show ((0 : Nat) : Int) = 0 from rfl] at h2
 rw [h2]
 have : args.findSome? (fun a => (errI (wrongA a)).map fun e => (Ex.ret (nilA, e) : Ex ((List Int) × (List Int)) (SArray × Int))) = (errI (firstW wrongA args)).map fun e => Ex.ret (nilA, e) := by
  rw [← firstW_find]
  clear h2 hl ha
  induction args with
  | nil => rfl
  | cons x r ih =>
   rw [List.findSome?_cons, List.findSome?_cons]
   cases errI (wrongA x) with
   | none => exact ih
   | some e => rfl
 rw [this]
 cases errI (firstW wrongA args) <;> rfl
theorem firstW_all {α : Type} {f : α → Int} : ∀ {l : List α}, (∀ x ∈ l, f x = 0) → firstW f l = 0
 | [], _ => rfl
 | x :: r, h => by rw [firstW_cons, if_pos (h x List.mem_cons_self)]; exact firstW_all fun y hy => h y (List.mem_cons_of_mem _ hy)
theorem do_good (fu : Nat) (op : SOp) (args : List SArray) (d m : List Int) (hl : args.length ≤ 1048576) (hw : ∀ a ∈ args, wrongA a = 0) (hr : rightS op.Kind args.length = 0)
  (hD : F.array_Dims fu op (args.map (·.Dims)) = some (d, 0)) (hz : (sizeS d).2 = 0) (hF : F.array_fill fu op args d (List.replicate (sizeS d).1.toNat 0) = some m) (hm : m.length = (sizeS d).1.toNat) (hf : 4000000 < fu) :
  F.array_Do fu op args = some (⟨d, m⟩, 0) := by
 unfold F.array_Do
 have hc : chk ((0 : Int) ≤ (args.length : Int) ∧ (args.length : Int) ≤ (args.length : Int) ∧ ((24 : Nat) : Int) * (args.length : Int) ≤ 281474976710656 ∧ (args.length : Int) ≤ 9223372036854775807) = some () := chk_pos ⟨by omega, by omega, by omega, by omega⟩
 have h2 := do_wrongs fu args hl (fun a ha => by have := (size_small (wrongA_zero (hw a ha)).1).1; omega) hf
 rw [firstW_all hw, errI_zero] at h2
 have hdl : d.length ≤ 6 := (size_small hz).1
 obtain ⟨z1, z2⟩ := size_ran' hz
 have hc2 : chk ((0 : Int) ≤ (sizeS d).1 ∧ (sizeS d).1 ≤ (sizeS d).1 ∧ ((8 : Nat) : Int) * (sizeS d).1 ≤ 281474976710656 ∧ (sizeS d).1 ≤ 9223372036854775807) = some () := chk_pos ⟨by omega, by omega, by omega, by omega⟩
 have hb : Nat.beq (List.length m) (List.length (List.replicate (sizeS d).1.toNat (0 : Int))) = true := by rw [hm, List.length_replicate]; exact Nat.beq_refl _
 simp only [hc, Option.bind_some, Int.toNat_natCast, do_dims fu args hl hf, many_ok, show (manyS op.Kind == -2) = false by simp [(right_many hr).1], cond_false, do_many hr, h2, bindE, hD, bne_false, size_ok fu d (by omega) hf, hc2, hF, hb, cond_true]
def pairK (k x y : Int) : Int := if k = 3 then IntKind.i64.wrap (x + y) else if k = 4 then IntKind.i64.wrap (x - y) else IntKind.i64.wrap (x * y)
def fnK (k : Int) : Int := if k = 3 then 73 else if k = 4 then 74 else 75
theorem pair_loop (fu : Nat) (k : Int) (a b : SArray) (d z : List Int) (hk : k = 3 ∨ k = 4 ∨ k = 5) (ha : a.Data.length = z.length) (hb : b.Data.length = z.length) (hz : z.length ≤ 65536) (hf : 4000000 < fu) :
    loopF (F.array_fill_l2 fu [a, b] z (fnK k)) fu (0, z, d) = some (List.zipWith (pairK k) a.Data b.Data, d) := by
  have hlen : (List.zipWith (pairK k) a.Data b.Data).length = z.length := by rw [List.length_zipWith]; omega
  have := loop_acc (body := F.array_fill_l2 fu [a, b] z (fnK k)) z (fun j => ((j : Int), (List.zipWith (pairK k) a.Data b.Data).take j ++ z.drop j, d)) (List.zipWith (pairK k) a.Data b.Data, d) (fun j x hx => by
    have hj := get_lt hx
    have hxa := List.getElem?_eq_getElem (show j < a.Data.length by omega)
    have hxb := List.getElem?_eq_getElem (show j < b.Data.length by omega)
    have hr : (List.zipWith (pairK k) a.Data b.Data)[j]? = some (pairK k (a.Data[j]'(by omega)) (b.Data[j]'(by omega))) := by
      rw [List.getElem?_zipWith, hxa, hxb]
    obtain ⟨y, hy⟩ := fill_idx (r := List.zipWith (pairK k) a.Data b.Data) (l0 := z) (k := j) hj hlen
    have hw := wrap_succ hj (show z.length ≤ 9223372036854775807 by omega)
    have hset := fill_set hr hlen
    rcases hk with h | h | h <;> subst h
    · simp only [F.array_fill_l2, dec_lt hx, cond_true, idx0, idx1, Option.bind_some, idx_nat hxa, idx_nat hxb, fnK, if_pos, show Nat.beq (Int.toNat 73) 73 = true from rfl, F.array_pairwise_1, hy, Int.toNat_natCast, hw]
      rw [← hset]
      rfl
    · simp only [F.array_fill_l2, dec_lt hx, cond_true, idx0, idx1, Option.bind_some, idx_nat hxa, idx_nat hxb, show fnK 4 = 74 from rfl, show Nat.beq (Int.toNat 74) 73 = false from rfl, show Nat.beq (Int.toNat 74) 74 = true from rfl, cond_false, F.array_pairwise_2, hy, Int.toNat_natCast, hw]
      rw [← hset]
      rfl
    · simp only [F.array_fill_l2, dec_lt hx, cond_true, idx0, idx1, Option.bind_some, idx_nat hxa, idx_nat hxb, show fnK 5 = 75 from rfl, show Nat.beq (Int.toNat 75) 73 = false from rfl, show Nat.beq (Int.toNat 75) 74 = false from rfl, show Nat.beq (Int.toNat 75) 75 = true from rfl, cond_false, F.array_pairwise_3, hy, Int.toNat_natCast, hw]
      rw [← hset]
      rfl)
    (by
      have := fill_done hlen
      simp only [F.array_fill_l2, dec_end, cond_false, this]) fu (by omega)
  simpa using this
theorem fill_pair (fu : Nat) (op : SOp) (a b : SArray) (d z : List Int) (hk : op.Kind = 3 ∨ op.Kind = 4 ∨ op.Kind = 5) (ha : a.Data.length = z.length) (hb : b.Data.length = z.length) (hz : z.length ≤ 65536) (hf : 4000000 < fu) :
    F.array_fill fu op [a, b] d z = some (List.zipWith (pairK op.Kind) a.Data b.Data) := by
  have hL := pair_loop fu op.Kind a b d z hk ha hb hz hf
  unfold F.array_fill F.array_pairwise
  rcases hk with h | h | h
  · rw [h] at hL ⊢
    simp only [show ((3 : Int) == 2) = false from rfl, show ((3 : Int) == 3) = true from rfl, cond_true, cond_false, Option.bind_some, show (73 : Int) = fnK 3 from rfl, hL]
  · rw [h] at hL ⊢
    simp only [show ((4 : Int) == 2) = false from rfl, show ((4 : Int) == 3) = false from rfl, show ((4 : Int) == 4) = true from rfl, cond_true, cond_false, Option.bind_some, show (74 : Int) = fnK 4 from rfl, hL]
  · rw [h] at hL ⊢
    simp only [show ((5 : Int) == 2) = false from rfl, show ((5 : Int) == 3) = false from rfl, show ((5 : Int) == 4) = false from rfl, show ((5 : Int) == 5) = true from rfl, cond_true, cond_false, Option.bind_some, show (75 : Int) = fnK 5 from rfl, hL]
def pairA (k : Int) (a b : SArray) : SArray := ⟨a.Dims, List.zipWith (pairK k) a.Data b.Data⟩
theorem sameAs_self (a : List Int) : sameAs a [a] = (a, 0) := by
 unfold sameAs; simp
theorem do_pair (fu : Nat) (k : Int) (a b : SArray) (hk : k = 3 ∨ k = 4 ∨ k = 5) (ha : wrongA a = 0) (hb : wrongA b = 0) (hd : b.Dims = a.Dims) (hf : 4000000 < fu) :
  F.array_Do fu (⟨k, [], [], [], [], [], 0⟩ : SOp) [a, b] = some (pairA k a b, 0) := by
 obtain ⟨a1, a2⟩ := wrongA_zero ha
 obtain ⟨b1, b2⟩ := wrongA_zero hb
 rw [hd] at b2
 have hal : a.Dims.length ≤ 6 := (size_small a1).1
 have hr : rightS k 2 = 0 := by rcases hk with h | h | h <;> subst h <;> rfl
 have hfit : F.array_fits fu (⟨k, [], [], [], [], [], 0⟩ : SOp) [a.Dims, a.Dims] = some 0 := by
  rw [fits_ok fu _ _ ⟨by simp, fun x hx => by simp at hx; rw [hx]; omega⟩ hf]
  show some (if rightS k 2 ≠ 0 then rightS k 2 else firstW szE [a.Dims, a.Dims]) = some 0
  rw [hr, firstW_cons, firstW_cons]
  unfold szE
  rw [if_pos a1, if_pos a1]
  rfl
 have hkk : (⟨k, [], [], [], [], [], 0⟩ : SOp).Kind = 3 ∨ (⟨k, [], [], [], [], [], 0⟩ : SOp).Kind = 4 ∨ (⟨k, [], [], [], [], [], 0⟩ : SOp).Kind = 5 ∨ (⟨k, [], [], [], [], [], 0⟩ : SOp).Kind = 6 ∨ (⟨k, [], [], [], [], [], 0⟩ : SOp).Kind = 7 ∨ (⟨k, [], [], [], [], [], 0⟩ : SOp).Kind = 8 := by
  show k = 3 ∨ k = 4 ∨ k = 5 ∨ k = 6 ∨ k = 7 ∨ k = 8
  omega
 have hRS := k_same fu (⟨k, [], [], [], [], [], 0⟩ : SOp) ⟨by simp, by simp, by simp, by simp, by simp⟩ hf hkk a.Dims [a.Dims] hal (fun x hx => by simp at hx; rw [hx]; exact hal) (by simp) hfit
 have hD : F.array_Dims fu (⟨k, [], [], [], [], [], 0⟩ : SOp) (List.map (·.Dims) [a, b]) = some (a.Dims, 0) := by
  rw [show List.map (·.Dims) [a, b] = [a.Dims, a.Dims] by simp [hd], hRS.1, sameAs_self]
  unfold finS
  rw [if_neg (by simp), if_neg (by simpa using a1)]
 have hzl : (List.replicate (sizeS a.Dims).1.toNat (0 : Int)).length = a.Data.length := by rw [List.length_replicate]; omega
 obtain ⟨z1, z2⟩ := size_ran' a1
 have hF := fill_pair fu (⟨k, [], [], [], [], [], 0⟩ : SOp) a b a.Dims (List.replicate (sizeS a.Dims).1.toNat (0 : Int)) hk (by omega) (by omega) (by rw [List.length_replicate]; omega) hf
 exact do_good fu (⟨k, [], [], [], [], [], 0⟩ : SOp) [a, b] a.Dims (List.zipWith (pairK k) a.Data b.Data) (by simp) (fun x hx => by simp at hx; rcases hx with h | h <;> rw [h] <;> assumption) hr hD a1 hF (by rw [List.length_zipWith]; omega) hf
end Go.DN.Pl
