/-
  Arrays: the plain law of rows: the statement.
-/
import Derived.Test.YtcbaolgciiieeaaGreatRwI
import Derived.Test.YtcbaolgciiieeaaGreatDoA
set_option linter.unusedSectionVars false
set_option linter.unusedSimpArgs false
set_option linter.unusedVariables false
set_option maxRecDepth 20000
namespace Go.DN.Pl
open Go.AM Go.PL
theorem szN_nonneg' {d : List Int} (h : ∀ x ∈ d, 0 ≤ x) : 0 ≤ szN d := by
  unfold szN
  split
  · exact Int.le_refl _
  · rename_i h0
    have := prodR_pos d fun x hx => by
      have h1 := h x hx
      by_cases e : x = 0
      · exact absurd (hasB_mem.2 (e ▸ hx)) h0
      · omega
    omega
theorem mk_zero_of {m n : Nat} {f : Nat → Nat → Int} (h : m = 0 ∨ ∀ i j, f i j = 0) : List.replicate (m * n) (0 : Int) = mk m n f := by
  rcases h with h | h
  · subst h; rw [Nat.zero_mul]; unfold mk; rw [Nat.zero_mul]; rfl
  · rw [mk_ext (g := fun _ _ => 0) fun i j _ _ => h i j]
    apply List.ext_getElem?
    intro p
    unfold mk
    rw [List.getElem?_replicate, List.getElem?_map]
    by_cases hp : p < m * n
    · rw [if_pos hp, List.getElem?_range hp]; rfl
    · rw [if_neg hp, List.getElem?_eq_none (by rw [List.length_range]; omega)]; rfl
theorem putN_zero (bs us : List Int) (W : Nat) (i j : Nat) : putN bs us W 0 i j = 0 := rfl
def putOp (X : Int) : SOp := ⟨19, [X], [], [], [], [], 0⟩
structure Rw (a b : SArray) (X W nb : Nat) (r : List Int) : Prop where
 hd : a.Dims = (X : Int) :: r
 wa : wrongA a = 0
 wb : wrongA b = 0
 ht : (sizeS (b.Dims ++ r)).2 = 0
 hW : szN r = (W : Int)
 la : a.Data.length = X * W
 lb : b.Data.length = nb
 sT : (sizeS (b.Dims ++ r)).1 = ((nb * W : Nat) : Int)
 sX : (sizeS a.Dims).1 = ((X * W : Nat) : Int)
 hT : nb * W ≤ 65536
 hX : X * W ≤ 65536
 hX4 : X ≤ 4096
 hnb : nb ≤ 65536
theorem rw_of {a b : SArray} {y : Int} {r : List Int} (hd : a.Dims = y :: r) (wa : wrongA a = 0) (wb : wrongA b = 0) (ht : (sizeS (b.Dims ++ r)).2 = 0) : ∃ X W nb, Rw a b X W nb r := by
 obtain ⟨sa, la⟩ := wrongA_zero wa
 obtain ⟨sb, lb⟩ := wrongA_zero wb
 have ga := (size_small sa).2
 have hy := ga y (by rw [hd]; exact List.mem_cons_self)
 have hr0 : 0 ≤ szN r := szN_nonneg' fun x hx => (ga x (by rw [hd]; exact List.mem_cons_of_mem _ hx)).1
 have ra := size_ran' sa
 have rb := size_ran' sb
 have rt := size_ran' ht
 obtain ⟨X, rfl⟩ : ∃ X : Nat, y = (X : Int) := ⟨y.toNat, by omega⟩
 obtain ⟨W, hW⟩ : ∃ W : Nat, szN r = (W : Int) := ⟨(szN r).toNat, by omega⟩
 have e1 : (sizeS a.Dims).1 = ((X * W : Nat) : Int) := by rw [szN_eq sa, hd, szN_cons, hW, Int.natCast_mul]
 have e2 : (sizeS (b.Dims ++ r)).1 = ((b.Data.length * W : Nat) : Int) := by rw [szN_eq ht, szN_app, hW, ← szN_eq sb, lb, Int.natCast_mul]
 exact ⟨X, W, b.Data.length, hd, wa, wb, ht, hW, by omega, rfl, e2, e1, by omega, by omega, by omega, by omega⟩
theorem doTake (fu : Nat) {a b : SArray} {X W nb : Nat} {r : List Int} (h : Rw a b X W nb r) (hf : 4000000 < fu) : F.array_Do fu takeOp [a, b] = some (⟨b.Dims ++ r, mk nb W (takeF a.Data b.Data X W)⟩, 0) := by
  obtain ⟨hd, wa, wb, ht, hW, la, lb, sT, sX, hT, hX, hX4, hnb⟩ := h
  obtain ⟨sa, la'⟩ := wrongA_zero wa
  obtain ⟨sb, lb'⟩ := wrongA_zero wb
  have hal := (size_small sa).1
  have hbl := (size_small sb).1
  have hop : okOp takeOp := ⟨by simp [takeOp], by simp [takeOp], by simp [takeOp], by simp [takeOp], by simp [takeOp]⟩
  have hargs : okArgs [a.Dims, b.Dims] := ⟨by simp, fun x hx => by simp at hx; rcases hx with h | h <;> rw [h] <;> omega⟩
  have hfit : F.array_fits fu takeOp [a.Dims, b.Dims] = some 0 := by
    rw [fits_ok fu _ _ hargs hf]
    show some (if rightS 18 2 ≠ 0 then rightS 18 2 else firstW szE [a.Dims, b.Dims]) = some 0
    rw [show rightS 18 2 = 0 from rfl, firstW_cons, firstW_cons]
    unfold szE
    rw [if_pos sa, if_pos sb]
    rfl
  have hRS := k_take fu takeOp hop hf rfl a.Dims b.Dims [] hal hbl hfit
  have ht2 : takeS a.Dims b.Dims = (b.Dims ++ r, 0) := by
    rw [hd]
    unfold takeS
    rw [if_neg (by simp; omega)]
    rfl
  have hD : F.array_Dims fu takeOp (List.map (·.Dims) [a, b]) = some (b.Dims ++ r, 0) := by
    show F.array_Dims fu takeOp [a.Dims, b.Dims] = _
    rw [hRS.1, ht2]
    unfold finS
    rw [if_neg (by simp), if_neg (by simpa using ht)]
  have hw : ∀ x ∈ [a, b], wrongA x = 0 := fun x hx => by
    simp at hx
    rcases hx with h | h <;> rw [h] <;> assumption
  have hn : (sizeS (b.Dims ++ r)).1.toNat = nb * W := by rw [sT]; omega
  have hrows : F.array_rows fu b (b.Dims ++ r) a (List.replicate (nb * W) 0) = some (mk nb W (takeF a.Data b.Data X W)) := by
    unfold F.array_rows
    rw [hd, idx0]
    simp only [Option.bind_some, cc]
    cases hz : ((b.Data.length : Int) == 0 || (X : Int) == 0) with
    | true =>
      simp only [cond_true]
      rw [mk_zero_of]
      rw [Bool.or_eq_true] at hz
      rcases hz with hz | hz
      · left
        have := eq_of_beq hz
        omega
      · right
        intro i j
        have := eq_of_beq hz
        unfold takeF
        rw [if_neg (by omega)]
    | false =>
      rw [Bool.or_eq_false_iff] at hz
      have h0 : ((b.Data.length : Int)) ≠ 0 := by simpa using hz.1
      have hL := rowsT_ok fu b a (List.replicate (nb * W) 0) (b.Dims ++ r) X W nb (mk_zero_of (.inr fun _ _ => rfl)) lb la (by omega) hT hX hX4 hnb hf
      simp only [cond_false, chk_pos h0, Option.bind_some, hL]
  have hbq : Nat.beq (List.length (mk nb W (takeF a.Data b.Data X W))) (List.length (List.replicate (nb * W) (0 : Int))) = true := by rw [mk_len, List.length_replicate]; exact Nat.beq_refl _
  have hF : F.array_fill fu takeOp [a, b] (b.Dims ++ r) (List.replicate (sizeS (b.Dims ++ r)).1.toNat 0) = some (mk nb W (takeF a.Data b.Data X W)) := by
    rw [hn]
    unfold F.array_fill
    simp only [show takeOp.Kind = 18 from rfl, Int.reduceBEq, cond_true, cond_false, Option.bind_some, idx0, idx1, hrows, hbq]
  exact do_good fu takeOp [a, b] (b.Dims ++ r) _ (by simp) hw rfl hD ht hF (by rw [mk_len, hn]) hf
theorem doPut (fu : Nat) {a b : SArray} {X W nb : Nat} {r us : List Int} (h : Rw a b X W nb r) (hu : us.length = nb * W) (hf : 4000000 < fu) : F.array_Do fu (putOp X) [⟨b.Dims ++ r, us⟩, b] = some (⟨a.Dims, mk X W (putN b.Data us W nb)⟩, 0) := by
  obtain ⟨hd, wa, wb, ht, hW, la, lb, sT, sX, hT, hX, hX4, hnb⟩ := h
  obtain ⟨sa, la'⟩ := wrongA_zero wa
  obtain ⟨sb, lb'⟩ := wrongA_zero wb
  have hal := (size_small sa).1
  have hbl := (size_small sb).1
  have htl := (size_small ht).1
  have wu : wrongA (⟨b.Dims ++ r, us⟩ : SArray) = 0 := wrongA_of ht (by show (sizeS (b.Dims ++ r)).1 = (us.length : Int); rw [sT, hu])
  have hop : okOp (putOp X) := ⟨by simp [putOp], by simp [putOp], by simp [putOp], by simp [putOp], by simp [putOp]⟩
  have hargs : okArgs [b.Dims ++ r, b.Dims] := ⟨by simp, fun x hx => by simp only [List.mem_cons, List.not_mem_nil, or_false] at hx; rcases hx with h | h <;> rw [h] <;> omega⟩
  have hfit : F.array_fits fu (putOp X) [b.Dims ++ r, b.Dims] = some 0 := by
    rw [fits_ok fu _ _ hargs hf]
    show some (if rightS 19 2 ≠ 0 then rightS 19 2 else firstW szE [b.Dims ++ r, b.Dims]) = some 0
    rw [show rightS 19 2 = 0 from rfl, firstW_cons, firstW_cons]
    unfold szE
    rw [if_pos ht, if_pos sb]
    rfl
  have hRS := k_put fu (putOp X) hop hf rfl (b.Dims ++ r) b.Dims [] htl hbl hfit
  have ht2 : putS (putOp X) (b.Dims ++ r) b.Dims = (a.Dims, 0) := by
    unfold putS
    have : badPut (putOp X) (b.Dims ++ r) b.Dims = false := by
      unfold badPut
      rw [List.take_left' rfl, dec_true rfl, dec_false (by rw [List.length_append]; omega)]
      rfl
    rw [this, if_neg (by simp), List.drop_left' rfl, hd]
    rfl
  have hD : F.array_Dims fu (putOp X) (List.map (·.Dims) [(⟨b.Dims ++ r, us⟩ : SArray), b]) = some (a.Dims, 0) := by
    show F.array_Dims fu (putOp X) [b.Dims ++ r, b.Dims] = _
    rw [hRS.1, ht2]
    unfold finS
    rw [if_neg (by simp), if_neg (by simpa using sa)]
  have hw : ∀ x ∈ [(⟨b.Dims ++ r, us⟩ : SArray), b], wrongA x = 0 := fun x hx => by
    simp only [List.mem_cons, List.not_mem_nil, or_false] at hx
    rcases hx with h | h <;> rw [h] <;> assumption
  have hn : (sizeS a.Dims).1.toNat = X * W := by rw [sX]; omega
  have hrows : F.array_rows_2 fu b (⟨b.Dims ++ r, us⟩ : SArray) a.Dims (List.replicate (X * W) 0) = some (mk X W (putN b.Data us W nb)) := by
    unfold F.array_rows_2
    rw [hd, idx0]
    simp only [Option.bind_some, cc]
    cases hz : ((b.Data.length : Int) == 0 || (X : Int) == 0) with
    | true =>
      simp only [cond_true]
      rw [Bool.or_eq_true] at hz
      rcases hz with hz | hz
      · have h0 : nb = 0 := by
          have := eq_of_beq hz
          omega
        subst h0
        rw [mk_zero_of (.inr fun i j => putN_zero b.Data us W i j)]
      · rw [mk_zero_of]
        left
        have := eq_of_beq hz
        omega
    | false =>
      rw [Bool.or_eq_false_iff] at hz
      have h0 : ((b.Data.length : Int)) ≠ 0 := by simpa using hz.1
      have hL := rowsP_ok fu b (⟨b.Dims ++ r, us⟩ : SArray) (List.replicate (X * W) 0) ((X : Int) :: r) X W nb (mk_zero_of (.inr fun _ _ => rfl)) lb hu (by omega) hT hX hX4 hnb hf
      simp only [cond_false, chk_pos h0, Option.bind_some, hL]
  have hbq : Nat.beq (List.length (mk X W (putN b.Data us W nb))) (List.length (List.replicate (X * W) (0 : Int))) = true := by rw [mk_len, List.length_replicate]; exact Nat.beq_refl _
  have hF : F.array_fill fu (putOp X) [⟨b.Dims ++ r, us⟩, b] a.Dims (List.replicate (sizeS a.Dims).1.toNat 0) = some (mk X W (putN b.Data us W nb)) := by
    rw [hn]
    unfold F.array_fill
    simp only [show (putOp X).Kind = 19 from rfl, Int.reduceBEq, cond_true, cond_false, Option.bind_some, idx0, idx1, hrows, hbq]
  exact do_good fu (putOp X) [⟨b.Dims ++ r, us⟩, b] a.Dims _ (by simp) hw rfl hD sa hF (by rw [mk_len, hn]) hf
theorem alive_ok (fu : Nat) (hf : 4000000 < fu) : F.adjointlaw2_alive fu = some true := by
 have h1 : wrongA ⟨[], [2]⟩ = 0 := by decide
 have h2 : wrongA ⟨[], [3]⟩ = 0 := by decide
 unfold F.adjointlaw2_alive
 rw [do_pair fu 3 ⟨[], [2]⟩ ⟨[], [3]⟩ (by omega) h1 h2 rfl hf]
 rfl
theorem rows_ok (fu : Nat) (a b : SArray) (y : List Int) (ha : a.Dims.length ≤ 1048576) (hb : b.Dims.length ≤ 1048576) (hf : 4000000 < fu) : F.adjointlaw2_ArrayRows fu a b y = some true := by
  obtain ⟨x, e, h1, h2⟩ := refDo_take fu a b ha hb hf
  have eo : (⟨18, ([] : List Int), ([] : List Int), ([] : List Int), ([] : List Int), ([] : List Int), 0⟩ : SOp) = takeOp := rfl
  unfold F.adjointlaw2_ArrayRows
  rw [alive_ok fu hf]
  simp only [Option.bind_some, Bool.not_true, cond_false, eo, h1]
  by_cases he : e = 0
  · subst he
    obtain ⟨wa, wb, y', r, hd, ht⟩ := h2 rfl
    obtain ⟨X, W, nb, R⟩ := rw_of hd wa wb ht
    have hT := doTake fu R hf
    obtain ⟨hd, wa, wb, ht, hW, la, lb, sT, sX, hT5, hX5, hX4, hnb⟩ := id R
    have hml : (mk nb W (takeF a.Data b.Data X W)).length = nb * W := mk_len _ _ _
    have hul : (cpy (List.replicate (nb * W) (0 : Int)) y 0 (nb * W)).length = nb * W := by
      rw [cpy_length (by rw [List.length_replicate]; omega), List.length_replicate]
    have hP := doPut fu (us := cpy (List.replicate (nb * W) (0 : Int)) y 0 (nb * W)) R hul hf
    have ep : (⟨19, lpart a.Dims 0 1, ([] : List Int), ([] : List Int), ([] : List Int), ([] : List Int), 0⟩ : SOp) = putOp X := by
      rw [hd]; rfl
    have hal := (size_small (wrongA_zero wa).1).1
    have c1 : chk ((0 : Int) ≤ ((nb * W : Nat) : Int) ∧ ((nb * W : Nat) : Int) ≤ ((nb * W : Nat) : Int) ∧ ((8 : Nat) : Int) * ((nb * W : Nat) : Int) ≤ 281474976710656 ∧ ((nb * W : Nat) : Int) ≤ 9223372036854775807) = some () := chk_pos ⟨by omega, by omega, by omega, by omega⟩
    have c2 : chk (0 + nb * W ≤ nb * W) = some () := chk_pos (by omega)
    have c3 : chk ((0 : Int) ≤ 1 ∧ 1 ≤ (a.Dims.length : Int)) = some () := chk_pos ⟨by omega, by rw [hd, List.length_cons]; omega⟩
    have wf : wrongA (⟨b.Dims ++ r, mk nb W (takeF a.Data b.Data X W)⟩ : SArray) = 0 := wrongA_of ht (by show (sizeS (b.Dims ++ r)).1 = _; rw [sT]; show _ = ((mk nb W (takeF a.Data b.Data X W)).length : Int); rw [hml])
    have wu : wrongA (⟨b.Dims ++ r, cpy (List.replicate (nb * W) (0 : Int)) y 0 (nb * W)⟩ : SArray) = 0 := wrongA_of ht (by show (sizeS (b.Dims ++ r)).1 = ((cpy (List.replicate (nb * W) (0 : Int)) y 0 (nb * W)).length : Int); rw [sT, hul])
    have wg : wrongA (⟨a.Dims, mk X W (putN b.Data (cpy (List.replicate (nb * W) (0 : Int)) y 0 (nb * W)) W nb)⟩ : SArray) = 0 := wrongA_of (wrongA_zero wa).1 (by show (sizeS a.Dims).1 = ((mk X W (putN b.Data (cpy (List.replicate (nb * W) (0 : Int)) y 0 (nb * W)) W nb)).length : Int); rw [sX, mk_len])
    have i1 := inner_ok fu _ _ wf wu rfl hf
    have i2 := inner_ok fu _ _ wa wg rfl hf
    rw [hml] at i1
    rw [la] at i2
    have hs := rows_sum a.Data b.Data (cpy (List.replicate (nb * W) (0 : Int)) y 0 (nb * W)) X W nb
    simp only [bne_false, cond_false, hT, Option.bind_some, hml, c1, amb_self, amb2_self, Int.toNat_natCast, List.length_replicate, c2, c3, ep, hP, sameList_ok fu a.Dims a.Dims (by omega) hf, dec_true, Bool.not_true, i1, i2, hs]
    simp
  · simp only [bne_true he, cond_true]
end Go.DN.Pl
