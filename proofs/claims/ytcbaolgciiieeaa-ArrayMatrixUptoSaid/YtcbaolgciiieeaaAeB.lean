/-
  Arrays: the plain law: views flipped, formed anew.
-/
import Derived.Test.YtcbaolgciiieeaaAeA
set_option linter.unusedSectionVars false
set_option linter.unusedSimpArgs false
set_option linter.unusedVariables false
namespace Go.DN.Pl
open Go.AM Go.PL
theorem ris_pair {l : List Int} {rank : Nat} (h : risB l rank = true) : l.Pairwise (· < ·) := by
 obtain ⟨h1, h2⟩ := risB_iff.1 h
 have hlt : ∀ d k, k + d + 1 < l.length → atI l k < atI l (k + d + 1) := by
  intro d
  induction d with
  | zero => intro k hk; exact h2 k hk
  | succ d ih => intro k hk; have := ih k (by omega); have h3 := h2 (k + d + 1) (by omega); rw [show k + (d + 1) + 1 = k + d + 1 + 1 by omega]; omega
 rw [List.pairwise_iff_getElem]
 intro i j hi hj hij
 have := hlt (j - i - 1) i (by omega)
 rw [show i + (j - i - 1) + 1 = j by omega] at this
 have e1 := (List.getElem?_eq_some_iff.1 (get_atI (l := l) (show i < l.length by omega))).2
 have e2 := (List.getElem?_eq_some_iff.1 (get_atI (l := l) hj)).2
 rw [← e1, ← e2] at this
 exact this
theorem filter_lt : ∀ (l : List Int) (k : Int), l.Pairwise (· < ·) → l.filter (fun x => decide (x < k + 1)) = l.filter (fun x => decide (x < k)) ++ if hasB l k then [k] else []
  | [], k, _ => rfl
  | x :: r, k, h => by
    obtain ⟨h1, h2⟩ := List.pairwise_cons.1 h
    have ih := filter_lt r k h2
    have hh : hasB (x :: r) k = (x == k || hasB r k) := rfl
    by_cases hx : x < k
    · rw [List.filter_cons_of_pos (by simp; omega), List.filter_cons_of_pos (by simp; omega), ih, hh]
      have : (x == k) = false := by simp; omega
      rw [this, Bool.false_or]; rfl
    · have hr : ∀ k', k' ≤ k + 1 → r.filter (fun y => decide (y < k')) = [] ∨ k' = k + 1 := fun k' hk' => by
        by_cases e : k' = k + 1
        · exact .inr e
        · refine .inl (List.filter_eq_nil_iff.2 fun y hy => ?_)
          have := h1 y hy
          simp; omega
      have hr1 : r.filter (fun y => decide (y < k)) = [] := (hr k (by omega)).resolve_right (by omega)
      have hr2 : r.filter (fun y => decide (y < k + 1)) = [] := by
        refine List.filter_eq_nil_iff.2 fun y hy => ?_
        have := h1 y hy
        simp; omega
      by_cases e : x = k
      · subst e
        rw [List.filter_cons_of_pos (by simp; omega), List.filter_cons_of_neg (by simp), hr1, hr2, hh]
        simp
      · have : hasB r k = false := by
          cases hb : hasB r k with
          | false => rfl
          | true => have := h1 k (hasB_mem.1 hb); omega
        have e2 : (x == k) = false := by simp; omega
        rw [List.filter_cons_of_neg (by simp; omega), List.filter_cons_of_neg (by simp; omega), hr1, hr2, hh, e2, this]
        rfl
def gF (v : SView) (s x : Int) : Int := if atI v.Dims x.toNat > 0 then IntKind.wrap .i64 (s + IntKind.wrap .i64 (IntKind.wrap .i64 (atI v.Dims x.toNat - 1) * atI v.Steps x.toNat)) else s
def flipU (v : SView) (p : List Int) (k : Nat) : List Int := (List.range k).map fun (i : Nat) => if hasB p (i : Int) then IntKind.wrap .i64 (0 - atI v.Steps i) else atI v.Steps i
theorem flipU_len (v : SView) (p : List Int) (k : Nat) : (flipU v p k).length = k := by unfold flipU; simp
theorem flipU_get {v : SView} {p : List Int} {n i : Nat} (h : i < n) : (flipU v p n)[i]? = some (if hasB p (i : Int) then IntKind.wrap .i64 (0 - atI v.Steps i) else atI v.Steps i) := by
 unfold flipU; rw [List.getElem?_map, List.getElem?_range h]; rfl
theorem flipU_set {v : SView} {p : List Int} {n q : Nat} (h : q < n) : (flipU v p n).set q (IntKind.wrap .i64 (0 - atI v.Steps q)) = flipU v (p ++ [(q : Int)]) n := by
  apply List.ext_getElem?
  intro i
  rw [List.getElem?_set]
  by_cases hi : i < n
  · rw [flipU_get hi]
    by_cases e : q = i
    · subst e
      have : hasB (p ++ [(q : Int)]) (q : Int) = true := hasB_mem.2 (by simp)
      rw [if_pos rfl, if_pos (by rw [flipU_len]; omega), flipU_get hi, this]; rfl
    · rw [if_neg e, flipU_get hi, hasB_app]
      have : hasB [(q : Int)] (i : Int) = false := by unfold hasB; simp; omega
      rw [this, Bool.or_false]
  · rw [List.getElem?_eq_none (show (flipU v (p ++ [(q : Int)]) n).length ≤ i by rw [flipU_len]; omega)]
    by_cases e : q = i
    · omega
    · rw [if_neg e]; exact List.getElem?_eq_none (by rw [flipU_len]; omega)
theorem flipU_nil (v : SView) (n : Nat) (h : v.Steps.length = n) : flipU v [] n = v.Steps := by
 apply List.ext_getElem?
 intro i
 by_cases hi : i < n
 · rw [flipU_get hi, get_atI (by omega)]; rfl
 · rw [List.getElem?_eq_none (by rw [flipU_len]; omega), List.getElem?_eq_none (by omega)]
theorem flipU_succ (v : SView) (p : List Int) (k : Nat) : flipU v p (k + 1) = flipU v p k ++ [if hasB p (k : Int) then IntKind.wrap .i64 (0 - atI v.Steps k) else atI v.Steps k] := by
 unfold flipU; rw [List.range_succ, List.map_append]; rfl
def inI (n : Int) : Prop := -9223372036854775808 ≤ n ∧ n ≤ 9223372036854775807
theorem inI_wrap (n : Int) : inI (IntKind.wrap .i64 n) := by unfold inI; rw [IntKind.wrap_i64]; omega
theorem inI_gF (v : SView) : ∀ (l : List Int) (s : Int), inI s → inI (l.foldl (gF v) s)
 | [], s, h => h
 | x :: r, s, h => by
  rw [List.foldl_cons]
  refine inI_gF v r _ ?_
  unfold gF
  split
  · exact inI_wrap _
  · exact h
def flipV (v : SView) (at_ : List Int) : SView := ⟨at_.foldl (gF v) v.Start, v.Dims, flipU v at_ v.Dims.length⟩
def flipS (v : SView) (at_ : List Int) : SView × Int :=
 if wrongS v ≠ 0 then (nilV, wrongS v) else if risB at_ v.Dims.length then doneS (flipV v at_) else (nilV, 6)
theorem flip_ok (fu : Nat) (v : SView) (at_ : List Int) (hd : v.Dims.length ≤ 4000000) (hs : v.Steps.length ≤ 4000000) (ha : at_.length ≤ 4000000) (hf : 4000000 < fu) : F.view_Flip fu v at_ = some (flipS v at_) := by
  unfold F.view_Flip flipS
  simp only [wrong_ok fu v hd hs hf, Option.bind_some]
  by_cases hw0 : wrongS v = 0
  · rw [if_neg (by omega), bne_false hw0, cond_false]
    obtain ⟨hsz, hsl, hnear, _⟩ := wrong_zero hw0
    have hst : inI v.Start := by unfold nearB at hnear; simp at hnear; unfold inI; omega
    simp only [risingV_ok fu at_ v.Dims.length ha hf, Option.bind_some]
    cases hr : risB at_ v.Dims.length with
    | false => rfl
    | true =>
      have hrn := (risB_iff.1 hr).1
      have hnd := ris_pair hr
      have h := loop_count (body := F.view_Flip_l1 fu at_ v.Dims) at_.length (fun k => ((k : Int), (at_.take k).foldl (gF v) v.Start, flipU v (at_.take k) v.Dims.length)) (at_.foldl (gF v) v.Start, flipU v at_ v.Dims.length)
        (fun k hk => by
          have hx := get_atI hk
          have hw := wrap_succ hk (by omega)
          have hrk := hrn k hk
          obtain ⟨q, hq⟩ : ∃ q : Nat, atI at_ k = q := ⟨(atI at_ k).toNat, by omega⟩
          have hqn : q < v.Dims.length := by omega
          have hno : hasB (at_.take k) (q : Int) = false := by
            cases hb : hasB (at_.take k) (q : Int) with
            | false => rfl
            | true =>
              obtain ⟨j, hj⟩ := List.getElem?_of_mem (hasB_mem.1 hb)
              have hjl := get_lt hj
              have hjk : j < k := by rw [List.length_take] at hjl; omega
              rw [List.getElem?_take_of_lt hjk] at hj
              have := (List.pairwise_iff_getElem.1 hnd) j k (by omega) hk hjk
              have e1 := (List.getElem?_eq_some_iff.1 hj).2
              have e2 := (List.getElem?_eq_some_iff.1 hx).2
              rw [e1, e2, hq] at this
              omega
          have i1 := idx_nat (get_atI (l := v.Dims) hqn)
          have i2 := idx_nat (flipU_get (v := v) (p := at_.take k) hqn)
          rw [hno] at i2
          simp only [Bool.false_eq_true, if_false] at i2
          simp only [F.view_Flip_l1, dec_lt hx, cond_true, idx_nat hx, hq, i1, i2, Option.bind_some, hw, amb_self, amb2_self, amb3_self, amb4_self, Int.toNat_natCast, flipU_set hqn]
          rw [take_succ hx, hq, List.foldl_append, List.foldl_cons, List.foldl_nil]
          have hin := inI_gF v (at_.take k) _ hst
          have hdq := (size_zero hsz).2.1 _ (List.mem_of_getElem? (get_atI hqn))
          have e : IntKind.i64.wrap ((at_.take k).foldl (gF v) v.Start + IntKind.i64.wrap ((if IntKind.i64.wrap (atI v.Dims q - 1) > 0 then IntKind.i64.wrap (atI v.Dims q - 1) else 0) * atI v.Steps q)) = gF v ((at_.take k).foldl (gF v) v.Start) (q : Int) := by
            unfold gF
            rw [Int.toNat_natCast]
            have w1 : IntKind.i64.wrap (atI v.Dims q - 1) = atI v.Dims q - 1 := i64 (by omega) (by omega)
            rw [w1]
            by_cases h0 : atI v.Dims q > 0
            · rw [if_pos h0]
              by_cases h1 : atI v.Dims q - 1 > 0
              · rw [if_pos h1]
              · rw [if_neg h1, show atI v.Dims q - 1 = 0 by omega]
            · rw [if_neg h0, if_neg (by omega), Int.zero_mul, show IntKind.i64.wrap 0 = 0 from rfl, Int.add_zero]
              exact i64 hin.1 hin.2
          rw [e])
        (by simp only [F.view_Flip_l1, dec_end, cond_false, List.take_length]) fu (by omega)
      rw [List.take_zero, List.foldl_nil, flipU_nil v _ hsl, show ((0 : Nat) : Int) = 0 from rfl] at h
      have h6 := (size_zero hsz).1
      have hdn := done_ok fu (flipV v at_) hsz (by unfold flipV; simp only [flipU_len]) hf
      unfold flipV at hdn
      simp only [Bool.not_true, cond_false, clone_ok fu v.Dims (by omega), clone_ok fu v.Steps (by omega), Option.bind_some, amb_self, amb2_self, amb3_self, amb4_self, h, hdn, if_true]
      rfl
  · rw [if_pos hw0, bne_true hw0, cond_true]; rfl
theorem flip1_ok (fu : Nat) (v : SView) (at_ : List Int) (hd : v.Dims.length ≤ 4000000) (hs : v.Steps.length ≤ 4000000) (ha : at_.length ≤ 4000000) (hf : 4000000 < fu) : F.adjointref1_Flip fu v at_ = some (flipS v at_) := by
  unfold F.adjointref1_Flip flipS
  simp only [wrong1_ok fu v hd hs hf, Option.bind_some]
  by_cases hw0 : wrongS v = 0
  · rw [if_neg (by omega), bne_false hw0, cond_false]
    obtain ⟨hsz, hsl, _⟩ := wrong_zero hw0
    simp only [rising1_ok fu at_ v.Dims.length ha hf, Option.bind_some]
    cases hr : risB at_ v.Dims.length with
    | false => rfl
    | true =>
      have hrn := (risB_iff.1 hr).1
      have hnd := ris_pair hr
      have hrm : ∀ x ∈ at_, 0 ≤ x ∧ x < (v.Dims.length : Int) := fun x hx => by
        obtain ⟨k, hk⟩ := List.getElem?_of_mem hx
        have := hrn k (get_lt hk)
        rwa [atI_get hk] at this
      have h := loop_count (body := F.adjointref1_Flip_l1 fu v at_) v.Steps.length (fun k => ((k : Int), (at_.filter fun x => decide (x < (k : Int))).foldl (gF v) v.Start, v.Dims, flipU v at_ k)) (at_.foldl (gF v) v.Start, v.Dims, flipU v at_ v.Dims.length)
        (fun k hk => by
          have hx := get_atI hk
          have hw := wrap_succ hk (by omega)
          have i1 := idx_nat (get_atI (l := v.Dims) (show k < v.Dims.length by omega))
          have hl := flipU_len v at_ k
          have ek : ((k + 1 : Nat) : Int) = (k : Int) + 1 := by omega
          simp only [F.adjointref1_Flip_l1, dec_lt hx, cond_true, idx_nat hx, has1_ok fu at_ _ ha hf, Option.bind_some, hw]
          rw [flipU_succ, ek, filter_lt at_ (k : Int) hnd]
          cases hh : hasB at_ (k : Int) with
          | false =>
            simp only [cond_false, Option.bind_some, Bool.false_eq_true, if_false, List.append_nil]
            rw [chk_app (by simp only [List.length_singleton]; omega) (by simp only [List.length_singleton]; omega)]
            rfl
          | true =>
            simp only [cond_true, i1, Option.bind_some, if_true, List.foldl_append, List.foldl_cons, List.foldl_nil]
            unfold gF
            rw [Int.toNat_natCast]
            by_cases h0 : atI v.Dims k > 0
            · rw [dec_true h0, if_pos h0]
              simp only [cond_true, Option.bind_some]
              rw [chk_app (by simp only [List.length_singleton]; omega) (by simp only [List.length_singleton]; omega)]
              rfl
            · rw [dec_false h0, if_neg h0]
              simp only [cond_false, Option.bind_some]
              rw [chk_app (by simp only [List.length_singleton]; omega) (by simp only [List.length_singleton]; omega)]
              rfl)
        (by
          have : (at_.filter fun x => decide (x < (v.Steps.length : Int))) = at_ := List.filter_eq_self.2 fun x hx => by have := hrm x hx; simp; omega
          rw [← hsl] at *
          simp only [F.adjointref1_Flip_l1, dec_end, cond_false, this]) fu (by omega)
      have e0 : (at_.filter fun x => decide (x < ((0 : Nat) : Int))) = [] := List.filter_eq_nil_iff.2 fun x hx => by have := hrm x hx; simp; omega
      rw [e0, List.foldl_nil, show flipU v at_ 0 = [] from rfl, show ((0 : Nat) : Int) = 0 from rfl] at h
      have hdn := made_ok fu (flipV v at_) hsz (by unfold flipV; simp only [flipU_len]) hf
      unfold flipV at hdn
      simp only [Bool.not_true, cond_false, h, hdn, Option.bind_some, if_true]
      rfl
  · rw [if_pos hw0, bne_true hw0, cond_true]; rfl
theorem prodF_app : ∀ (l : List Int) (n x : Int), prodF n (l ++ [x]) = prodF n l * x
 | [], n, x => rfl
 | y :: r, n, x => prodF_app r (n * y) x
theorem prodF_split : ∀ (l m : List Int) (n : Int), prodF n (l ++ m) = prodF (prodF n l) m
 | [], m, n => rfl
 | y :: r, m, n => prodF_split r m (n * y)
theorem prodF_take {l : List Int} (h : ∀ x ∈ l, 1 ≤ x) (k : Nat) : 1 ≤ prodF 1 (l.take k) ∧ prodF 1 (l.take k) ≤ prodR l := by
 have h1 := prodF_mono (l.take k) 1 (by omega) fun x hx => h x (List.mem_of_mem_take hx)
 refine ⟨h1, ?_⟩
 have h2 := prodF_mono (l.drop k) (prodF 1 (l.take k)) (by omega) fun x hx => h x (List.mem_of_mem_drop hx)
 rw [← prodF_split, List.take_append_drop, prodF_eq l, Int.one_mul] at h2
 exact h2
def blkS (p t : Int) : List Sblock := if p = 1 then [] else [⟨p, t⟩]
theorem blocks_ok (fu : Nat) (d : List Int) (h : (sizeS d).2 = 0) (hz : hasB d 0 = false) (hf : 4000000 < fu) : F.view_blocks fu ⟨0, d, stepsS d⟩ = some (blkS (prodR d) 1) := by
  obtain ⟨h6, hg, hp, _⟩ := size_zero h
  obtain ⟨h1, h2, _⟩ := hp hz
  unfold F.view_blocks
  have hss : stepsS d = stepsR d := by unfold stepsS; rw [hz]; rfl
  have hl := loop_count (body := F.view_blocks_l1 fu ⟨0, d, stepsS d⟩) d.length (fun k => ((k : Int), blkS (prodF 1 (d.take k)) (prodR (d.drop k)))) (blkS (prodF 1 d) 1)
    (fun k hk => by
      have hx := get_atI hk
      have hw := wrap_succ hk (by omega)
      have i1 := idx_nat (get_atI (l := stepsR d) (show k < (stepsR d).length by rw [stepsR_len]; exact hk))
      rw [stepsR_get d k hk] at i1
      have hpk := prodF_take h1 k
      have hpk1 := prodF_take h1 (k + 1)
      rw [take_succ hx, prodF_app] at hpk1
      have hxg := hg _ (List.mem_of_getElem? hx)
      have hx1 := h1 _ (List.mem_of_getElem? hx)
      have hd : d.drop k = atI d k :: d.drop (k + 1) := by
        rw [List.drop_eq_getElem_cons hk, ← (List.getElem?_eq_some_iff.1 hx).2]
      have q1 := prodR_drop d h1 k
      have q2 := prodR_pos (d.drop (k + 1)) fun x hx => h1 x (List.mem_of_mem_drop hx)
      have q3 := prodR_drop d h1 (k + 1)
      rw [hd, show prodR (atI d k :: d.drop (k + 1)) = prodR (d.drop (k + 1)) * atI d k from rfl] at q1
      simp only [F.view_blocks_l1, dec_lt hx, cond_true, idx_nat hx, Option.bind_some, hw, hss, i1]
      rw [take_succ hx, prodF_app, hd, show prodR (atI d k :: d.drop (k + 1)) = prodR (d.drop (k + 1)) * atI d k from rfl]
      by_cases e1 : atI d k = 1
      · rw [e1, Int.mul_one, Int.mul_one]; rfl
      · have eb : (atI d k == 1) = false := by simp [e1]
        rw [eb, cond_false]
        have w1 : IntKind.i64.wrap (atI d k * prodR (d.drop (k + 1))) = prodR (d.drop (k + 1)) * atI d k := by rw [Int.mul_comm, i64 (by have := Int.mul_nonneg (show 0 ≤ prodR (d.drop (k + 1)) by omega) (show 0 ≤ atI d k by omega); omega) (by omega)]
        have w2 : IntKind.i64.wrap (prodF 1 (d.take k) * atI d k) = prodF 1 (d.take k) * atI d k := i64 (by omega) (by omega)
        have hne : prodF 1 (d.take k) * atI d k ≠ 1 := fun e => by
          have := Int.mul_le_mul_of_nonneg_right hpk.1 (show 0 ≤ atI d k by omega)
          omega
        by_cases e0 : prodF 1 (d.take k) = 1
        · unfold blkS
          rw [e0, Int.one_mul, if_pos rfl, if_neg e1]
          rfl
        · unfold blkS
          rw [if_neg e0, if_neg hne]
          simp only [List.length_singleton]
          rw [show IntKind.i64.wrap (((1 : Nat) : Int) - 1) = ((0 : Nat) : Int) from rfl]
          rw [idx_nat (show [(⟨prodF 1 (d.take k), prodR (d.drop (k + 1)) * atI d k⟩ : Sblock)][0]? = some _ from rfl)]
          simp only [Option.bind_some, w1, w2, Int.toNat_natCast, List.getElem?_cons_zero, List.set_cons_zero, show decide (((1 : Nat) : Int) > 0) = true from rfl, cond_true, beq_self_eq_true])
    (by simp only [F.view_blocks_l1, dec_end, cond_false, List.take_length, List.drop_length]; rfl) fu (by omega)
  rw [show ((0 : Nat) : Int) = 0 from rfl, show blkS (prodF 1 (d.take 0)) (prodR (d.drop 0)) = [] from rfl] at hl
  rw [hl, prodF_eq, Int.one_mul]
  rfl
def formU (e : List Int) (k : Nat) : List Int := (List.range e.length).map fun (i : Nat) => if i < k ∨ atI e i = 1 then 0 else prodR (e.drop (i + 1))
theorem formU_len (e : List Int) (k : Nat) : (formU e k).length = e.length := by unfold formU; simp
theorem formU_get {e : List Int} {k i : Nat} (h : i < e.length) : (formU e k)[i]? = some (if i < k ∨ atI e i = 1 then 0 else prodR (e.drop (i + 1))) := by
 unfold formU; rw [List.getElem?_map, List.getElem?_range h]; rfl
theorem formU_all (e : List Int) : formU e e.length = List.replicate e.length 0 := by
 apply List.ext_getElem?
 intro i
 rw [List.getElem?_replicate]
 by_cases h : i < e.length
 · rw [formU_get h, if_pos h, if_pos (.inl h)]
 · rw [if_neg h, List.getElem?_eq_none (by rw [formU_len]; omega)]
theorem formU_one {e : List Int} {k : Nat} (h : atI e k = 1) : formU e (k + 1) = formU e k := by
  unfold formU
  apply List.map_congr_left
  intro i _
  by_cases hi : i = k
  · subst hi; rw [if_pos (.inr h), if_pos (.inr h)]
  · have : (i < k + 1 ∨ atI e i = 1) ↔ (i < k ∨ atI e i = 1) := by constructor <;> intro h <;> rcases h with h | h <;> (try exact .inr h) <;> exact .inl (by omega)
    by_cases h2 : i < k ∨ atI e i = 1
    · rw [if_pos h2, if_pos (this.2 h2)]
    · rw [if_neg h2, if_neg (fun h3 => h2 (this.1 h3))]
theorem formU_set {e : List Int} {k : Nat} (hk : k < e.length) (h : atI e k ≠ 1) : (formU e (k + 1)).set k (prodR (e.drop (k + 1))) = formU e k := by
  apply List.ext_getElem?
  intro i
  rw [List.getElem?_set]
  by_cases hi : i < e.length
  · rw [formU_get hi]
    by_cases e2 : k = i
    · subst e2
      rw [if_pos rfl, if_pos (by rw [formU_len]; exact hi), formU_get hi, if_neg (by intro h3; rcases h3 with h3 | h3 <;> omega)]
    · rw [if_neg e2, formU_get hi]
      have : (i < k + 1 ∨ atI e i = 1) ↔ (i < k ∨ atI e i = 1) := by constructor <;> intro h <;> rcases h with h | h <;> (try exact .inr h) <;> exact .inl (by omega)
      by_cases h2 : i < k ∨ atI e i = 1
      · rw [if_pos h2, if_pos (this.2 h2)]
      · rw [if_neg h2, if_neg (fun h3 => h2 (this.1 h3))]
  · rw [List.getElem?_eq_none (show (formU e k).length ≤ i by rw [formU_len]; omega)]
    by_cases e2 : k = i
    · omega
    · rw [if_neg e2]; exact List.getElem?_eq_none (by rw [formU_len]; omega)
theorem back_ok (fu : Nat) (e : List Int) (s : Int) (l0 : List Int) (h : (sizeS e).2 = 0) (hz : hasB e 0 = false) (hf : 4000000 < fu) :
    F.slices_Backward_1_2 fu 0 e 0 [] [] 0 s l0 (List.replicate e.length 0) (blkS (prodR e) 1) = some (0, e, 0, [], [], 0, s, l0, formU e 0, []) := by
  obtain ⟨h6, hg, hp, _⟩ := size_zero h
  obtain ⟨h1, h2, _⟩ := hp hz
  unfold F.slices_Backward_1_2
  have hl := loop_count (body := F.slices_Backward_1_2_l1 fu e) e.length (fun j => ((e.length : Int) - 1 - (j : Int), 0, 0, [], [], 0, s, l0, formU e (e.length - j), blkS (prodF 1 (e.take (e.length - j))) (prodR (e.drop (e.length - j))))) (Ex.brk (0, 0, [], [], 0, s, l0, formU e 0, []))
    (fun j hj => by
      obtain ⟨k, hk⟩ : ∃ k : Nat, e.length - j = k + 1 := ⟨e.length - j - 1, by omega⟩
      have e1 : (e.length : Int) - 1 - (j : Int) = (k : Int) := by omega
      have hx := get_atI (l := e) (show k < e.length by omega)
      have e2 : e.length - (j + 1) = k := by omega
      have e3 : (e.length : Int) - 1 - ((j + 1 : Nat) : Int) = (k : Int) - 1 := by omega
      have hw : IntKind.i64.wrap ((k : Int) - 1) = (k : Int) - 1 := i64 (by omega) (by omega)
      have hd : e.drop k = atI e k :: e.drop (k + 1) := by
        rw [List.drop_eq_getElem_cons (show k < e.length by omega), ← (List.getElem?_eq_some_iff.1 hx).2]
      have hpk := prodF_take h1 k
      have hpk1 := prodF_take h1 (k + 1)
      rw [take_succ hx, prodF_app] at hpk1
      have hxg := hg _ (List.mem_of_getElem? hx)
      have hx1 := h1 _ (List.mem_of_getElem? hx)
      have q1 := prodR_drop e h1 k
      have q2 := prodR_pos (e.drop (k + 1)) fun x hx => h1 x (List.mem_of_mem_drop hx)
      rw [hd, show prodR (atI e k :: e.drop (k + 1)) = prodR (e.drop (k + 1)) * atI e k from rfl] at q1
      rw [e1, e2, e3, hk]
      simp only [F.slices_Backward_1_2_l1, dec_true (show (k : Int) ≥ 0 by omega), cond_true, idx_nat hx, Option.bind_some, hw, chkT, chk_pos (show (0 : Int) = 0 from rfl)]
      rw [take_succ hx, prodF_app, hd, show prodR (atI e k :: e.drop (k + 1)) = prodR (e.drop (k + 1)) * atI e k from rfl]
      unfold F.view_Reform_y
      by_cases ek : atI e k = 1
      · rw [ek, Int.mul_one, Int.mul_one, formU_one ek]
        simp only [show ((1 : Int) == 1) = true from rfl, cond_true, bindE, Option.bind_some, natBeq, show ((0 : Int) == 0) = true from rfl, Bool.not_true, cond_false]
      · have eb : (atI e k == 1) = false := by simp [ek]
        have hne : prodF 1 (e.take k) * atI e k ≠ 1 := fun h => by
          have := Int.mul_le_mul_of_nonneg_right hpk.1 (show 0 ≤ atI e k by omega)
          omega
        have hb : blkS (prodF 1 (e.take k) * atI e k) (prodR (e.drop (k + 1))) = [⟨prodF 1 (e.take k) * atI e k, prodR (e.drop (k + 1))⟩] := if_neg hne
        have hm : Int.tmod (prodF 1 (e.take k) * atI e k) (atI e k) = 0 := by rw [Int.mul_tmod_left]
        have hq : Int.tdiv (prodF 1 (e.take k) * atI e k) (atI e k) = prodF 1 (e.take k) := Int.mul_tdiv_cancel _ (by omega)
        have w1 : IntKind.i64.wrap (prodF 1 (e.take k)) = prodF 1 (e.take k) := i64 (by omega) (by omega)
        have w2 : IntKind.i64.wrap (prodR (e.drop (k + 1)) * atI e k) = prodR (e.drop (k + 1)) * atI e k := i64 (by have := Int.mul_nonneg (show 0 ≤ prodR (e.drop (k + 1)) by omega) (show 0 ≤ atI e k by omega); omega) (by omega)
        have w0 : IntKind.i64.wrap (((1 : Nat) : Int) - 1) = ((0 : Nat) : Int) := rfl
        have gf := idx_nat (get_atI (l := formU e (k + 1)) (show k < (formU e (k + 1)).length by rw [formU_len]; omega))
        have gi : ∀ b : Sblock, idx [b] ((0 : Nat) : Int) = some b := fun b => idx_nat rfl
        rw [eb, hb]
        simp only [cond_false, List.length_singleton, w0, gi, Option.bind_some, chk_pos (show atI e k ≠ 0 by omega), hm, hq, w1, w2, gf, List.length_set, Int.toNat_natCast, List.set_cons_zero, List.getElem?_cons_zero, show ((0 : Int) != 0) = false from rfl, amb_self]
        by_cases e0 : prodF 1 (e.take k) = 1
        · rw [e0]
          simp only [beq_self_eq_true, cond_true, chk_pos (show (0 : Int) ≤ ((0 : Nat) : Int) ∧ ((0 : Nat) : Int) ≤ ((1 : Nat) : Int) by omega), chk_pos (show (0 : Nat) ≤ 1 by omega), Option.bind_some, formU_set (show k < e.length by omega) ek, bindE, natBeq, formU_len, Bool.not_true, cond_false]
          rfl
        · have eb0 : (prodF 1 (e.take k) == 1) = false := by simp [e0]
          rw [eb0]
          simp only [cond_false, Option.bind_some, formU_set (show k < e.length by omega) ek, bindE, natBeq, formU_len, beq_self_eq_true, cond_true, Bool.not_true]
          unfold blkS
          rw [if_neg e0])
    (by
      have e1 : ¬ ((e.length : Int) - 1 - (e.length : Int) ≥ 0) := by omega
      simp only [F.slices_Backward_1_2_l1, dec_false e1, cond_false, Nat.sub_self, List.take_zero]
      rfl) fu (by omega)
  have e0 : IntKind.i64.wrap ((e.length : Int) - 1) = (e.length : Int) - 1 - ((0 : Nat) : Int) := by rw [i64 (by omega) (by omega)]; simp
  simp only [Nat.sub_zero, List.drop_length, List.take_length, formU_all] at hl
  rw [show prodR [] = 1 from rfl, prodF_eq, Int.one_mul] at hl
  simp only [e0, hl]
  rfl
def formV (e : List Int) : SView := ⟨0, e, if (sizeS e).1 = 0 then List.replicate e.length 0 else formU e 0⟩
def formS (d e : List Int) : SView × Int := if (sizeS e).2 ≠ 0 then (nilV, (sizeS e).2) else if (sizeS d).1 ≠ (sizeS e).1 then (nilV, 6) else (formV e, 0)
theorem whole_wrong {d : List Int} (h : (sizeS d).2 = 0) : wrongS ⟨0, d, stepsS d⟩ = 0 := by
 obtain ⟨h6, hg, hp, _⟩ := size_zero h
 have hlen : (stepsS d).length = d.length := by unfold stepsS; split <;> simp [stepsR_len]
 unfold wrongS
 rw [if_neg (by simpa using h), if_neg (by simpa using hlen), if_neg]
 rw [Bool.not_eq_true, Bool.or_eq_false_iff, List.any_eq_false]
 refine ⟨rfl, fun s hs => ?_⟩
 have : 0 ≤ s ∧ s ≤ 65536 := by
  replace hs : s ∈ stepsS d := hs
  unfold stepsS at hs
  cases hz : hasB d 0 with
  | true =>
   rw [hz] at hs
   have := (List.mem_replicate.1 hs).2; omega
  | false =>
   rw [hz] at hs
   obtain ⟨h1, h2, _⟩ := hp hz
   simp only [Bool.false_eq_true, if_false] at hs
   obtain ⟨k, hk⟩ := List.getElem?_of_mem hs
   have hkl := get_lt hk
   rw [stepsR_len] at hkl
   have e := stepsR_get d k hkl
   rw [atI_get hk] at e
   have := prodR_drop d h1 (k + 1)
   have := prodR_pos (d.drop (k + 1)) fun x hx => h1 x (List.mem_of_mem_drop hx)
   omega
 unfold nearB
 simp
 omega
theorem form_wrong {e : List Int} (h : (sizeS e).2 = 0) (hz : hasB e 0 = false) : wrongS ⟨0, e, formU e 0⟩ = 0 := by
  obtain ⟨h6, hg, hp, _⟩ := size_zero h
  obtain ⟨h1, h2, _⟩ := hp hz
  unfold wrongS
  rw [if_neg (by simpa using h), if_neg (by simpa using formU_len e 0), if_neg]
  rw [Bool.not_eq_true, Bool.or_eq_false_iff, List.any_eq_false]
  refine ⟨rfl, fun s hs => ?_⟩
  have : 0 ≤ s ∧ s ≤ 65536 := by
    replace hs : s ∈ formU e 0 := hs
    unfold formU at hs
    obtain ⟨i, hi, rfl⟩ := List.mem_map.1 hs
    split
    · omega
    · have := prodR_drop e h1 (i + 1)
      have := prodR_pos (e.drop (i + 1)) fun x hx => h1 x (List.mem_of_mem_drop hx)
      omega
  unfold nearB
  simp
  omega
theorem reform_ok (fu : Nat) (d e : List Int) (h : (sizeS d).2 = 0) (he : e.length ≤ 4000000) (hf : 4000000 < fu) : F.view_Reform fu ⟨0, d, stepsS d⟩ e = some (formS d e) := by
  obtain ⟨h6, hg, hp, hq⟩ := size_zero h
  have hlen : (stepsS d).length = d.length := by unfold stepsS; split <;> simp [stepsR_len]
  unfold F.view_Reform formS
  simp only [wrong_ok fu ⟨0, d, stepsS d⟩ (show d.length ≤ _ by omega) (show (stepsS d).length ≤ _ by omega) hf, whole_wrong h, Option.bind_some, size_ok fu e he hf, size_ok fu d (by omega) hf]
  rw [show ((0 : Int) != 0) = false from rfl, cond_false]
  by_cases hz : (sizeS e).2 = 0
  · rw [if_neg (by omega), bne_false hz, cond_false]
    by_cases hs : (sizeS d).1 = (sizeS e).1
    · rw [if_neg (by omega), bne_false hs, cond_false, clone_ok fu e (by omega), Option.bind_some, chk_pos (by omega), Option.bind_some]
      simp only [Option.bind_some, amb_self, amb2_self]
      obtain ⟨g6, gg, gp, gq⟩ := size_zero hz
      cases hez : hasB e 0 with
      | true =>
        have := gq hez
        have eb : ((sizeS e).1 == 0) = true := by simp [this]
        rw [eb, cond_true]
        unfold formV
        rw [if_pos this, Int.toNat_natCast]
      | false =>
        obtain ⟨g1, g2, g3⟩ := gp hez
        have g4 := prodR_pos e g1
        have hdz : hasB d 0 = false := by
          cases hb : hasB d 0 with
          | false => rfl
          | true => have := hq hb; omega
        obtain ⟨_, _, h3⟩ := hp hdz
        have eb : ((sizeS e).1 == 0) = false := by simp; omega
        rw [eb, cond_false, blocks_ok fu d h hdz hf]
        rw [show prodR d = prodR e by omega]
        unfold F.slices_Backward
        simp only [Option.bind_some, Int.toNat_natCast, back_ok fu e 0 e hz hez hf, natBeq, formU_len, List.length_replicate, cond_true, show ((0 : Int) == 0) = true from rfl]
        have hdn := done_ok fu ⟨0, e, formU e 0⟩ hz (formU_len e 0) hf
        unfold doneS at hdn
        rw [if_pos (form_wrong hz hez)] at hdn
        rw [hdn]
        unfold formV
        rw [if_neg (by omega)]
        rfl
    · rw [if_pos hs, bne_true hs, cond_true]; rfl
  · rw [if_pos hz, bne_true hz, cond_true]; rfl
end Go.DN.Pl
