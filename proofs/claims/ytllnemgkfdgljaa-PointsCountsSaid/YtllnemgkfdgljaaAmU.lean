/-
  AM, part U: parts of slices and of texts.
-/
import Derived.Test.YtllnemgkfdgljaaAmT
import Derived.Laws.Slices
import Derived.Laws.Strings2
set_option linter.unusedSectionVars false
set_option linter.unusedSimpArgs false
set_option linter.unusedVariables false
namespace Go.AM

section
variable {α : Type} [Enc α]
variable {P : Program} {N : Nat} {cx : Cx} {s : St} {W : List Nat}
variable {dst : Option Tmp} {ty : TypeId} {pos : String} {after : Array Edge} {guard : Option (Nat × Bool)}

theorem elem_of {t e : TypeId} (ht : P.underlying t = some (.slice e)) : P.underlying t = some (.slice (P.elem t)) := by
  have : P.elem t = e := by unfold Program.elem; rw [ht]
  rw [this]; exact ht

/-- A part of a list. -/
def lpart (l : List α) (i j : Int) : List α := (l.drop i.toNat).take (j.toNat - i.toNat)
omit [Enc α] in
theorem lpart_length {l : List α} {i j : Int} (_ : 0 ≤ i) (h1 : i ≤ j) (h2 : j ≤ (l.length : Int)) : (lpart l i j).length = j.toNat - i.toNat := by
  unfold lpart; rw [List.length_take, List.length_drop]; omega

theorem RepI.part {O : Nat → Prop} {w : World} {l : List α} {v : Value} {i j : Int} (h : RepI O w (.sl l.length (encs l)) v) (h0 : 0 ≤ i) (h1 : i ≤ j) (h2 : j ≤ (l.length : Int)) :
    ∃ (a : Option Addr) (len cap : Nat), v = .slice a len cap ∧ (len : Int) = l.length ∧ j ≤ cap ∧ (len : Int) ≤ cap ∧ ∀ m : Nat, (m : Int) = cap → RepI O w (.sl (lpart l i j).length (encs (lpart l i j))) (sliced a i.toNat j.toNat m (Enc.sz α)) := by
  have zero : l = [] → lpart l i j = [] := fun e => by subst e; simp [lpart]
  generalize hn : l.length = n at h
  generalize hc : encs l = cs at h
  cases h with
  | nil =>
    have hl : l = [] := List.eq_nil_of_length_eq_zero hn
    refine ⟨none, 0, 0, rfl, by omega, by omega, by omega, fun m hm => ?_⟩
    rw [zero hl]
    obtain rfl : m = 0 := by omega
    obtain rfl : i = 0 := by omega
    obtain rfl : j = 0 := by omega
    exact .nil
  | emp a cap =>
    have hl : l = [] := List.eq_nil_of_length_eq_zero hn
    refine ⟨some a, 0, cap, rfl, by omega, by omega, by omega, fun m hm => ?_⟩
    rw [zero hl]
    obtain rfl : i = 0 := by omega
    obtain rfl : j = 0 := by omega
    unfold sliced
    split
    · exact .emp _ _
    · exact .emp _ _
  | sl _ _ b off cap us hle hO hb hcell hr =>
    subst hn
    subst hc
    refine ⟨_, _, cap, rfl, rfl, by omega, by omega, fun m hm => ?_⟩
    obtain rfl : m = cap := by omega
    unfold sliced
    by_cases e : m = i.toNat
    · have : (lpart l i j).length = 0 := by rw [lpart_length h0 h1 h2]; omega
      have e2 : lpart l i j = [] := List.eq_nil_of_length_eq_zero this
      rw [e2, if_pos e]
      have e3 : j.toNat - i.toNat = 0 := by omega
      rw [e3]
      exact .emp _ _
    · rw [if_neg e, Option.map_some, Addr.add_off, lpart_length h0 h1 h2]
      have hsub : encs (lpart l i j) = ((encs l).drop (i.toNat * Enc.sz α)).take ((j.toNat - i.toNat) * Enc.sz α) := by
        unfold lpart
        rw [← encs_take, ← encs_drop]
      have hlen : (encs (lpart l i j)).length = (j.toNat - i.toNat) * Enc.sz α := by rw [encs_length, lpart_length h0 h1 h2]
      have hbig : i.toNat * Enc.sz α + (j.toNat - i.toNat) * Enc.sz α ≤ l.length * Enc.sz α := by
        rw [← Nat.add_mul]; exact Nat.mul_le_mul_right _ (by omega)
      refine .sl _ _ b (off + i.toNat * Enc.sz α) (m - i.toNat) (fun q => us (i.toNat * Enc.sz α + q)) (by omega) hO hb (fun q hq => ?_) (fun q g hg => ?_)
      · rw [hlen] at hq
        have := hcell (i.toNat * Enc.sz α + q) (by rw [encs_length]; omega)
        rw [← this]
        congr 2
        omega
      · have hq := (List.getElem?_eq_some_iff.1 hg).1
        rw [hlen] at hq
        rw [hsub, List.getElem?_take, if_pos hq, List.getElem?_drop] at hg
        exact hr _ g hg

theorem run_part {t e : TypeId} (ht : P.underlying t = some (.slice e)) (hsz : ∀ w, (sizeOf e).run P w = .ok (Enc.sz α) w) {k k' : IntKind} {i j : Int} (a : Option Addr) (len cap : Nat) (h0 : 0 ≤ i) (h1 : i ≤ j) (h2 : j ≤ cap) (w : World) :
    (Instr.sliceAt t (.slice a len cap) (some (.int k i)) (some (.int k' j)) none).run P w = .ok (sliced a i.toNat j.toNat cap (Enc.sz α)) w := by
  have he := elem_of ht
  have e : P.elem t = e := by unfold Program.elem; rw [ht]
  rw [run_sliceAt_slice w t _ _ _ _ he, run_slice_lh w t a len cap he k k' i j h0 h1 h2, e, hsz w]
  rfl
theorem run_part_l {t e : TypeId} (ht : P.underlying t = some (.slice e)) (hsz : ∀ w, (sizeOf e).run P w = .ok (Enc.sz α) w) {k : IntKind} {i : Int} (a : Option Addr) (len cap : Nat) (h0 : 0 ≤ i) (h1 : i ≤ len) (w : World) :
    (Instr.sliceAt t (.slice a len cap) (some (.int k i)) none none).run P w = .ok (sliced a i.toNat len cap (Enc.sz α)) w := by
  have he := elem_of ht
  have e : P.elem t = e := by unfold Program.elem; rw [ht]
  rw [run_sliceAt_slice w t _ _ _ _ he, run_slice_l w t a len cap he k i h0 h1, e, hsz w]
  rfl
theorem run_part_h {t e : TypeId} (ht : P.underlying t = some (.slice e)) (hsz : ∀ w, (sizeOf e).run P w = .ok (Enc.sz α) w) {k : IntKind} {j : Int} (a : Option Addr) (len cap : Nat) (h0 : 0 ≤ j) (h1 : j ≤ cap) (w : World) :
    (Instr.sliceAt t (.slice a len cap) none (some (.int k j)) none).run P w = .ok (sliced a 0 j.toNat cap (Enc.sz α)) w := by
  have he := elem_of ht
  have e : P.elem t = e := by unfold Program.elem; rw [ht]
  rw [run_sliceAt_slice w t _ _ _ _ he, run_slice_h w t a len cap he k j h0 h1, e, hsz w]
  rfl

/-- How a slice reads, and its part. -/
def slG (f : Bool) (l : List α) : G := bif f then .fr (.sl l.length (encs l)) else .sl l.length (encs l)
theorem RepV.part {O : Nat → Prop} {base : Nat} {w : World} {μ : Mu} {f : Bool} {l : List α} {v : Value} {i j : Int} (h : RepV O base w μ (slG f l) v) (h0 : 0 ≤ i) (h1 : i ≤ j) (h2 : j ≤ (l.length : Int)) :
    ∃ (a : Option Addr) (len cap : Nat), v = .slice a len cap ∧ (len : Int) = l.length ∧ j ≤ cap ∧ (len : Int) ≤ cap ∧ RepV O base w μ (slG f (lpart l i j)) (sliced a i.toNat j.toNat cap (Enc.sz α)) := by
  cases f with
  | false =>
    cases h with
    | imm h => obtain ⟨a, len, cap, e1, e2, e3, e4, e5⟩ := h.part h0 h1 h2; exact ⟨a, len, cap, e1, e2, e3, e4, .imm (e5 cap rfl)⟩
  | true =>
    cases h with
    | imm h => cases h
    | fr h => obtain ⟨a, len, cap, e1, e2, e3, e4, e5⟩ := h.part h0 h1 h2; exact ⟨a, len, cap, e1, e2, e3, e4, .fr (e5 cap rfl)⟩

theorem PY.slice {t e : TypeId} {x lo hi : Operand} {f : Bool} {l : List α} {k k' : IntKind} {i j : Int} (hx : ev s x = some (slG f l)) (hl : ev s lo = some (.val (.int k i))) (hh : ev s hi = some (.val (.int k' j))) (ht : P.underlying t = some (.slice e)) (hsz : ∀ w, (sizeOf e).run P w = .ok (Enc.sz α) w)
    (h0 : 0 ≤ i) (h1 : i ≤ j) (h2 : j ≤ (l.length : Int)) : PY P s ⟨dst, .slice t x (some lo) (some hi) none, ty, pos, after, guard⟩ (slG f (lpart l i j)) := fun N cx μ a w hr => by
  obtain ⟨ad, len, cap, e1, e2, e3, e4, e5⟩ := (hr.ev hx).part h0 h1 h2
  refine ⟨_, e5, fun w' => ?_⟩
  simp [execOp, e1, hr.val hl, hr.val hh, run_part ht hsz ad len cap h0 h1 e3]
theorem PY.sliceL {t e : TypeId} {x lo : Operand} {f : Bool} {l : List α} {k : IntKind} {i : Int} (hx : ev s x = some (slG f l)) (hl : ev s lo = some (.val (.int k i))) (ht : P.underlying t = some (.slice e)) (hsz : ∀ w, (sizeOf e).run P w = .ok (Enc.sz α) w)
    (h0 : 0 ≤ i) (h1 : i ≤ (l.length : Int)) : PY P s ⟨dst, .slice t x (some lo) none none, ty, pos, after, guard⟩ (slG f (lpart l i (l.length : Int))) := fun N cx μ a w hr => by
  obtain ⟨ad, len, cap, e1, e2, e3, e4, e5⟩ := (hr.ev hx).part h0 h1 (Int.le_refl _)
  have e6 : len = ((l.length : Int)).toNat := by omega
  refine ⟨_, e5, fun w' => ?_⟩
  have := run_part_l (α := α) (P := P) ht hsz (k := k) ad len cap h0 (by omega) w'
  rw [← e6]
  simp [execOp, e1, hr.val hl, this]
theorem PY.sliceH {t e : TypeId} {x hi : Operand} {f : Bool} {l : List α} {k : IntKind} {j : Int} (hx : ev s x = some (slG f l)) (hh : ev s hi = some (.val (.int k j))) (ht : P.underlying t = some (.slice e)) (hsz : ∀ w, (sizeOf e).run P w = .ok (Enc.sz α) w)
    (h0 : 0 ≤ j) (h2 : j ≤ (l.length : Int)) : PY P s ⟨dst, .slice t x none (some hi) none, ty, pos, after, guard⟩ (slG f (lpart l 0 j)) := fun N cx μ a w hr => by
  obtain ⟨ad, len, cap, e1, e2, e3, e4, e5⟩ := (hr.ev hx).part (Int.le_refl 0) h0 h2
  refine ⟨_, e5, fun w' => ?_⟩
  have := run_part_h (α := α) (P := P) ht hsz (k := k) ad len cap h0 e3 w'
  simp [execOp, e1, hr.val hh, this]

/-! ### Texts -/
theorem PY.sliceS {t : TypeId} {x lo hi : Operand} {b : ByteArray} {k k' : IntKind} {i j : Int} (hx : ev s x = some (.val (.string b))) (hl : ev s lo = some (.val (.int k i))) (hh : ev s hi = some (.val (.int k' j))) (ht : P.underlying t = some .string)
    (h0 : 0 ≤ i) (h1 : i ≤ j) (h2 : j ≤ (b.size : Int)) : PY P s ⟨dst, .slice t x (some lo) (some hi) none, ty, pos, after, guard⟩ (.val (.string (b.extract i.toNat j.toNat))) := fun N cx μ a w hr => by
  refine ⟨_, .imm (.val _), fun w' => ?_⟩
  have eh : (j.toNat : Int) = j := Int.toNat_of_nonneg (by omega)
  have : (Instr.slice t (.string b) (some (.int k i)) (some (.int k' j)) none).run P w' = .ok (.string (b.extract i.toNat j.toNat)) w' := by
    simp [Instr.slice, run_underlying ht, Instr.sliceBounds, run_sliceBound, *, eh, (by omega : 0 ≤ i), (by omega : 0 ≤ j)]
  simp [execOp, hr.val hx, hr.val hl, hr.val hh, run_sliceAt_string w' t _ _ _ _ ht, this]
theorem PY.sliceSL {t : TypeId} {x lo : Operand} {b : ByteArray} {k : IntKind} {i : Int} (hx : ev s x = some (.val (.string b))) (hl : ev s lo = some (.val (.int k i))) (ht : P.underlying t = some .string)
    (h0 : 0 ≤ i) (h1 : i ≤ (b.size : Int)) : PY P s ⟨dst, .slice t x (some lo) none none, ty, pos, after, guard⟩ (.val (.string (b.extract i.toNat b.size))) := fun N cx μ a w hr => by
  refine ⟨_, .imm (.val _), fun w' => ?_⟩
  simp [execOp, hr.val hx, hr.val hl, run_sliceAt_string w' t _ _ _ _ ht, run_slice_string_l w' t b ht k i h0 h1]
theorem PY.sliceSH {t : TypeId} {x hi : Operand} {b : ByteArray} {k : IntKind} {j : Int} (hx : ev s x = some (.val (.string b))) (hh : ev s hi = some (.val (.int k j))) (ht : P.underlying t = some .string)
    (h0 : 0 ≤ j) (h2 : j ≤ (b.size : Int)) : PY P s ⟨dst, .slice t x none (some hi) none, ty, pos, after, guard⟩ (.val (.string (b.extract 0 j.toNat))) := fun N cx μ a w hr => by
  refine ⟨_, .imm (.val _), fun w' => ?_⟩
  simp [execOp, hr.val hx, hr.val hh, run_sliceAt_string w' t _ _ _ _ ht, run_slice_string_h w' t b ht k j h0 h2]

/-! ### A slice of the call's own, cut short -/
theorem PY.sliceO {t e : TypeId} {x hi : Operand} {h n : Nat} {k : IntKind} {j : Int} (hx : ev s x = some (.osl h (Enc.sz α) 0 n)) (hh : ev s hi = some (.val (.int k j))) (ht : P.underlying t = some (.slice e)) (hsz : ∀ w, (sizeOf e).run P w = .ok (Enc.sz α) w)
    (h0 : 0 ≤ j) (h2 : j ≤ (n : Int)) : PY P s ⟨dst, .slice t x none (some hi) none, ty, pos, after, guard⟩ (.osl h (Enc.sz α) 0 j.toNat) := fun N cx μ a w hr => by
  have hv := hr.ev hx
  have key : ∃ (ad : Option Addr) (len cap : Nat), a.eval x = .slice ad len cap ∧ j ≤ (cap : Int) ∧ RepV (cx.O s.st μ) cx.base w μ (.osl h (Enc.sz α) 0 j.toNat) (sliced ad 0 j.toNat cap (Enc.sz α)) := by
    generalize a.eval x = v at hv
    have hz : ∀ ad : Option Addr, sliced ad 0 0 0 (Enc.sz α) = .slice ad 0 0 := fun ad => by simp [sliced]
    cases hv with
    | imm hv => cases hv
    | onil _ _ hm =>
      obtain rfl : j = 0 := by omega
      exact ⟨none, 0, 0, rfl, by omega, .onil h _ hm⟩
    | osl _ _ _ _ b m cap hm hn hc =>
      refine ⟨_, _, cap, rfl, by omega, ?_⟩
      unfold sliced
      have : (if cap = 0 then (some ⟨b, 0, none⟩ : Option Addr) else (some (⟨b, 0, none⟩ : Addr)).map (·.add (0 * Enc.sz α))) = some ⟨b, 0, none⟩ := by
        split
        · rfl
        · simp [Addr.add]
      rw [this]
      exact .osl h _ 0 _ b m cap hm (by omega) hc
    | ozero _ _ off0 b m hm hpos => omega
  obtain ⟨ad, len, cap, e1, e2, e3⟩ := key
  refine ⟨_, e3, fun w' => ?_⟩
  have := run_part_h (α := α) (P := P) ht hsz (k := k) ad len cap h0 e2 w'
  simp [execOp, e1, hr.val hh, this]

theorem Rel.trunc {μ : Mu} {a : Act} {w : World} (h : Rel N cx μ s a w) {hh : Nat} {k : Blk} {l : List α} (hk : sget s.st hh = some k) (hc : k.cells = encs l) (n : Nat) (hlp : k.lp = none) :
    Rel N cx μ { fr := s.fr, st := sset s.st hh { k with cells := encs (l.take n) }, df := s.df } a w := by
  refine h.restate hk rfl rfl rfl ?_ hlp hlp fun j g' hg' => ⟨g', ?_, fun v hv => hv⟩
  · simp only; rw [hc, ← encs_take, List.length_take]; omega
  · simp only at hg'
    rw [← encs_take, List.getElem?_take] at hg'
    split at hg'
    · rw [hc]; exact hg'
    · cases hg'
theorem GL.trunc {Q : Exit → St → Prop} {ops : Array Oper} {rest : List Oper} (hh : Nat) {k : Blk} {l : List α} (hk : sget s.st hh = some k) (hc : k.cells = encs l) (n : Nat)
    (h : GL P N cx ops Q rest { fr := s.fr, st := sset s.st hh { k with cells := encs (l.take n) }, df := s.df }) (hlp : k.lp = none := by rfl) : GL P N cx ops Q rest s := fun μ a w hr => h μ a w (hr.trunc hk hc n hlp)
theorem take_len {l : List α} {j : Int} (h0 : 0 ≤ j) (h1 : j ≤ (l.length : Int)) : j.toNat = (l.take j.toNat).length := by rw [List.length_take]; omega
end
end Go.AM
