/-
  AM, part BG: make of elements of any make.
-/
import Derived.Test.YtllnemgkfdgljaaBmF
set_option linter.unusedSectionVars false
set_option linter.unusedSimpArgs false
set_option linter.unusedVariables false
namespace Go.AM
/-! ### The parts of a code, by the way that leads there -/
def cOf (f : Func) : Code := f.body.getD .skip
def cSeqL : Code → Code | .seq a _ => a | c => c
def cSeqR : Code → Code | .seq _ b => b | c => c
def cCondL : Code → Code | .cond _ a _ => a | c => c
def cCondR : Code → Code | .cond _ _ b => b | c => c
def cBlk : Code → Code | .block _ a => a | c => c
def cScope : Code → Code | .scope a => a | c => c
def cLoop : Code → Code | .loop a => a | c => c
def cAsg : Code → Code | .rangeFunc _ _ a _ => a | c => c
def cBody : Code → Code | .rangeFunc _ _ _ b => b | c => c
theorem lend_cons {H : List Nat} {st : List (Nat × Blk)} {g g' : G} {r r' : List G} (h1 : lendG H st g = some g') (h2 : lendG.go H st r = some r') : lendG.go H st (g :: r) = some (g' :: r') := by
  simp only [lendG.go, h1, h2]
section
variable {α : Type} [Enc α]
variable {P : Program} {N : Nat} {cx : Cx} {s : St} {W : List Nat} {d : Nat}
variable {ty : TypeId} {pos : String} {after : Array Edge} {guard : Option (Nat × Bool)}

theorem ET.makeN {x : α} {t e : TypeId} {xo yo : Operand} {z : Value} {bt sz : Nat} {k k' : IntKind} {n : Int} (hd : Nat) (hx : ev s xo = some (.val (.int k n))) (hy : ev s yo = some (.val (.int k' n)))
    (ht : P.underlying t = some (.slice e)) (hi : (P.info? e).map (fun i => (i.zero, i.size, i.bytes)) = some (some z, sz, bt)) (hzs : z.cells.size = sz) (hsz : Enc.sz α = sz) (he : z.cells.toList.map viewV = Enc.cells x)
    (h0 : 0 ≤ n) (hb : (bt : Int) * n ≤ 281474976710656) (h63 : n ≤ 9223372036854775807) (hfr : fresh s hd = true) :
    Effect P W s ⟨some d, .makeSlice t xo yo, ty, pos, after, guard⟩ (· = { fr := (d, .osl hd (Enc.sz α) 0 (List.replicate n.toNat x).length) :: s.fr, st := (hd, ⟨e, true, true, true, Enc.sz α, encs (List.replicate n.toNat x), none⟩) :: s.st, df := s.df }) := by
  subst hsz
  refine Effect.of (s1 := { fr := s.fr, st := (hd, ⟨e, true, true, true, Enc.sz α, encs (List.replicate n.toNat x), none⟩) :: s.st, df := s.df }) (g := .osl hd (Enc.sz α) 0 (List.replicate n.toNat x).length) rfl (fun _ h => by cases h) ?_
  intro N cx μ a w hr
  obtain ⟨i, hi1, hi2⟩ := Option.map_eq_some_iff.1 hi
  simp only [Prod.mk.injEq] at hi2
  obtain ⟨hz, hs1, hb1⟩ := hi2
  have hpos : 0 < Enc.sz α := Enc.pos
  have hms : (madeCells z.cells (n.toNat * i.size)).size = n.toNat * Enc.sz α := by rw [size_madeCells, hs1]
  obtain ⟨μ', w', rfl, h1, h2, h3⟩ := hr.allocNew (k := ⟨e, true, true, true, Enc.sz α, encs (List.replicate n.toNat x), none⟩) (cs := madeCells z.cells (n.toNat * i.size)) hfr rfl (by rw [hms]; simp only [encs_length, List.length_replicate]; exact Nat.le_refl _)
    (fun _ => by rw [hms]; exact Nat.mul_le_mul_right _ (by unfold maxLen; omega))
    (fun j g' hg' => by
      dsimp only at hg'
      unfold encs at hg'
      rw [flatMap_get Enc.cells (Enc.sz α) hpos (List.replicate n.toNat x) (fun a _ => Enc.len a) j, List.getElem?_replicate] at hg'
      split at hg'
      · rename_i hj
        simp only [Option.bind_some] at hg'
        rw [← he, List.getElem?_map] at hg'
        have hlt : j % Enc.sz α < z.cells.toList.length := by rw [Array.length_toList, hzs]; exact Nat.mod_lt _ hpos
        rw [List.getElem?_eq_getElem hlt] at hg'
        cases hg'
        refine ⟨z.cells.toList[j % Enc.sz α], ?_, ?_⟩
        · have hjn : j < n.toNat * i.size := by
            rw [hs1]
            exact (Nat.div_lt_iff_lt_mul hpos).1 hj
          have hmod : j % z.cells.size = j % Enc.sz α := by rw [hzs]
          rw [Array.length_toList] at hlt
          simp [madeCells, hjn, hmod, hlt]
        · unfold RepC
          exact viewV_rep _
      · cases hg')
    (fun h => by cases h) W
  have hrun := run_make (P := P) w t e i z ht hi1 hz k k' n n h0 (Int.le_refl _) (by rw [hb1]; exact hb) h63
  rw [hms] at h2
  refine ⟨_, μ', _, ?_, h1, .osl hd (Enc.sz α) 0 _ _ _ n.toNat h2 (by simp) (by simp), h3⟩
  simp [execOp, hr.val hx, hr.val hy, hrun]

variable {dst : Option Tmp}
/-- A cell of a struct's field that is itself a struct, of a list's element. -/
theorem YT.eltJJ {l : List α} {i : Int} {x : α} {t j j' : Nat} {xo : Operand} {g : G} (hx : ev s xo = some (.ptr ((((encs l).drop (i.toNat * Enc.sz α)).drop j).drop j'))) (h : idx l i = some x) (hg : (Enc.cells x)[j + j']? = some g) (hag : ∀ w, (isAgg t).run P w = .ok false w) :
    Yield P W s ⟨dst, .load t xo, ty, pos, after, guard⟩ g := YL.ptr hx (by rw [List.drop_drop, List.getElem?_drop, List.getElem?_drop, Nat.add_zero]; exact (encs_get (idx_spec h).2.2 (by rw [← Enc.len x]; exact (List.getElem?_eq_some_iff.1 hg).1)).trans hg) hag
theorem YT.eltJJF {l : List α} {i : Int} {x : α} {t j j' : Nat} {xo : Operand} {g g' : G} (hx : ev s xo = some (.fr (.ptr ((((encs l).drop (i.toNat * Enc.sz α)).drop j).drop j')))) (h : idx l i = some x) (hg : (Enc.cells x)[j + j']? = some g) (hag : ∀ w, (isAgg t).run P w = .ok false w) (hout : frG g = g') :
    Yield P W s ⟨dst, .load t xo, ty, pos, after, guard⟩ g' := YL.ptrF hx (by rw [List.drop_drop, List.getElem?_drop, List.getElem?_drop, Nat.add_zero]; exact (encs_get (idx_spec h).2.2 (by rw [← Enc.len x]; exact (List.getElem?_eq_some_iff.1 hg).1)).trans hg) hag hout
/-- A field that is a struct, of a list's element. -/
theorem YT.aggJ {l : List α} {i : Int} {x : α} {t j sz : Nat} {xo : Operand} {gs : List G} (hx : ev s xo = some (.ptr (((encs l).drop (i.toNat * Enc.sz α)).drop j))) (h : idx l i = some x) (hag : ∀ w, (isAgg t).run P w = .ok true w)
    (hsz : ∀ w, (sizeOf t).run P w = .ok sz w) (hl : j + sz ≤ Enc.sz α) (hg : ((Enc.cells x).drop j).take sz = gs) : Yield P W s ⟨dst, .load t xo, ty, pos, after, guard⟩ (.agg gs) := by
  have := YL.ptrAgg (P := P) (W := W) (dst := dst) (ty := ty) (pos := pos) (after := after) (guard := guard) hx (sz := sz) (by
    rw [List.length_drop, List.length_drop, encs_length]
    have h1 := (List.getElem?_eq_some_iff.1 (idx_spec h).2.2).1
    have : (i.toNat + 1) * Enc.sz α ≤ l.length * Enc.sz α := Nat.mul_le_mul_right _ h1
    rw [Nat.add_mul] at this
    omega) hag hsz
  have e : ((((encs l).drop (i.toNat * Enc.sz α)).drop j).take sz) = gs := by
    rw [← hg, ← encs_sub h, List.drop_take, List.take_take, Nat.min_eq_left (by omega)]
  rw [e] at this
  exact this
end
end Go.AM
