/-
  AM, part P: the steps over encoded data.
-/
import Derived.Test.YtllnemgkfdgljaaAmO
set_option linter.unusedSectionVars false
set_option linter.unusedSimpArgs false
set_option linter.unusedVariables false
namespace Go.AM

section
variable {α : Type} [Enc α]
variable {P : Program} {N : Nat} {cx : Cx} {s : St} {W : List Nat}
variable {dst : Option Tmp} {ty : TypeId} {pos : String} {after : Array Edge} {guard : Option (Nat × Bool)}

theorem at_cell {l : List α} {i : Int} {x : α} (h : idx l i = some x) {j : Nat} {g : G} (hg : (Enc.cells x)[j]? = some g) : (encs l)[i.toNat * Enc.sz α + j]? = some g := by
  have hj : j < Enc.sz α := by have := (List.getElem?_eq_some_iff.1 hg).1; rw [Enc.len] at this; exact this
  rw [encs_get (idx_spec h).2.2 hj]; exact hg

/-- An element's cell, read out of immutable memory. -/
theorem YT.elt {l : List α} {i : Int} {x : α} {t : TypeId} {xo : Operand} {g : G} (hx : ev s xo = some (.ptr ((encs l).drop (i.toNat * Enc.sz α)))) (h : idx l i = some x) (hg : (Enc.cells x)[0]? = some g) (hag : ∀ w, (isAgg t).run P w = .ok false w) :
    Yield P W s ⟨dst, .load t xo, ty, pos, after, guard⟩ g := YL.ptr hx (by rw [List.getElem?_drop]; exact at_cell h hg) hag
theorem YT.eltJ {l : List α} {i : Int} {x : α} {t j : Nat} {xo : Operand} {g : G} (hx : ev s xo = some (.ptr (((encs l).drop (i.toNat * Enc.sz α)).drop j))) (h : idx l i = some x) (hg : (Enc.cells x)[j]? = some g) (hag : ∀ w, (isAgg t).run P w = .ok false w) :
    Yield P W s ⟨dst, .load t xo, ty, pos, after, guard⟩ g := YL.ptr hx (by rw [List.getElem?_drop, List.getElem?_drop]; simpa using at_cell h hg) hag
theorem encs_sub {l : List α} {i : Int} {x : α} (h : idx l i = some x) : ((encs l).drop (i.toNat * Enc.sz α)).take (Enc.sz α) = Enc.cells x := by
  apply List.ext_getElem?
  intro j
  rw [List.getElem?_take]
  split
  · rename_i hj
    exact encs_drop_get (idx_spec h).2.2 hj
  · rename_i hj
    rw [List.getElem?_eq_none]
    rw [Enc.len]; omega
theorem YT.agg {l : List α} {i : Int} {x : α} {t : TypeId} {xo : Operand} (hx : ev s xo = some (.ptr ((encs l).drop (i.toNat * Enc.sz α)))) (h : idx l i = some x) (hag : ∀ w, (isAgg t).run P w = .ok true w)
    (hsz : ∀ w, (sizeOf t).run P w = .ok (Enc.sz α) w) : Yield P W s ⟨dst, .load t xo, ty, pos, after, guard⟩ (.agg (Enc.cells x)) := by
  have := YL.ptrAgg (P := P) (W := W) (dst := dst) (ty := ty) (pos := pos) (after := after) (guard := guard) hx (sz := Enc.sz α) (by
    rw [List.length_drop, encs_length]
    have h1 := (List.getElem?_eq_some_iff.1 (idx_spec h).2.2).1
    have : (i.toNat + 1) * Enc.sz α ≤ l.length * Enc.sz α := Nat.mul_le_mul_right _ h1
    rw [Nat.add_mul] at this
    omega) hag hsz
  rw [encs_sub h] at this
  exact this

/-- An element's cell, read out of a slice of the call's own. -/
theorem YT.own {l : List α} {i : Int} {x : α} {t h : Nat} {k : Blk} {xo : Operand} {g g' : G} (hx : ev s xo = some (.loc h (0 + i.toNat * Enc.sz α))) (hk : sget s.st h = some k) (hc : k.cells = encs l) (hi : idx l i = some x) (hg : (Enc.cells x)[0]? = some g)
    (hag : ∀ w, (isAgg t).run P w = .ok false w) (hW : W.contains h = false) (hout : k.out g = g') (hlp : k.lp = none := by rfl) : Yield P W s ⟨dst, .load t xo, ty, pos, after, guard⟩ g' :=
  YL.load hx hk (by rw [hc, Nat.zero_add]; exact at_cell hi hg) hag hW hout hlp

variable {d : Nat}

/-- A store into a slice of the call's own: elements of one cell. -/
theorem ET.set {l : List α} {i : Int} {x : α} {t h : Nat} {k : Blk} {xo yo : Operand} {g g' : G} {f : Bool} (hx : ev s xo = some (.loc h (0 + i.toNat * 1))) (hy : ev s yo = some g) (hk : sget s.st h = some k) (hc : k.cells = encs l) (hp : k.pure = true)
    (hi : immG g = some (g', f)) (hone : g.one = true) (he : Enc.cells x = [g']) (h1 : Enc.sz α = 1) (h0 : 0 ≤ i) (hn : i < (l.length : Int)) (hsz : ∀ w, (sizeOf t).run P w = .ok 1 w) (hW : W.contains h = true) (hlp : k.lp = none := by rfl) :
    Effect P W s ⟨none, .store t xo yo, ty, pos, after, guard⟩ (· = { fr := s.fr, st := sset s.st h { k with fresh := k.fresh && f, cells := encs (l.set i.toNat x) }, df := s.df }) := by
  have := EF.storeP (P := P) (W := W) (ty := ty) (pos := pos) (after := after) (guard := guard) hx hy hk hp hi hone hsz (by rw [hc, encs_length, h1]; omega) hW hlp
  rw [hc, encs_set he h1] at this
  exact this

/-- append of one element. -/
theorem ET.append1 {l : List α} {x : α} {t e : TypeId} {xo yo : Operand} {h bt : Nat} {k : Blk} {gy : G} {f : Bool} {z : Value} (hx : ev s xo = some (.osl h (Enc.sz α) 0 l.length)) (hy : ev s yo = some gy) (hk : sget s.st h = some k) (hc : k.cells = encs l)
    (hp : k.pure = true) (hety : k.ety = e) (hksz : k.sz = Enc.sz α) (hsrc : gsrc s.st (Enc.sz α) gy = some (Enc.cells x, 1, f)) (hap : gy.hasH h = false) (ht : P.underlying t = some (.slice e))
    (hi : (P.info? e).map (fun i => (i.zero, i.size, i.bytes)) = some (some z, Enc.sz α, bt)) (hzs : z.cells.size = Enc.sz α) (hmax : l.length + 1 ≤ maxLen) (hbound : (l.length + 1) * bt ≤ 140737488355328) (hW : W.contains h = true) (hlp : k.lp = none := by rfl) (hpn : pinned h = false := by rfl) (hdf : dfNo h s.df = true := by rfl) :
    Effect P W s ⟨some d, .call ⟨.builtin .append, #[xo, yo], #[t, t]⟩, ty, pos, after, guard⟩
      (· = { fr := (d, .osl h (Enc.sz α) 0 (l ++ [x]).length) :: killFr h s.fr, st := (h, { k with fresh := k.fresh && f, cells := encs (l ++ [x]) }) :: killSt h s.st, df := s.df }) := by
  have := EF.append (P := P) (d := d) (W := W) (ty := ty) (pos := pos) (after := after) (guard := guard) hx hy hk hp hety hksz (by rw [hc, encs_length]) hsrc (by rw [Enc.len, Nat.one_mul]) (fun g hg => Enc.one x g hg) hap ht hi hzs Enc.pos hmax hbound hW hlp hpn hdf
  have e1 : encs (l ++ [x]) = k.cells ++ Enc.cells x := by rw [encs_append, hc, encs_cons, encs_nil, List.append_nil]
  have e2 : (l ++ [x]).length = l.length + 1 := by simp
  rw [e1, e2]
  exact this

/-- append of a list. -/
theorem ET.append {l m : List α} {t e : TypeId} {xo yo : Operand} {h bt : Nat} {k : Blk} {gy : G} {f : Bool} {z : Value} (hx : ev s xo = some (.osl h (Enc.sz α) 0 l.length)) (hy : ev s yo = some gy) (hk : sget s.st h = some k) (hc : k.cells = encs l)
    (hp : k.pure = true) (hety : k.ety = e) (hksz : k.sz = Enc.sz α) (hsrc : gsrc s.st (Enc.sz α) gy = some (encs m, m.length, f)) (hap : gy.hasH h = false) (ht : P.underlying t = some (.slice e))
    (hi : (P.info? e).map (fun i => (i.zero, i.size, i.bytes)) = some (some z, Enc.sz α, bt)) (hzs : z.cells.size = Enc.sz α) (hmax : l.length + m.length ≤ maxLen) (hbound : (l.length + m.length) * bt ≤ 140737488355328) (hW : W.contains h = true) (hlp : k.lp = none := by rfl) (hpn : pinned h = false := by rfl) (hdf : dfNo h s.df = true := by rfl) :
    Effect P W s ⟨some d, .call ⟨.builtin .append, #[xo, yo], #[t, t]⟩, ty, pos, after, guard⟩
      (· = { fr := (d, .osl h (Enc.sz α) 0 (l ++ m).length) :: killFr h s.fr, st := (h, { k with fresh := k.fresh && f, cells := encs (l ++ m) }) :: killSt h s.st, df := s.df }) := by
  have := EF.append (P := P) (d := d) (W := W) (ty := ty) (pos := pos) (after := after) (guard := guard) hx hy hk hp hety hksz (by rw [hc, encs_length]) hsrc (by rw [encs_length]) (fun g hg => encs_one m g hg) hap ht hi hzs Enc.pos hmax hbound hW hlp hpn hdf
  rw [encs_append, List.length_append, ← hc]
  exact this

theorem ET.make {x : α} {t e : TypeId} {xo yo : Operand} {z : Value} {bt : Nat} {k k' : IntKind} {n : Int} (hd : Nat) (hx : ev s xo = some (.val (.int k n))) (hy : ev s yo = some (.val (.int k' n)))
    (ht : P.underlying t = some (.slice e)) (hi : (P.info? e).map (fun i => (i.zero, i.size, i.bytes)) = some (some z, 1, bt)) (hzc : z.cells = #[z]) (he : Enc.cells x = [.val z])
    (h0 : 0 ≤ n) (hb : (bt : Int) * n ≤ 281474976710656) (h63 : n ≤ 9223372036854775807) (hfr : fresh s hd = true) :
    Effect P W s ⟨some d, .makeSlice t xo yo, ty, pos, after, guard⟩ (· = { fr := (d, .osl hd 1 0 (List.replicate n.toNat x).length) :: s.fr, st := (hd, ⟨e, true, true, true, 1, encs (List.replicate n.toNat x), none⟩) :: s.st, df := s.df }) := by
  rw [encs_replicate _ _ _ he, List.length_replicate]
  exact EF.make hd hx hy ht hi hzc h0 hb h63 hfr

/-! ### Results -/
theorem fz_vec {st st' : List (Nat × Blk)} {h : Nat} {k : Blk} {l : List α} (hk : sget st h = some k) (hn : sget st' h = none) (hp : k.pure = true) (hm : k.mine = true) (hf : k.fresh = true) (hc : k.cells = encs l) (hlp : k.lp = none := by rfl) :
    fzG st st' (.osl h (Enc.sz α) 0 l.length) = some (.fr (.sl l.length (encs l))) := by
  simp only [fzG, hn, hk, hp, hm, hf, hc, hlp, List.drop_zero, encs_take_full, cond_true]
theorem fz_vecO {st st' : List (Nat × Blk)} {h : Nat} {k : Blk} {l : List α} (hk : sget st h = some k) (hn : sget st' h = none) (hp : k.pure = true) (hm : k.mine = true) (hf : k.fresh = false) (hc : k.cells = encs l) (hlp : k.lp = none := by rfl) :
    fzG st st' (.osl h (Enc.sz α) 0 l.length) = some (.sl l.length (encs l)) := by
  simp only [fzG, hn, hk, hp, hm, hf, hc, hlp, List.drop_zero, encs_take_full, cond_false]
theorem fz_go {st st' : List (Nat × Blk)} {g g' : G} {r r' : List G} (h1 : fzG st st' g = some g') (h2 : fzG.go st st' r = some r') : fzG.go st st' (g :: r) = some (g' :: r') := by
  simp only [fzG.go, h1, h2]
theorem fz_tup {st st' : List (Nat × Blk)} {gs gs' : List G} (h : fzG.go st st' gs = some gs') : fzG st st' (.tup gs) = some (.tup gs') := by
  simp only [fzG, h, Option.map_some]
theorem fz_agg {st st' : List (Nat × Blk)} {gs gs' : List G} (h : fzG.go st st' gs = some gs') : fzG st st' (.agg gs) = some (.agg gs') := by
  simp only [fzG, h, Option.map_some]

theorem gsrc_vec {st : List (Nat × Blk)} {h : Nat} {k : Blk} {l : List α} (hk : sget st h = some k) (hp : k.pure = true) (hc : k.cells = encs l) (hlp : k.lp = none := by rfl) :
    gsrc st (Enc.sz α) (.osl h (Enc.sz α) 0 l.length) = some (encs l, l.length, k.fresh) := by
  simp only [gsrc, hk, hlp, hp, hc, List.drop_zero, encs_take_full]

/-! ### What a callee sees of a slice of the call's own -/
theorem view_vec {n : Nat} {st : List (Nat × Blk)} {h : Nat} {k : Blk} {l : List α} (hk : sget st h = some k) (hp : k.pure = true) (hc : k.cells = encs l) (hlp : k.lp = none := by rfl) :
    viewA (n + 1) st (.osl h (Enc.sz α) 0 l.length) = some (.sl l.length (encs l)) := by
  simp only [viewA, view, hk, hlp, hp, hc, List.drop_zero, encs_take_full]
theorem mapO_cons {f : G → Option G} {g g' : G} {r r' : List G} (h1 : f g = some g') (h2 : mapO f r = some r') : mapO f (g :: r) = some (g' :: r') := by
  simp only [mapO, h1, h2]

end
end Go.AM
