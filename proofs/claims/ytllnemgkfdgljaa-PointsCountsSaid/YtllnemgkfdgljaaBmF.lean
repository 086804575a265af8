/-
  AM, part BF: how a round was left, as data; lists of a callee's own; structs in slices of the call's own.
-/
import Derived.Test.YtllnemgkfdgljaaBmE
set_option linter.unusedSectionVars false
set_option linter.unusedSimpArgs false
set_option linter.unusedVariables false
namespace Go.AM

/-- How a round was left: it goes on; by 'break'; by 'return'. -/
inductive Jp where
  | go
  | ex
  | rt
  deriving DecidableEq
def Jp.isGo : Jp → Bool
  | .go => true
  | _ => false
def Jp.isRt : Jp → Bool
  | .rt => true
  | _ => false
def jmpc (id : Nat) : Jp → Option Code
  | .go => none
  | .ex => some (.exit id)
  | .rt => some .ret
theorem jmpc_go {id : Nat} (j : Jp) : (jmpc id j).isNone = j.isGo := by cases j <;> rfl
theorem jmpc_none {id : Nat} {j : Jp} (h : j = .go) : jmpc id j = none := by rw [h]; rfl

theorem LoopR.on {R0 : Exit → St → Prop} {s : St} {id : Nat} {j : Jp} (hj : j.isRt = false) (h : R0 .normal s) : LoopR (Eblock id R0) s (jmpc id j) := by
  cases j with
  | go => exact h
  | ex => show Eblock id R0 (.exit id) s; simp only [Eblock, if_true]; exact h
  | rt => cases hj
theorem LoopR.rt {R : Exit → St → Prop} {s : St} {id : Nat} {j : Jp} (hj : j.isRt = true) (h : R .ret s) : LoopR R s (jmpc id j) := by
  cases j with
  | rt => exact h
  | _ => cases hj

section
variable {P : Program} {N : Nat} {cx : Cx} {Q : Exit → St → Prop} {s : St} {ops : Array Oper} {rest : List Oper}

theorem st_eta {s : St} {hh : Nat} {k : Blk} {lp : Lp} (hk : sget s.st hh = some k) (hl : k.lp = some lp) (hp : lp.pend = none) (μ : Mu) (a : Act) (w : World) (hr : Rel N cx μ s a w) :
    Rel N cx μ { s with st := sset s.st hh { k with lp := some { lp with pend := none } } } a w := by
  have e : ({ k with lp := some { lp with pend := none } } : Blk) = k := by
    obtain ⟨_, _, _, _, _, _, l⟩ := k
    simp only at hl
    subst hl
    obtain ⟨_, _, _, _, _, _, _⟩ := lp
    simp only at hp
    subst hp
    rfl
  have e2 : ∀ (st : List (Nat × Blk)), sget st hh = some k → sset st hh k = st := by
    intro st
    induction st with
    | nil => intro h; cases h
    | cons x r ih =>
      obtain ⟨y, k'⟩ := x
      intro h
      simp only [sget] at h
      simp only [sset]
      cases hb : Nat.beq y hh with
      | true => rw [hb] at h; cases h; rfl
      | false => rw [hb] at h; rw [cond_false, ih h]
  rw [e, e2 s.st hk]
  exact hr
/-- The loop goes on. -/
theorem GL.pend (hh : Nat) {k : Blk} {lp : Lp} (hk : sget s.st hh = some k) (hl : k.lp = some lp) (hp : lp.pend = none) (h : GL P N cx ops Q rest { s with st := sset s.st hh { k with lp := some { lp with pend := none } } }) : GL P N cx ops Q rest s :=
  fun μ a w hr => h μ a w (st_eta hk hl hp μ a w hr)
theorem GW.pend {c : Code} (hh : Nat) {k : Blk} {lp : Lp} (hk : sget s.st hh = some k) (hl : k.lp = some lp) (hp : lp.pend = none) (h : GW P N cx c Q { s with st := sset s.st hh { k with lp := some { lp with pend := none } } }) : GW P N cx c Q s :=
  fun μ a w hr => h μ a w (st_eta hk hl hp μ a w hr)

theorem GL.weak' {s : St} (s' : St) (hs : Sub s s') (h : GL P N cx ops Q rest s') : GL P N cx ops Q rest s := fun μ a w hr => h μ a w (hr.sub hs)
theorem GH2.freeze {W : List Nat} {fuel : Nat} {listed : Array Bool} (s' : St) (hst : FzSt s.st s'.st s'.st) (hfr : FzFr s.st s'.st s.fr s'.fr) (h : GH2 P N cx ops Q W fuel listed s') (hdf : s.df = s'.df := by rfl) : GH2 P N cx ops Q W fuel listed s := fun ws Wb μ a w hr hS hW =>
  h ws Wb μ a w (hr.freeze hst hfr hdf) hS fun x k b m h1 h2 h3 => by
    obtain ⟨k0, h4, _⟩ := hst.get h2
    exact hW x k0 b m h1 h4 h3
end

section
variable {α : Type} [Enc α]
variable {P : Program} {N : Nat} {cx : Cx} {Q : Exit → St → Prop} {s : St} {ops : Array Oper} {rest : List Oper}
theorem GW.refresh [Flat α] {c : Code} (hh : Nat) {k : Blk} {l : List α} (hk : sget s.st hh = some k) (hc : k.cells = encs l) (hp : k.pure = true) (h : GW P N cx c Q { fr := s.fr, st := sset s.st hh { k with fresh := true }, df := s.df }) (hlp : k.lp = none := by rfl) : GW P N cx c Q s :=
  fun μ a w hr => h μ a w (hr.refresh hk hc hp hlp)

variable {W : List Nat} {dst : Option Tmp} {ty : TypeId} {pos : String} {after : Array Edge} {guard : Option (Nat × Bool)}

/-- An element's cell, read out of a slice of the call's own whose elements are structs. -/
theorem YT.ownJ {l : List α} {i : Int} {x : α} {t h j : Nat} {k : Blk} {xo : Operand} {g g' : G} (hx : ev s xo = some (.loc h (0 + i.toNat * Enc.sz α + j))) (hk : sget s.st h = some k) (hc : k.cells = encs l) (hi : idx l i = some x) (hg : (Enc.cells x)[j]? = some g)
    (hag : ∀ w, (isAgg t).run P w = .ok false w) (hW : W.contains h = false) (hout : k.out g = g') (hlp : k.lp = none := by rfl) : Yield P W s ⟨dst, .load t xo, ty, pos, after, guard⟩ g' :=
  YL.load hx hk (by rw [hc, Nat.zero_add]; exact (encs_get (idx_spec hi).2.2 (by rw [← Enc.len x]; exact (List.getElem?_eq_some_iff.1 hg).1)).trans hg) hag hW hout hlp
/-- A whole struct out of a slice of the call's own. -/
theorem YT.ownA {l : List α} {i : Int} {x : α} {t h : Nat} {k : Blk} {xo : Operand} (hx : ev s xo = some (.loc h (0 + i.toNat * Enc.sz α))) (hk : sget s.st h = some k) (hc : k.cells = encs l) (hi : idx l i = some x)
    (hag : ∀ w, (isAgg t).run P w = .ok true w) (hsz : ∀ w, (sizeOf t).run P w = .ok (Enc.sz α) w) (hW : W.contains h = false) (hlp : k.lp = none := by rfl) : Yield P W s ⟨dst, .load t xo, ty, pos, after, guard⟩ (.agg ((Enc.cells x).map k.out)) := by
  have := YL.loadAggP (P := P) (W := W) (dst := dst) (ty := ty) (pos := pos) (after := after) (guard := guard) hx hk hag hsz (by
    rw [hc, encs_length]
    have h1 := (List.getElem?_eq_some_iff.1 (idx_spec hi).2.2).1
    have : (i.toNat + 1) * Enc.sz α ≤ l.length * Enc.sz α := Nat.mul_le_mul_right _ h1
    rw [Nat.add_mul] at this
    omega) hW hlp
  rw [hc, Nat.zero_add, encs_sub hi] at this
  exact this

/-- A store of several cells into a block whose cells name no handle. -/
theorem EF.storePs {t : TypeId} {x y : Operand} {h off sz : Nat} {k : Blk} {g : G} {gs gs' : List G} {f : Bool} (hx : ev s x = some (.loc h off)) (hy : ev s y = some g) (hk : sget s.st h = some k) (hp : k.pure = true)
    (hok : gok g = true) (hgs : gcells g = gs) (hi : immGs gs = some (gs', f)) (hone : gs.all G.one = true) (hl : gs.length = sz) (hsz : ∀ w, (sizeOf t).run P w = .ok sz w) (hoff : off + sz ≤ k.cells.length) (hW : W.contains h = true) (hlp : k.lp = none := by rfl) :
    Effect P W s ⟨none, .store t x y, ty, pos, after, guard⟩ (· = { fr := s.fr, st := sset s.st h { k with fresh := k.fresh && f, cells := k.cells.take off ++ gs' ++ k.cells.drop (off + sz) }, df := s.df }) := by
  refine Effect.skip rfl (fun _ h => by cases h) ?_
  intro N cx μ a w hr
  obtain ⟨b, m, e1, hm⟩ := hr.loc hx
  obtain ⟨cs, h1, h2, h3, h4, hbt, h5⟩ := hr.own hk hm hlp
  obtain ⟨hvl, hvc⟩ := (hr.ev hy).cells hok
  rw [hgs] at hvl hvc
  obtain ⟨hi1, hi2⟩ := immGs_get hi
  have hlen : (a.eval y).cells.toList.length = sz := by rw [Array.length_toList, hvl, hl]
  have hrun := run_storeCells_at P b off k.ety (a.eval y).cells.toList 0 cs w h1 (by rw [hlen]; omega) (fun v hv => by
    obtain ⟨j, hj⟩ := List.getElem?_of_mem hv
    have hjl : j < gs.length := by
      have := (List.getElem?_eq_some_iff.1 hj).1
      omega
    obtain ⟨u, hu, hru⟩ := hvc j gs[j] (List.getElem?_eq_getElem hjl)
    rw [Array.getElem?_toList] at hj
    rw [hj] at hu
    cases hu
    exact hru.one (List.all_eq_true.1 hone _ (List.getElem_mem hjl)))
  rw [Nat.add_zero, hlen] at hrun
  refine ⟨μ, w.setRow b (cs.toList.take off ++ (a.eval y).cells.toList ++ cs.toList.drop (off + sz)).toArray, ?_, ?_⟩
  · simp only [execOp, Instr.storeAt, Instr.sureAddr, e1, storeVar, hsz, Sem.run_bind, Sem.run_pure, Result.andThen_ok]
    rw [if_neg (by rw [hvl, hl]; simp)]
    rw [hrun]
    rfl
  · refine hr.write (k' := { k with fresh := k.fresh && f, cells := k.cells.take off ++ gs' ++ k.cells.drop (off + sz) }) hk hm (setRow_heap_same h1) ?_ (setRow_size _ _ _) (fun b' hb' => setRow_other w b b' _ hb') rfl rfl rfl id ?_ hbt ?_ W hW hlp
    · simp only [List.size_toArray, List.length_append, List.length_take, List.length_drop, Array.length_toList, hvl, hl]; omega
    · simp only [List.length_append, List.length_take, List.length_drop, hi1, hl]; omega
    · intro j g' hg'
      have hget : ∀ (j : Nat), (cs.toList.take off ++ (a.eval y).cells.toList ++ cs.toList.drop (off + sz)).toArray[j]? = if j < off then cs[j]? else if j < off + sz then (a.eval y).cells[j - off]? else cs[j]? := by
        intro j
        rw [List.getElem?_toArray, List.append_assoc, List.getElem?_append, List.length_take, Array.length_toList, Nat.min_eq_left (by omega : off ≤ cs.size)]
        split
        · rename_i hj; rw [List.getElem?_take, if_pos hj, Array.getElem?_toList]
        · rw [List.getElem?_append, hlen]
          split
          · rename_i hj1 hj2; rw [if_pos (by omega), Array.getElem?_toList]
          · rename_i hj1 hj2; rw [if_neg (by omega), List.getElem?_drop, Array.getElem?_toList]; congr 1; omega
      dsimp only at hg'
      rw [List.append_assoc, List.getElem?_append, List.length_take, Nat.min_eq_left (by omega : off ≤ k.cells.length)] at hg'
      rw [hget]
      have old : ∀ {j : Nat} {g' : G}, k.cells[j]? = some g' → ∃ v, cs[j]? = some v ∧ RepC (cx.O s.st μ) cx.base w μ { k with fresh := k.fresh && f, cells := k.cells.take off ++ gs' ++ k.cells.drop (off + sz) } g' v := by
        intro j g' hg'
        obtain ⟨v, hv, hrv⟩ := h5 j g' hg'
        refine ⟨v, hv, ?_⟩
        unfold RepC at hrv ⊢
        dsimp only at hrv ⊢
        rw [hp] at hrv ⊢
        exact hrv.flag (fun h => by simp at h; exact h.1)
      split at hg'
      · rename_i hj
        rw [if_pos hj]
        rw [List.getElem?_take, if_pos hj] at hg'
        exact old hg'
      · rename_i hj
        rw [if_neg hj]
        rw [List.getElem?_append, hi1, hl] at hg'
        split at hg'
        · rename_i hj2
          rw [if_pos (by omega)]
          obtain ⟨g0, f', q1, q2, q3⟩ := hi2 _ g' hg'
          obtain ⟨v, hv, hrv⟩ := hvc _ g0 q1
          refine ⟨v, hv, ?_⟩
          unfold RepC
          dsimp only
          rw [hp]
          exact (immG_spec hrv q2).flag (fun h => by simp at h; exact q3 h.2)
        · rename_i hj2
          rw [if_neg (by omega)]
          rw [List.getElem?_drop] at hg'
          have : off + sz + (j - off - sz) = j := by omega
          rw [this] at hg'
          exact old hg'

theorem encs_setS {l : List α} {i : Nat} (x : α) (h : i < l.length) : (encs l).take (0 + i * Enc.sz α) ++ Enc.cells x ++ (encs l).drop (0 + i * Enc.sz α + Enc.sz α) = encs (l.set i x) := by
  have e : 0 + i * Enc.sz α + Enc.sz α = (i + 1) * Enc.sz α := by rw [Nat.zero_add, Nat.add_mul, Nat.one_mul]
  rw [e, encs_drop, Nat.zero_add, encs_take, List.set_eq_take_append_cons_drop, if_pos h, encs_append, encs_cons, List.append_assoc]

/-- A store of a struct into a slice of the call's own. -/
theorem ET.setS {l : List α} {i : Int} {x : α} {t h : Nat} {k : Blk} {xo yo : Operand} {g : G} {gs : List G} {f : Bool} (hx : ev s xo = some (.loc h (0 + i.toNat * Enc.sz α))) (hy : ev s yo = some g) (hk : sget s.st h = some k) (hc : k.cells = encs l) (hp : k.pure = true)
    (hok : gok g = true) (hgs : gcells g = gs) (hi : immGs gs = some (Enc.cells x, f)) (hone : gs.all G.one = true) (h0 : 0 ≤ i) (hn : i < (l.length : Int)) (hsz : ∀ w, (sizeOf t).run P w = .ok (Enc.sz α) w) (hW : W.contains h = true) (hlp : k.lp = none := by rfl) :
    Effect P W s ⟨none, .store t xo yo, ty, pos, after, guard⟩ (· = { fr := s.fr, st := sset s.st h { k with fresh := k.fresh && f, cells := encs (l.set i.toNat x) }, df := s.df }) := by
  have hlt : i.toNat < l.length := by omega
  have := EF.storePs (P := P) (W := W) (ty := ty) (pos := pos) (after := after) (guard := guard) hx hy hk hp hok hgs hi hone (by rw [← (immGs_get hi).1, Enc.len]) hsz (by
    rw [hc, encs_length]
    have : (i.toNat + 1) * Enc.sz α ≤ l.length * Enc.sz α := Nat.mul_le_mul_right _ hlt
    rw [Nat.add_mul] at this
    omega) hW hlp
  rw [hc, encs_setS x hlt] at this
  exact this

theorem encs_setJ {l : List α} {i j : Nat} {x x' : α} {g : G} (h : l[i]? = some x) (hj : j < Enc.sz α) (hx : Enc.cells x' = (Enc.cells x).set j g) : (encs l).set (0 + i * Enc.sz α + j) g = encs (l.set i x') := by
  rw [Nat.zero_add]
  apply List.ext_getElem?
  intro n
  have hil := (List.getElem?_eq_some_iff.1 h).1
  rw [List.getElem?_set]
  have hset : encs (l.set i x') = (encs l).take (0 + i * Enc.sz α) ++ Enc.cells x' ++ (encs l).drop (0 + i * Enc.sz α + Enc.sz α) := (encs_setS x' hil).symm
  rw [hset, hx, List.append_assoc, List.getElem?_append, List.length_take, encs_length, Nat.zero_add]
  have hm : i * Enc.sz α + Enc.sz α ≤ l.length * Enc.sz α := by rw [← Nat.succ_mul]; exact Nat.mul_le_mul_right _ hil
  rw [Nat.min_eq_left (by omega)]
  by_cases e : i * Enc.sz α + j = n
  · rw [if_pos e, if_pos (by omega), if_neg (by omega), List.getElem?_append, List.length_set, Enc.len, if_pos (by omega), List.getElem?_set, if_pos (by omega), if_pos (by rw [Enc.len]; omega)]
  · rw [if_neg e]
    split
    · rename_i h1; rw [List.getElem?_take, if_pos h1]
    · rename_i h1
      rw [List.getElem?_append, List.length_set, Enc.len]
      split
      · rename_i h2
        rw [List.getElem?_set, if_neg (by omega), ← encs_get h (by omega)]
        congr 1; omega
      · rename_i h2
        rw [List.getElem?_drop]
        congr 1; omega

/-- A store of one cell of a struct in a slice of the call's own. -/
theorem ET.setJ {l : List α} {i : Int} {x x' : α} {t h j : Nat} {k : Blk} {xo yo : Operand} {g g' : G} {f : Bool} (hx : ev s xo = some (.loc h (0 + i.toNat * Enc.sz α + j))) (hy : ev s yo = some g) (hk : sget s.st h = some k) (hc : k.cells = encs l) (hp : k.pure = true)
    (hi : immG g = some (g', f)) (hone : g.one = true) (hxi : idx l i = some x) (he : Enc.cells x' = (Enc.cells x).set j g') (hj : Nat.blt j (Enc.sz α) = true) (hsz : ∀ w, (sizeOf t).run P w = .ok 1 w) (hW : W.contains h = true) (hlp : k.lp = none := by rfl) :
    Effect P W s ⟨none, .store t xo yo, ty, pos, after, guard⟩ (· = { fr := s.fr, st := sset s.st h { k with fresh := k.fresh && f, cells := encs (l.set i.toNat x') }, df := s.df }) := by
  have hj : j < Enc.sz α := by simpa [Nat.blt_eq] using hj
  have hil := (List.getElem?_eq_some_iff.1 (idx_spec hxi).2.2).1
  have := EF.storeP (P := P) (W := W) (ty := ty) (pos := pos) (after := after) (guard := guard) hx hy hk hp hi hone hsz (by
    rw [hc, encs_length]
    have : (i.toNat + 1) * Enc.sz α ≤ l.length * Enc.sz α := Nat.mul_le_mul_right _ hil
    rw [Nat.add_mul] at this
    omega) hW hlp
  rw [hc, encs_setJ (idx_spec hxi).2.2 hj he] at this
  exact this
end
end Go.AM
