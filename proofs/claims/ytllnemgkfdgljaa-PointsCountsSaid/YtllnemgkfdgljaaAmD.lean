/-
  AM, part D: loads, reslicing, values built of parts.
-/
import Derived.Test.YtllnemgkfdgljaaAmC
set_option linter.unusedSectionVars false
set_option linter.unusedSimpArgs false
set_option linter.unusedVariables false
namespace Go.AM

section
variable {P : Program} {N : Nat} {cx : Cx} {s : St} {W : List Nat}
variable {dst : Option Tmp} {ty : TypeId} {pos : String} {after : Array Edge} {guard : Option (Nat × Bool)}

/-- What a later world keeps of this one. -/
def Agree (W : List Nat) (s : St) (μ : Mu) (w w' : World) : Prop :=
  w.heap.size ≤ w'.heap.size ∧ ∀ b, b < w.heap.size → (∀ h k m, h ∈ W → sget s.st h = some k → μ h ≠ some (b, m)) → w'.heap[b]? = w.heap[b]?

theorem Rel.own {μ : Mu} {a : Act} {w : World} (hrel : Rel N cx μ s a w) {h : Nat} {k : Blk} (hk : sget s.st h = some k) {b m : Nat} (hm : μ h = some (b, m)) (hlp : k.lp = none) :
    ∃ cs : Array Value, w.heap[b]? = some (.cells cs k.ety (0, 0)) ∧ cs.size = m ∧ k.cells.length ≤ m ∧ (k.mine = true → cx.base ≤ b) ∧ (k.sz ≠ 0 → m ≤ maxLen * k.sz) ∧
      ∀ (j : Nat) (g : G), k.cells[j]? = some g → ∃ v, cs[j]? = some v ∧ RepC (cx.O s.st μ) cx.base w μ k g v := by
  have := hrel.st.blk h k hk
  rw [hm] at this
  exact this.cells hlp

theorem Rel.agree {μ : Mu} {a : Act} {w w' : World} (hrel : Rel N cx μ s a w) {h : Nat} {k : Blk} (hk : sget s.st h = some k) {b m : Nat} (hm : μ h = some (b, m))
    (hW : W.contains h = false) (hag : Agree W s μ w w') (hb : b < w.heap.size) : w'.heap[b]? = w.heap[b]? := by
  refine hag.2 b hb ?_
  intro h' k' m' hin hk' hm'
  have := hrel.st.inj h h' k k' b m m' hk hk' hm hm'
  subst this
  simp at hW
  exact hW hin

theorem Rel.loc {μ : Mu} {a : Act} {w : World} (hrel : Rel N cx μ s a w) {x : Operand} {h off : Nat} (hx : AM.ev s x = some (.loc h off)) : ∃ b m, a.eval x = .pointer (some ⟨b, off, none⟩) ∧ μ h = some (b, m) := by
  have hr := hrel.ev hx
  generalize a.eval x = v at hr
  cases hr with
  | imm h => cases h
  | loc _ _ b m hm => exact ⟨b, m, rfl, hm⟩

theorem cell_of {w : World} {b : Nat} {cs : Array Value} {e : TypeId} {f : Nat × Nat} (h : w.heap[b]? = some (.cells cs e f)) (j : Nat) : w.cell? ⟨b, j, none⟩ = cs[j]? := by
  simp [World.cell?, h]

theorem lt_of_heap {w : World} {b : Nat} {o : Obj} (h : w.heap[b]? = some o) : b < w.heap.size := (Array.getElem?_eq_some_iff.1 h).1

theorem YL.load {t : TypeId} {x : Operand} {h off : Nat} {k : Blk} {g g' : G} (hx : ev s x = some (.loc h off)) (hk : sget s.st h = some k) (hg : k.cells[off]? = some g)
    (hag : ∀ w, (isAgg t).run P w = .ok false w) (hW : W.contains h = false) (hout : k.out g = g') (hlp : k.lp = none := by rfl) : Yield P W s ⟨dst, .load t x, ty, pos, after, guard⟩ g' := fun N cx μ a w hrel => by
  subst hout
  obtain ⟨b, m, e1, hm⟩ := hrel.loc hx
  obtain ⟨cs, h1, h2, h3, h4, _, h5⟩ := hrel.own hk hm hlp
  obtain ⟨v, hv, hr⟩ := h5 off g hg
  refine ⟨v, hr.out, fun w' hs hw' => ?_⟩
  have hb := hrel.agree hk hm hW ⟨hs, hw'⟩ (lt_of_heap h1)
  rw [h1] at hb
  have hc : w'.cell? ⟨b, off, none⟩ = some v := by rw [cell_of hb, hv]
  simp [execOp, e1, Instr.loadAt, Instr.sureAddr, loadVar, hag, hc]

/-- From a block whose cells may name handles: the cell as it stands. -/
theorem YL.loadN {t : TypeId} {x : Operand} {h off : Nat} {k : Blk} {g : G} (hx : ev s x = some (.loc h off)) (hk : sget s.st h = some k) (hg : k.cells[off]? = some g)
    (hag : ∀ w, (isAgg t).run P w = .ok false w) (hW : W.contains h = false) (hp : k.pure = false) (hlp : k.lp = none := by rfl) : Yield P W s ⟨dst, .load t x, ty, pos, after, guard⟩ g :=
  YL.load hx hk hg hag hW (by cases g <;> simp [Blk.out, hp]) hlp

theorem run_loadCells_at {w : World} {b off : Nat} {cs : Array Value} {e : TypeId} {f : Nat × Nat} (h : w.heap[b]? = some (.cells cs e f)) (sz : Nat) (hl : off + sz ≤ cs.size) :
    (loadCells ⟨b, off, none⟩ sz).run P w = .ok ((cs.toList.drop off).take sz).toArray w := by
  have hlen : ((cs.toList.drop off).take sz).length = sz := by
    rw [List.length_take, List.length_drop, Array.length_toList]; omega
  have := run_loadCells_list (P := P) w ⟨b, off, none⟩ ((cs.toList.drop off).take sz) (fun j v hv => by
    rw [Addr.add_off, cell_of h]
    rw [List.getElem?_take] at hv
    split at hv
    · rw [List.getElem?_drop, Array.getElem?_toList] at hv; exact hv
    · cases hv)
  rw [hlen] at this
  exact this

theorem YL.loadAgg {t : TypeId} {x : Operand} {h off sz : Nat} {k : Blk} (hx : ev s x = some (.loc h off)) (hk : sget s.st h = some k) (hp : k.pure = false)
    (hag : ∀ w, (isAgg t).run P w = .ok true w) (hsz : ∀ w, (sizeOf t).run P w = .ok sz w) (hl : off + sz ≤ k.cells.length) (hW : W.contains h = false) (hlp : k.lp = none := by rfl) :
    Yield P W s ⟨dst, .load t x, ty, pos, after, guard⟩ (.agg ((k.cells.drop off).take sz)) := fun N cx μ a w hrel => by
  obtain ⟨b, m, e1, hm⟩ := hrel.loc hx
  obtain ⟨cs, h1, h2, h3, h4, _, h5⟩ := hrel.own hk hm hlp
  refine ⟨.agg ((cs.toList.drop off).take sz).toArray, .agg _ _ ?_ ?_, fun w' hs hw' => ?_⟩
  · simp only [List.length_take, List.length_drop, Array.length_toList]; omega
  · intro j g v hg hv
    rw [List.getElem?_take] at hg hv
    split at hg
    · rename_i hj
      rw [if_pos hj, List.getElem?_drop, Array.getElem?_toList] at hv
      rw [List.getElem?_drop] at hg
      obtain ⟨v', hv', hr⟩ := h5 _ g hg
      rw [hv] at hv'
      cases hv'
      unfold RepC at hr
      rw [hp] at hr
      exact hr
    · cases hg
  · have hb := hrel.agree hk hm hW ⟨hs, hw'⟩ (lt_of_heap h1)
    rw [h1] at hb
    have hl2 := run_loadCells_at (P := P) hb sz (show off + sz ≤ cs.size by omega)
    simp [execOp, e1, Instr.loadAt, Instr.sureAddr, loadVar, hag, hsz, hl2]

/-- A whole struct out of a block whose cells name no handle. -/
theorem YL.loadAggP {t : TypeId} {x : Operand} {h off sz : Nat} {k : Blk} (hx : ev s x = some (.loc h off)) (hk : sget s.st h = some k)
    (hag : ∀ w, (isAgg t).run P w = .ok true w) (hsz : ∀ w, (sizeOf t).run P w = .ok sz w) (hl : off + sz ≤ k.cells.length) (hW : W.contains h = false) (hlp : k.lp = none := by rfl) :
    Yield P W s ⟨dst, .load t x, ty, pos, after, guard⟩ (.agg (((k.cells.drop off).take sz).map k.out)) := fun N cx μ a w hrel => by
  obtain ⟨b, m, e1, hm⟩ := hrel.loc hx
  obtain ⟨cs, h1, h2, h3, h4, _, h5⟩ := hrel.own hk hm hlp
  refine ⟨.agg ((cs.toList.drop off).take sz).toArray, .agg _ _ ?_ ?_, fun w' hs hw' => ?_⟩
  · simp only [List.length_map, List.length_take, List.length_drop, Array.length_toList]; omega
  · intro j g v hg hv
    rw [List.getElem?_map, List.getElem?_take] at hg
    rw [List.getElem?_take] at hv
    split at hg
    · rename_i hj
      rw [if_pos hj, List.getElem?_drop, Array.getElem?_toList] at hv
      rw [List.getElem?_drop] at hg
      cases hgg : k.cells[off + j]? with
      | none => rw [hgg] at hg; cases hg
      | some g0 =>
        rw [hgg] at hg
        cases hg
        obtain ⟨v', hv', hr⟩ := h5 _ g0 hgg
        rw [hv] at hv'
        cases hv'
        exact hr.out
    · cases hg
  · have hb := hrel.agree hk hm hW ⟨hs, hw'⟩ (lt_of_heap h1)
    rw [h1] at hb
    have hl2 := run_loadCells_at (P := P) hb sz (show off + sz ≤ cs.size by omega)
    simp [execOp, e1, Instr.loadAt, Instr.sureAddr, loadVar, hag, hsz, hl2]

/-- What a load from immutable memory gives. -/
def frG : G → G
  | .val v => .val v
  | g => .fr g

theorem RepI.frG {O : Nat → Prop} {base : Nat} {w : World} {μ : Mu} {g : G} {v : Value} (h : RepI (Old O base) w g v) : RepV O base w μ (AM.frG g) v := by
  cases g with
  | val u => cases h; exact .imm (.val _)
  | _ => exact .fr h

theorem Rel.imm_block {μ : Mu} {a : Act} {w w' : World} (_hrel : Rel N cx μ s a w) {b : Nat} (hO : ¬ cx.O s.st μ b) (hb : b < w.heap.size) (hag : Agree W s μ w w') : w'.heap[b]? = w.heap[b]? :=
  hag.2 b hb fun h k m _ hk hm => hO (.inr ⟨h, k, m, hk, hm⟩)

theorem YL.ptr {t : TypeId} {x : Operand} {cs : List G} {g : G} (hx : ev s x = some (.ptr cs)) (hg : cs[0]? = some g) (hag : ∀ w, (isAgg t).run P w = .ok false w) :
    Yield P W s ⟨dst, .load t x, ty, pos, after, guard⟩ g := fun N cx μ a w hrel => by
  have hr := hrel.ev hx
  generalize e1 : a.eval x = v at hr
  cases hr with
  | imm hr => cases hr with
    | ptr _ b off us hO hb hc hrr =>
      refine ⟨us 0, .imm (hrr 0 g hg), fun w' hs hw' => ?_⟩
      have h0 : 0 < cs.length := (List.getElem?_eq_some_iff.1 hg).1
      have hcell : w'.cell? ⟨b, off, none⟩ = some (us 0) := by
        rw [World.cell?_of_block (w := w) (hrel.imm_block hO hb ⟨hs, hw'⟩)]
        exact hc 0 h0
      simp [execOp, e1, Instr.loadAt, Instr.sureAddr, loadVar, hag, hcell]

theorem YL.ptrF {t : TypeId} {x : Operand} {cs : List G} {g g' : G} (hx : ev s x = some (.fr (.ptr cs))) (hg : cs[0]? = some g) (hag : ∀ w, (isAgg t).run P w = .ok false w) (hout : frG g = g') :
    Yield P W s ⟨dst, .load t x, ty, pos, after, guard⟩ g' := fun N cx μ a w hrel => by
  subst hout
  have hr := hrel.ev hx
  generalize e1 : a.eval x = v at hr
  cases hr with
  | imm hr => cases hr
  | fr hr => cases hr with
    | ptr _ b off us hO hb hc hrr =>
      refine ⟨us 0, (hrr 0 g hg).frG, fun w' hs hw' => ?_⟩
      have h0 : 0 < cs.length := (List.getElem?_eq_some_iff.1 hg).1
      have hcell : w'.cell? ⟨b, off, none⟩ = some (us 0) := by
        rw [World.cell?_of_block (w := w) (hrel.imm_block (fun h => hO (.inr h)) hb ⟨hs, hw'⟩)]
        exact hc 0 h0
      simp [execOp, e1, Instr.loadAt, Instr.sureAddr, loadVar, hag, hcell]

theorem YL.ptrAgg {t : TypeId} {x : Operand} {cs : List G} {sz : Nat} (hx : ev s x = some (.ptr cs)) (hl : sz ≤ cs.length) (hag : ∀ w, (isAgg t).run P w = .ok true w) (hsz : ∀ w, (sizeOf t).run P w = .ok sz w) :
    Yield P W s ⟨dst, .load t x, ty, pos, after, guard⟩ (.agg (cs.take sz)) := fun N cx μ a w hrel => by
  have hr := hrel.ev hx
  generalize e1 : a.eval x = v at hr
  cases hr with
  | imm hr => cases hr with
    | ptr _ b off us hO hb hc hrr =>
      refine ⟨.agg ((List.range sz).map us).toArray, .agg _ _ (by simp; omega) ?_, fun w' hs hw' => ?_⟩
      · intro j g v hg hv
        rw [List.getElem?_take] at hg
        split at hg
        · rename_i hj
          simp [List.getElem?_map, List.getElem?_range hj] at hv
          subst hv
          exact .imm (hrr j g hg)
        · cases hg
      · have hcell : ∀ j, j < sz → w'.cell? ((⟨b, off, none⟩ : Addr).add j) = some (us j) := fun j hj => by
          rw [Addr.add_off, World.cell?_of_block (w := w) (hrel.imm_block hO hb ⟨hs, hw'⟩)]
          exact hc j (by omega)
        simp [execOp, e1, Instr.loadAt, Instr.sureAddr, loadVar, hag, hsz, run_loadCells w' ⟨b, off, none⟩ sz us hcell]

theorem YL.ptrAggF {t : TypeId} {x : Operand} {cs : List G} {sz : Nat} (hx : ev s x = some (.fr (.ptr cs))) (hl : sz ≤ cs.length) (hag : ∀ w, (isAgg t).run P w = .ok true w) (hsz : ∀ w, (sizeOf t).run P w = .ok sz w) :
    Yield P W s ⟨dst, .load t x, ty, pos, after, guard⟩ (.agg ((cs.take sz).map frG)) := fun N cx μ a w hrel => by
  have hr := hrel.ev hx
  generalize e1 : a.eval x = v at hr
  cases hr with
  | imm hr => cases hr
  | fr hr => cases hr with
    | ptr _ b off us hO hb hc hrr =>
      refine ⟨.agg ((List.range sz).map us).toArray, .agg _ _ (by simp; omega) ?_, fun w' hs hw' => ?_⟩
      · intro j g v hg hv
        rw [List.getElem?_map, List.getElem?_take] at hg
        split at hg
        · rename_i hj
          simp [List.getElem?_map, List.getElem?_range hj] at hv
          subst hv
          cases hcj : cs[j]? with
          | none => rw [hcj] at hg; cases hg
          | some g0 => rw [hcj] at hg; cases hg; exact (hrr j g0 hcj).frG
        · cases hg
      · have hcell : ∀ j, j < sz → w'.cell? ((⟨b, off, none⟩ : Addr).add j) = some (us j) := fun j hj => by
          rw [Addr.add_off, World.cell?_of_block (w := w) (hrel.imm_block (fun h => hO (.inr h)) hb ⟨hs, hw'⟩)]
          exact hc j (by omega)
        simp [execOp, e1, Instr.loadAt, Instr.sureAddr, loadVar, hag, hsz, run_loadCells w' ⟨b, off, none⟩ sz us hcell]

/-! ### A part of a struct value -/
theorem PY.fieldV {t : TypeId} {x : Operand} {i : Nat} {fs : Array Field} {f : Field} {gs : List G} {g : G} (hx : ev s x = some (.agg gs)) (ht : P.underlying t = some (.struct fs)) (hf : fs[i]? = some f)
    (hag : ∀ w, (isAgg f.type).run P w = .ok false w) (hg : gs[f.offset]? = some g) : PY P s ⟨dst, .field t x i, ty, pos, after, guard⟩ g := fun N cx μ a w hrel => by
  have hr := hrel.ev hx
  generalize e1 : a.eval x = v at hr
  have key : ∃ us : List Value, v = .agg us.toArray ∧ ∃ u, us[f.offset]? = some u ∧ RepV (cx.O s.st μ) cx.base w μ g u := by
    cases hr with
    | imm hr => cases hr with
      | agg _ us hl hr =>
        have hi : f.offset < us.length := by have := (List.getElem?_eq_some_iff.1 hg).1; omega
        exact ⟨us, rfl, us[f.offset], List.getElem?_eq_getElem hi, .imm (hr _ g _ hg (List.getElem?_eq_getElem hi))⟩
    | agg _ us hl hr =>
      have hi : f.offset < us.length := by have := (List.getElem?_eq_some_iff.1 hg).1; omega
      exact ⟨us, rfl, us[f.offset], List.getElem?_eq_getElem hi, hr _ g _ hg (List.getElem?_eq_getElem hi)⟩
  obtain ⟨us, rfl, u, hu, hru⟩ := key
  refine ⟨u, hru, fun w' => ?_⟩
  simp [execOp, e1, Instr.field, run_underlying ht, hf, asAgg, part, hag, hu]

theorem PY.nilCheck {x : Operand} {g : G} (hx : ev s x = some g) (hg : (match g with | .loc .. | .ptr _ | .fr (.ptr _) | .clo .. => true | _ => false) = true) : PY P s ⟨dst, .nilCheck x, ty, pos, after, guard⟩ g := fun N cx μ a w hrel => by
  have hr := hrel.ev hx
  refine ⟨_, hr, fun w' => ?_⟩
  generalize e1 : a.eval x = v at hr
  have hp : ∀ (O : Nat → Prop) (cs : List G) (v : Value), RepI O w (.ptr cs) v → ∃ p, v = .pointer (some p) := by
    intro O cs v h
    cases h with
    | ptr _ b off us => exact ⟨_, rfl⟩
  cases g with
  | loc h off => cases hr with
    | imm h => cases h
    | loc _ _ b m hm => simp [execOp, e1]
  | ptr cs => cases hr with
    | imm h => obtain ⟨p, rfl⟩ := hp _ _ _ h; simp [execOp, e1]
  | clo f cs => cases hr with
    | imm h => cases h
    | clo _ _ us hl hr => simp [execOp, e1]
  | fr g => cases hr with
    | imm h => cases h
    | fr h => cases g with
      | ptr cs => obtain ⟨p, rfl⟩ := hp _ _ _ h; simp [execOp, e1]
      | _ => cases hg
  | _ => cases hg

end
end Go.AM
