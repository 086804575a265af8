/-
  AM, part H: a nil slice taken in hand; slices written out; append.
-/
import Derived.Test.YtllnemgkfdgljaaAmG
import Derived.Great.BuildSlice
set_option linter.unusedSectionVars false
set_option linter.unusedSimpArgs false
set_option linter.unusedVariables false
namespace Go.AM

section
variable {P : Program} {N : Nat} {cx : Cx} {s : St}
variable {dst : Option Tmp} {ty : TypeId} {pos : String} {after : Array Edge} {guard : Option (Nat × Bool)} {W : List Nat} {d : Nat}

theorem RelSt.newNil {μ : Mu} {st : List (Nat × Blk)} {w : World} (h : RelSt cx μ st w) {hd : Nat} {k : Blk} (hfr : sget st hd = none) (hno : stNo hd st = true) (hpn : pinned hd = false) (hk : k.cells = []) (hlp : k.lp = none) :
    RelSt cx (upd μ hd none) ((hd, k) :: st) w ∧ (∀ b, ¬ cx.O st μ b → ¬ cx.O ((hd, k) :: st) (upd μ hd none) b) := by
  have hO : ∀ b, ¬ cx.O st μ b → ¬ cx.O ((hd, k) :: st) (upd μ hd none) b := by
    intro b hn ho
    rcases ho with ho | ⟨x, k', m, h1, h2⟩
    · exact hn (.inl ho)
    · by_cases e : x = hd
      · subst e; rw [upd_same] at h2; cases h2
      · rw [sget_cons_other k st e] at h1; rw [upd_other e] at h2; exact hn (.inr ⟨x, k', m, h1, h2⟩)
  refine ⟨{ blk := ?_, inj := ?_, out := ?_, pin := ?_, xlt := h.xlt, hb := h.hb, os := h.os, tape := h.tape, output := h.output, keep := h.keep }, hO⟩
  · intro x k' h1
    by_cases e : x = hd
    · subst e
      rw [sget_cons_same] at h1; cases h1
      rw [upd_same]
      exact ⟨hk, hlp⟩
    · rw [sget_cons_other k st e] at h1
      rw [upd_other e]
      refine ((h.blk x k' h1).mono (fun _ _ _ => rfl) (Kept.refl _ _) (fun b _ => hO b)).remap fun hp g hg y hy => upd_other ?_
      intro e
      subst e
      rw [stNo_get hno h1 hp hg] at hy
      cases hy
  · intro x x' k1 k2 b m m' h1 h2 h3 h4
    have e : x ≠ hd := fun e => by subst e; rw [upd_same] at h3; cases h3
    have e' : x' ≠ hd := fun e => by subst e; rw [upd_same] at h4; cases h4
    rw [sget_cons_other k st e] at h1; rw [sget_cons_other k st e'] at h2; rw [upd_other e] at h3; rw [upd_other e'] at h4
    exact h.inj x x' k1 k2 b m m' h1 h2 h3 h4
  · intro x k' b m h1 h2
    have e : x ≠ hd := fun e => by subst e; rw [upd_same] at h2; cases h2
    rw [sget_cons_other k st e] at h1; rw [upd_other e] at h2
    exact h.out x k' b m h1 h2
  · intro x k1 h1 h2
    by_cases e : x = hd
    · subst e; rw [hpn] at h2; cases h2
    · rw [sget_cons_other k st e] at h1; rw [upd_other e]; exact h.pin x k1 h1 h2

theorem Rel.adopt {μ : Mu} {a : Act} {w : World} (h : Rel N cx μ s a w) {t : Nat} (hd : Nat) (k : Blk) (hg : get s.fr t = some (.val (.slice none 0 0))) (hf : fresh s hd = true) (hk : k.cells = []) (hlp : k.lp = none) :
    ∃ μ', Rel N cx μ' { fr := (t, .osl hd k.sz 0 0) :: s.fr, st := (hd, k) :: s.st, df := s.df } a w := by
  obtain ⟨h1, h2, h3, h5, h6⟩ := fresh_spec hf
  obtain ⟨h4, hO⟩ := h.st.newNil h1 h3 (not_pinned h6) hk hlp
  refine ⟨upd μ hd none, { st := h4, nd := (h.nd.mono (Kept.refl _ _) (fun b _ => hO b)).remap (fun g hg y hy => upd_other fun e => by subst e; rw [dfNo_mem h5 hg] at hy; cases hy), sz := h.sz, fr := fun t' g hg' => ?_ }⟩
  rw [get_cons] at hg'
  cases hb : Nat.beq t t' with
  | true =>
    rw [hb] at hg'
    cases hg'
    have := Nat.eq_of_beq_eq_true hb
    subst this
    obtain ⟨v, hv, hr⟩ := h.fr t _ hg
    cases hr with
    | imm hr => cases hr; exact ⟨_, hv, .onil hd k.sz (upd_same _ _ _)⟩
  | false =>
    rw [hb] at hg'
    obtain ⟨v, hv, hr⟩ := h.fr t' g hg'
    refine ⟨v, hv, (hr.mono (Kept.refl _ _) (fun b _ => hO b) (Nat.le_refl _)).remap fun y hy => upd_other ?_⟩
    intro e
    subst e
    rw [frNo_get h2 hg'] at hy
    cases hy

theorem GW.adopt {c : Code} {Q : Exit → St → Prop} (t hd : Nat) (e : TypeId) (sz : Nat) (hg : get s.fr t = some (.val (.slice none 0 0))) (hf : fresh s hd = true)
    (h : GW P N cx c Q { fr := (t, .osl hd sz 0 0) :: s.fr, st := (hd, ⟨e, true, true, true, sz, [], none⟩) :: s.st, df := s.df }) : GW P N cx c Q s := fun _ a w hr =>
  let ⟨μ', h'⟩ := hr.adopt hd ⟨e, true, true, true, sz, [], none⟩ hg hf rfl rfl
  h μ' a w h'
theorem GL.adopt {ops : Array Oper} {rest : List Oper} {Q : Exit → St → Prop} (t hd : Nat) (e : TypeId) (sz : Nat) (hg : get s.fr t = some (.val (.slice none 0 0))) (hf : fresh s hd = true)
    (h : GL P N cx ops Q rest { fr := (t, .osl hd sz 0 0) :: s.fr, st := (hd, ⟨e, true, true, true, sz, [], none⟩) :: s.st, df := s.df }) : GL P N cx ops Q rest s := fun _ a w hr =>
  let ⟨μ', h'⟩ := hr.adopt hd ⟨e, true, true, true, sz, [], none⟩ hg hf rfl rfl
  h μ' a w h'

/-! ### A slice written out -/

def evs (s : St) : List (Nat × Operand) → Nat → Option (List G)
  | [], _ => some []
  | (i, x) :: r, j => match Nat.beq i j, ev s x, evs s r (j + 1) with
    | true, some g, some gs => some (g :: gs)
    | _, _, _ => none

theorem evs_spec {μ : Mu} {a : Act} {w : World} (h : Rel N cx μ s a w) : ∀ (l : List (Nat × Operand)) (j : Nat) (gs : List G), evs s l j = some gs →
    l.map (fun x => (x.1, a.eval x.2)) = ((l.map (fun x => a.eval x.2)).zipIdx j).map (fun x => (x.2, x.1)) ∧ gs.length = l.length ∧
    ∀ (i : Nat) (g : G) (v : Value), gs[i]? = some g → (l.map (fun x => a.eval x.2))[i]? = some v → (∃ x, AM.ev s x = some g ∧ a.eval x = v)
  | [], _, gs, he => by cases he; exact ⟨rfl, rfl, fun i g v h => by simp at h⟩
  | (i, x) :: r, j, gs, he => by
    simp only [evs] at he
    cases hb : Nat.beq i j with
    | false => rw [hb] at he; cases he
    | true =>
      rw [hb] at he
      cases hx : AM.ev s x with
      | none => rw [hx] at he; cases he
      | some g =>
        rw [hx] at he
        cases hr : evs s r (j + 1) with
        | none => rw [hr] at he; cases he
        | some gs' =>
          rw [hr] at he
          cases he
          obtain ⟨h1, h2, h3⟩ := evs_spec h r (j + 1) gs' hr
          have := Nat.eq_of_beq_eq_true hb
          subst this
          refine ⟨by simp only [List.map_cons, List.zipIdx_cons, h1], by simp [h2], ?_⟩
          intro n g' v hg hv
          cases n with
          | zero => simp only [List.map_cons, List.getElem?_cons_zero, Option.some.injEq] at hg hv; subst hg hv; exact ⟨x, hx, rfl⟩
          | succ n => simp only [List.map_cons, List.getElem?_cons_succ] at hg hv; exact h3 n g' v hg hv

def okCells (sz : Nat) : List G → Bool
  | [] => true
  | g :: r => gok g && Nat.beq (gcells g).length sz && okCells sz r
theorem okCells_mem {sz : Nat} : ∀ {gs : List G}, okCells sz gs = true → ∀ g ∈ gs, gok g = true ∧ (gcells g).length = sz
  | [], _, _, h => by cases h
  | g :: r, h, x, hx => by
    simp only [okCells, Bool.and_eq_true] at h
    cases hx with
    | head => exact ⟨h.1.1, Nat.eq_of_beq_eq_true h.1.2⟩
    | tail _ hx => exact okCells_mem h.2 x hx

theorem flatMap_get {α β : Type} (f : α → List β) (sz : Nat) (hsz : 0 < sz) : ∀ (l : List α), (∀ x ∈ l, (f x).length = sz) → ∀ j, (l.flatMap f)[j]? = (l[j / sz]?).bind (fun x => (f x)[j % sz]?)
  | [], _, j => by simp
  | x :: l, h, j => by
    have hx := h x List.mem_cons_self
    rw [List.flatMap_cons]
    by_cases hj : j < sz
    · rw [List.getElem?_append_left (by omega), Nat.div_eq_of_lt hj, Nat.mod_eq_of_lt hj]; rfl
    · have h1 : j / sz = (j - sz) / sz + 1 := by
        conv => lhs; rw [← Nat.sub_add_cancel (Nat.le_of_not_lt hj)]
        rw [Nat.add_div_right _ hsz]
      have h2 : j % sz = (j - sz) % sz := by
        conv => lhs; rw [← Nat.sub_add_cancel (Nat.le_of_not_lt hj)]
        rw [Nat.add_mod_right]
      rw [List.getElem?_append_right (by omega), hx, flatMap_get f sz hsz l (fun y hy => h y (List.mem_cons_of_mem _ hy)) (j - sz), h1, h2, List.getElem?_cons_succ]

theorem EF.buildSlice {t e : TypeId} {n sz : Nat} {parts : Array (Nat × Operand)} {gs : List G} {z : Value} {bt : Nat} (hd : Nat) (hgs : evs s parts.toList 0 = some gs) (hn : gs.length = n) (ht : P.underlying t = some (.slice e))
    (hi : (P.info? e).map (fun i => (i.zero, i.size, i.bytes)) = some (some z, sz, bt)) (h0 : 0 < n * sz) (hsmall : n * sz ≤ 16777216) (hok : okCells sz gs = true) (hfr : fresh s hd = true) :
    Effect P W s ⟨some d, .buildSlice t n parts, ty, pos, after, guard⟩ (· = { fr := (d, .osl hd sz 0 n) :: s.fr, st := (hd, ⟨e, false, true, false, sz, gs.flatMap gcells, none⟩) :: s.st, df := s.df }) := by
  refine Effect.of (s1 := { fr := s.fr, st := (hd, ⟨e, false, true, false, sz, gs.flatMap gcells, none⟩) :: s.st, df := s.df }) (g := .osl hd sz 0 n) rfl (fun _ h => by cases h) ?_
  intro N cx μ a w hr
  obtain ⟨i, hi1, hi2⟩ := Option.map_eq_some_iff.1 hi
  simp only [Prod.mk.injEq] at hi2
  obtain ⟨hz, hs1, hb1⟩ := hi2
  have hsz : 0 < sz := by rcases Nat.eq_zero_or_pos sz with h | h; · rw [h] at h0; omega
                          · exact h
  obtain ⟨e1, e2, e3⟩ := evs_spec hr parts.toList 0 gs hgs
  generalize hvs : parts.toList.map (fun x => a.eval x.2) = vs at e1 e3
  have hvl : vs.length = n := by rw [← hvs, List.length_map, ← e2, hn]
  have hget : ∀ (j : Nat) (v : Value), vs[j]? = some v → ∃ g, gs[j]? = some g ∧ v.cells.size = (gcells g).length ∧ (gcells g).length = sz ∧ ∀ (j : Nat) (g' : G), (gcells g)[j]? = some g' → ∃ u, v.cells[j]? = some u ∧ RepV (cx.O s.st μ) cx.base w μ g' u := by
    intro j v hv
    have hj : j < gs.length := by have := (List.getElem?_eq_some_iff.1 hv).1; omega
    have hg := List.getElem?_eq_getElem hj
    obtain ⟨x, hx, hxv⟩ := e3 j _ v hg hv
    obtain ⟨ok1, ok2⟩ := okCells_mem hok _ (List.getElem_mem hj)
    obtain ⟨c1, c2⟩ := (hr.ev hx).cells ok1
    rw [hxv] at c1 c2
    exact ⟨_, hg, c1, ok2, c2⟩
  have hvsz : ∀ v ∈ vs, v.cells.size = sz := by
    intro v hv
    obtain ⟨j, hj⟩ := List.getElem?_of_mem hv
    obtain ⟨g, _, h1, h2, _⟩ := hget j v hj
    rw [h1, h2]
  have hfill := Go.Great.fill_whole hsz vs ((Array.range (n * sz)).map (z.cells[· % z.cells.size]!)) hvsz (by simp [hvl])
  have hparts : (parts.map fun (x : Nat × Operand) => (x.1, a.eval x.2)).toList = (vs.zipIdx 0).map fun x => (x.2, x.1) := by
    rw [Array.toList_map]; exact e1
  have hrun := Go.run_buildSlice (P := P) w t e n (parts.map fun (x : Nat × Operand) => (x.1, a.eval x.2)) (vs.flatMap fun v => v.cells.toList).toArray i z ht hi1 hz (by rw [hs1]; omega) (by rw [hs1]; omega) (by rw [hs1, hparts]; exact hfill)
  have hlen : (vs.flatMap fun v => v.cells.toList).toArray.size = n * sz := by
    rw [List.size_toArray, List.length_flatMap]
    have : vs.map (fun v => v.cells.toList.length) = List.replicate n sz := by
      rw [← hvl]
      apply List.ext_getElem
      · simp
      · intro j h1 h2
        simp only [List.getElem_map, List.getElem_replicate, Array.length_toList]
        exact hvsz _ (List.getElem_mem _)
    rw [this, List.sum_replicate_nat]
  have hlenG : (gs.flatMap gcells).length = n * sz := by
    rw [List.length_flatMap]
    have : gs.map (fun g => (gcells g).length) = List.replicate n sz := by
      rw [← hn]
      apply List.ext_getElem
      · simp
      · intro j h1 h2
        simp only [List.getElem_map, List.getElem_replicate]
        exact (okCells_mem hok _ (List.getElem_mem _)).2
    rw [this, List.sum_replicate_nat]
  obtain ⟨μ', w', rfl, h1, h2, h3⟩ := hr.allocNew (k := ⟨e, false, true, false, sz, gs.flatMap gcells, none⟩) (cs := (vs.flatMap fun v => v.cells.toList).toArray) hfr rfl (by rw [hlen]; simp only; rw [hlenG]; exact Nat.le_refl _) (fun _ => by
      rw [hlen]
      have h1 : n ≤ n * sz := Nat.le_mul_of_pos_right n hsz
      exact Nat.mul_le_mul_right sz (Nat.le_trans h1 (Nat.le_trans hsmall (by decide))))
    (fun j g' hg' => by
      dsimp only at hg'
      rw [flatMap_get gcells sz hsz gs (fun g hg => (okCells_mem hok g hg).2) j] at hg'
      cases hgj : gs[j / sz]? with
      | none => rw [hgj] at hg'; cases hg'
      | some g =>
        rw [hgj] at hg'
        simp only [Option.bind_some] at hg'
        have hj : j / sz < vs.length := by have := (List.getElem?_eq_some_iff.1 hgj).1; omega
        obtain ⟨g2, hg2, _, _, hc⟩ := hget (j / sz) _ (List.getElem?_eq_getElem hj)
        rw [hgj] at hg2
        cases hg2
        obtain ⟨u, hu, hru⟩ := hc (j % sz) g' hg'
        refine ⟨u, ?_, hru⟩
        rw [List.getElem?_toArray, Go.Great.flat_get hsz vs hvsz j, List.getElem?_eq_getElem hj]
        exact hu)
    (fun _ g' hg' => by
      obtain ⟨g, hg, hg'⟩ := List.mem_flatMap.1 hg'
      cases hh : g'.hasH hd with
      | false => rfl
      | true =>
        have := gcells_hasH hg' hh
        obtain ⟨j, hj⟩ := List.getElem?_of_mem hg
        have hjl : j < vs.length := by have := (List.getElem?_eq_some_iff.1 hj).1; omega
        obtain ⟨x, hx, _⟩ := e3 j g _ hj (List.getElem?_eq_getElem hjl)
        rw [ev_hasH hx (fresh_spec hfr).2.1] at this
        cases this) W
  rw [hlen] at h2
  refine ⟨_, μ', _, ?_, h1, .osl hd sz 0 n _ _ n h2 (Nat.le_refl _) (by omega), h3⟩
  simp [execOp, hrun]

end
end Go.AM
