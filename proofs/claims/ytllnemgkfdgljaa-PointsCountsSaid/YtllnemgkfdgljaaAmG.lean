/-
  AM, part G: stores.
-/
import Derived.Test.YtllnemgkfdgljaaAmF
set_option linter.unusedSectionVars false
set_option linter.unusedSimpArgs false
set_option linter.unusedVariables false
namespace Go.AM

theorem sget_sset_ne {st : List (Nat × Blk)} {h x : Nat} {k k' : Blk} (hk : sget st h = some k) (hx : sget (sset st h k') x = some k') : sget st x ≠ none := by
  by_cases e : x = h
  · subst e; rw [hk]; exact fun h => by cases h
  · rw [sget_sset_other e] at hx; rw [hx]; exact fun h => by cases h

theorem Own.sset {st : List (Nat × Blk)} {μ : Mu} {h : Nat} {k k' : Blk} (hk : sget st h = some k) {b : Nat} : Own (sset st h k') μ b ↔ Own st μ b := by
  constructor
  · rintro ⟨x, k1, m, h1, h2⟩
    by_cases e : x = h
    · subst e; exact ⟨x, k, m, hk, h2⟩
    · rw [sget_sset_other e] at h1; exact ⟨x, k1, m, h1, h2⟩
  · rintro ⟨x, k1, m, h1, h2⟩
    by_cases e : x = h
    · subst e; exact ⟨x, k', m, sget_sset_same hk, h2⟩
    · exact ⟨x, k1, m, by rw [sget_sset_other e]; exact h1, h2⟩

def G.one : G → Bool
  | .val v => v.oneCell'
  | .fr (.sl _ _) => true
  | .fr (.ptr _) => true
  | .sl _ _ => true
  | .ptr _ => true
  | .loc _ _ => true
  | .osl _ _ _ _ => true
  | .clo _ _ => true
  | .yld _ => true
  | _ => false

theorem RepI.one {O : Nat → Prop} {w : World} {g : G} {v : Value} (h : RepI O w g v) (ho : g.one = true) : v.oneCell' = true := by
  cases h with
  | any v => cases ho
  | val v => exact ho
  | nil => rfl
  | emp => rfl
  | sl _ _ => rfl
  | ptr _ => rfl
  | agg _ _ _ _ => cases ho
theorem RepV.one {O : Nat → Prop} {base : Nat} {w : World} {μ : Mu} {g : G} {v : Value} (h : RepV O base w μ g v) (ho : g.one = true) : v.oneCell' = true := by
  cases h with
  | imm h => exact h.one ho
  | fr h =>
    rename_i g
    cases g with
    | sl n cs => exact h.one rfl
    | ptr cs => exact h.one rfl
    | _ => cases ho
  | agg _ _ _ _ => cases ho
  | tup _ _ _ _ => cases ho
  | _ => rfl
theorem oneCell_cells {v : Value} (h : v.oneCell' = true) : v.cells = #[v] := by cases v <;> first | rfl | cases h

/-- As a cell of a block that names no handle: the reading, and is it fresh? -/
def immG : G → Option (G × Bool)
  | .val v => some (.val v, true)
  | .fr (.sl n cs) => some (.sl n cs, true)
  | .fr (.ptr cs) => some (.ptr cs, true)
  | .sl n cs => some (.sl n cs, false)
  | .ptr cs => some (.ptr cs, false)
  | _ => none

theorem immG_spec {O : Nat → Prop} {base : Nat} {w : World} {μ : Mu} {g g' : G} {f : Bool} {v : Value} (h : RepV O base w μ g v) (hi : immG g = some (g', f)) :
    RepI (bif f then Old O base else O) w g' v := by
  have hval : ∀ (O' : Nat → Prop), g = .val v → RepI O' w (.val v) v := fun _ _ => .val v
  cases g with
  | val u =>
    cases hi
    cases h with
    | imm h => cases h; exact .val _
  | sl n cs =>
    cases hi
    cases h with
    | imm h => exact h
  | ptr cs =>
    cases hi
    cases h with
    | imm h => exact h
  | fr g =>
    cases h with
    | imm h => cases h
    | fr h =>
      cases g with
      | sl n cs => cases hi; exact h
      | ptr cs => cases hi; exact h
      | _ => cases hi
  | _ => cases hi

theorem RepI.flag {O : Nat → Prop} {base : Nat} {w : World} {g : G} {v : Value} {f f' : Bool} (h : RepI (bif f then Old O base else O) w g v) (hf : f' = true → f = true) : RepI (bif f' then Old O base else O) w g v := by
  cases f' with
  | true => rw [hf rfl] at h; exact h
  | false =>
    cases f with
    | true => exact h.old
    | false => exact h

section
variable {P : Program} {N : Nat} {cx : Cx} {s : St}

theorem RelSt.write {μ : Mu} {st : List (Nat × Blk)} {w w' : World} (h : RelSt cx μ st w) {hh : Nat} {k k' : Blk} {b m : Nat} {cs' : Array Value} (hk : sget st hh = some k) (hm : μ hh = some (b, m))
    (hb' : w'.heap[b]? = some (.cells cs' k'.ety (0, 0))) (hs : cs'.size = m) (hsz : w'.heap.size = w.heap.size) (hoth : ∀ b', b' ≠ b → w'.heap[b']? = w.heap[b']?)
    (hos : w'.os = w.os) (htape : w'.tape = w.tape) (hout : w'.output = w.output) (hmine : k'.mine = true → k.mine = true) (hl : k'.cells.length ≤ m) (hbt : k'.sz ≠ 0 → m ≤ maxLen * k'.sz)
    (hc : ∀ (j : Nat) (g : G), k'.cells[j]? = some g → ∃ v, cs'[j]? = some v ∧ RepC (cx.O st μ) cx.base w μ k' g v) (hlp : k'.lp = none) :
    RelSt cx μ (sset st hh k') w' ∧ Kept (cx.O st μ) w w' ∧ ∀ b, cx.O (sset st hh k') μ b ↔ cx.O st μ b := by
  have hOO : ∀ b, cx.O (sset st hh k') μ b ↔ cx.O st μ b := fun b => or_congr Iff.rfl (Own.sset hk)
  have hown : cx.O st μ b := .inr ⟨hh, k, m, hk, hm⟩
  have hkept : Kept (cx.O st μ) w w' := ⟨by rw [hsz]; exact Nat.le_refl _, fun b' _ hn => hoth b' fun e => hn (e ▸ hown)⟩
  have hO : ∀ b, b < w.heap.size → ¬ cx.O st μ b → ¬ cx.O (sset st hh k') μ b := fun b _ hn ho => hn ((hOO b).1 ho)
  obtain ⟨hx, hbA⟩ := h.out hh k b m hk hm
  have hkb := h.blk hh k hk
  rw [hm] at hkb
  obtain ⟨_, hmb⟩ := hkb.heap
  refine ⟨{ blk := ?_, inj := ?_, out := ?_, pin := ?_, xlt := h.xlt, hb := by rw [hsz]; exact h.hb, os := hos.trans h.os, tape := htape.trans h.tape, output := hout.trans h.output, keep := ?_ }, hkept, hOO⟩
  · intro x k1 h1
    rcases sget_sset_iff hk h1 with ⟨rfl, rfl⟩ | ⟨hne, h1⟩
    · rw [hm]
      exact .mk hlp ⟨cs', hb', hs, hl, fun hmn => hmb (hmine hmn), hbt, fun j g hg => let ⟨v, hv, hr⟩ := hc j g hg; ⟨v, hv, hr.mono hkept hO⟩⟩
    · exact (h.blk x k1 h1).mono (fun b1 m1 hmx => hoth b1 fun e => hne (h.inj x hh k1 k b m1 m h1 hk (e ▸ hmx) hm)) hkept hO
  · intro x x' k1 k2 b1 m1 m2 h1 h2 h3 h4
    have f : ∀ x k1, sget (sset st hh k') x = some k1 → ∃ k1, sget st x = some k1 := fun x k1 h1 => by
      rcases sget_sset_iff hk h1 with ⟨rfl, rfl⟩ | ⟨_, h1⟩
      · exact ⟨k, hk⟩
      · exact ⟨_, h1⟩
    obtain ⟨k1', h1'⟩ := f x k1 h1
    obtain ⟨k2', h2'⟩ := f x' k2 h2
    exact h.inj x x' k1' k2' b1 m1 m2 h1' h2' h3 h4
  · intro x k1 b1 m1 h1 h2
    rcases sget_sset_iff hk h1 with ⟨rfl, rfl⟩ | ⟨_, h1⟩
    · exact h.out x k b1 m1 hk h2
    · exact h.out x k1 b1 m1 h1 h2
  · intro x k1 h1 h2
    rcases sget_sset_iff hk h1 with ⟨rfl, rfl⟩ | ⟨_, h1⟩
    · exact h.pin x k hk h2
    · exact h.pin x k1 h1 h2
  · intro b' hb1 hA
    rw [hoth b' (fun e => by subst e; exact hbA.elim (fun h1 => by omega) (fun h1 => hA h1))]
    exact h.keep b' hb1 hA

theorem Rel.write {μ : Mu} {a : Act} {w w' : World} (h : Rel N cx μ s a w) {hh : Nat} {k k' : Blk} {b m : Nat} {cs' : Array Value} (hk : sget s.st hh = some k) (hm : μ hh = some (b, m))
    (hb' : w'.heap[b]? = some (.cells cs' k'.ety (0, 0))) (hs : cs'.size = m) (hsz : w'.heap.size = w.heap.size) (hoth : ∀ b', b' ≠ b → w'.heap[b']? = w.heap[b']?)
    (hos : w'.os = w.os) (htape : w'.tape = w.tape) (hout : w'.output = w.output) (hmine : k'.mine = true → k.mine = true) (hl : k'.cells.length ≤ m) (hbt : k'.sz ≠ 0 → m ≤ maxLen * k'.sz)
    (hc : ∀ (j : Nat) (g : G), k'.cells[j]? = some g → ∃ v, cs'[j]? = some v ∧ RepC (cx.O s.st μ) cx.base w μ k' g v) (W : List Nat) (hW : W.contains hh = true) (hlp : k'.lp = none) :
    Rel N cx μ { fr := s.fr, st := sset s.st hh k', df := s.df } a w' ∧ Step W s.st μ (sset s.st hh k') μ w w' := by
  obtain ⟨h1, h2, h3⟩ := h.st.write hk hm hb' hs hsz hoth hos htape hout hmine hl hbt hc hlp
  refine ⟨{ st := h1, nd := h.nd.mono h2 (fun b _ hn ho => hn ((h3 b).1 ho)), sz := h.sz, fr := fun t g hg => ?_ }, ?_⟩
  · obtain ⟨v, hv, hr⟩ := h.fr t g hg
    exact ⟨v, hv, hr.mono h2 (fun b _ hn ho => hn ((h3 b).1 ho)) (Nat.le_refl _)⟩
  · refine ⟨by rw [hsz]; exact Nat.le_refl _, fun b' _ hn => hoth b' fun e => ?_, fun x k1 b1 m1 hw h1 h2 => ?_⟩
    · subst e
      exact hn hh k m (by simpa using hW) hk hm
    · rcases sget_sset_iff hk h1 with ⟨rfl, rfl⟩ | ⟨_, h1⟩
      · exact .inl ⟨x, k, m1, hw, hk, h2⟩
      · exact .inl ⟨x, k1, m1, hw, h1, h2⟩

variable {ty : TypeId} {pos : String} {after : Array Edge} {guard : Option (Nat × Bool)} {W : List Nat}

theorem setRow_heap_same {w : World} {g : Nat} {cs new : Array Value} {e : TypeId} {f : Nat × Nat} (h : w.heap[g]? = some (.cells cs e f)) : (w.setRow g new).heap[g]? = some (.cells new e f) := setRow_heap w g cs new e f h

theorem setRow_size (w : World) (g : Nat) (new : Array Value) : (w.setRow g new).heap.size = w.heap.size := by simp [World.setRow]

/-- A store of one value of one cell, or of a struct: into a block whose cells may name handles. -/
theorem EF.storeN {t : TypeId} {x y : Operand} {h off sz : Nat} {k : Blk} {g : G} {gs cells' : List G} (hx : ev s x = some (.loc h off)) (hy : ev s y = some g) (hk : sget s.st h = some k) (hp : k.pure = false)
    (hok : gok g = true) (hgs : gcells g = gs) (hone : gs.all G.one = true) (hl : gs.length = sz) (hsz : ∀ w, (sizeOf t).run P w = .ok sz w) (hoff : off + sz ≤ k.cells.length) (hW : W.contains h = true)
    (hc' : k.cells.take off ++ gs ++ k.cells.drop (off + sz) = cells') (hlp : k.lp = none := by rfl) :
    Effect P W s ⟨none, .store t x y, ty, pos, after, guard⟩ (· = { fr := s.fr, st := sset s.st h { k with cells := cells' }, df := s.df }) := by
  refine Effect.skip rfl (fun _ h => by cases h) ?_
  intro N cx μ a w hr
  obtain ⟨b, m, e1, hm⟩ := hr.loc hx
  obtain ⟨cs, h1, h2, h3, h4, hbt, h5⟩ := hr.own hk hm hlp
  obtain ⟨hvl, hvc⟩ := (hr.ev hy).cells hok
  rw [hgs] at hvl hvc
  have hlen : (a.eval y).cells.toList.length = sz := by rw [Array.length_toList, hvl, hl]
  have hrun := run_storeCells_at P b off k.ety (a.eval y).cells.toList 0 cs w h1 (by rw [hlen]; omega) (fun v hv => by
    obtain ⟨j, hj⟩ := List.getElem?_of_mem hv
    have hjl : j < gs.length := by
      have := (List.getElem?_eq_some_iff.1 hj).1
      omega
    obtain ⟨u, hu, hru⟩ := hvc j gs[j] (List.getElem?_eq_getElem hjl)
    rw [Array.getElem?_toList] at hj
    rw [hj] at hu
    cases hu
    exact hru.one (List.all_eq_true.1 hone _ (List.getElem_mem hjl)))
  rw [Nat.add_zero, hlen] at hrun
  refine ⟨μ, w.setRow b (cs.toList.take off ++ (a.eval y).cells.toList ++ cs.toList.drop (off + sz)).toArray, ?_, ?_⟩
  · simp only [execOp, Instr.storeAt, Instr.sureAddr, e1, storeVar, hsz, Sem.run_bind, Sem.run_pure, Result.andThen_ok]
    rw [if_neg (by rw [hvl, hl]; simp)]
    rw [hrun]
    rfl
  · subst hc'
    refine hr.write (k' := { k with cells := k.cells.take off ++ gs ++ k.cells.drop (off + sz) }) hk hm (setRow_heap_same h1) ?_ (setRow_size _ _ _) (fun b' hb' => setRow_other w b b' _ hb') rfl rfl rfl id ?_ hbt ?_ W hW hlp
    · simp only [List.size_toArray, List.length_append, List.length_take, List.length_drop, Array.length_toList, hvl, hl]; omega
    · simp only [List.length_append, List.length_take, List.length_drop, hl]; omega
    · intro j g' hg'
      have hget : ∀ (j : Nat), (cs.toList.take off ++ (a.eval y).cells.toList ++ cs.toList.drop (off + sz)).toArray[j]? = if j < off then cs[j]? else if j < off + sz then (a.eval y).cells[j - off]? else cs[j]? := by
        intro j
        rw [List.getElem?_toArray, List.append_assoc, List.getElem?_append, List.length_take, Array.length_toList, Nat.min_eq_left (by omega : off ≤ cs.size)]
        split
        · rename_i hj; rw [List.getElem?_take, if_pos hj, Array.getElem?_toList]
        · rw [List.getElem?_append, hlen]
          split
          · rename_i hj1 hj2; rw [if_pos (by omega), Array.getElem?_toList]
          · rename_i hj1 hj2; rw [if_neg (by omega), List.getElem?_drop, Array.getElem?_toList]; congr 1; omega
      dsimp only at hg'
      rw [List.append_assoc, List.getElem?_append, List.length_take, Nat.min_eq_left (by omega : off ≤ k.cells.length)] at hg'
      rw [hget]
      split at hg'
      · rename_i hj
        rw [if_pos hj]
        rw [List.getElem?_take, if_pos hj] at hg'
        obtain ⟨v, hv, hrv⟩ := h5 j g' hg'
        refine ⟨v, hv, ?_⟩
        unfold RepC at hrv ⊢
        rw [hp] at hrv ⊢
        exact hrv
      · rename_i hj
        rw [if_neg hj]
        rw [List.getElem?_append, hl] at hg'
        split at hg'
        · rename_i hj2
          rw [if_pos (by omega)]
          obtain ⟨v, hv, hrv⟩ := hvc _ g' hg'
          refine ⟨v, hv, ?_⟩
          unfold RepC
          rw [hp]
          exact hrv
        · rename_i hj2
          rw [if_neg (by omega)]
          rw [List.getElem?_drop] at hg'
          have : off + sz + (j - off - sz) = j := by omega
          rw [this] at hg'
          obtain ⟨v, hv, hrv⟩ := h5 j g' hg'
          refine ⟨v, hv, ?_⟩
          unfold RepC at hrv ⊢
          rw [hp] at hrv ⊢
          exact hrv

/-- A store of one cell into a block whose cells name no handle. -/
theorem EF.storeP {t : TypeId} {x y : Operand} {h off : Nat} {k : Blk} {g g' : G} {f : Bool} (hx : ev s x = some (.loc h off)) (hy : ev s y = some g) (hk : sget s.st h = some k) (hp : k.pure = true)
    (hi : immG g = some (g', f)) (hone : g.one = true) (hsz : ∀ w, (sizeOf t).run P w = .ok 1 w) (hoff : off < k.cells.length) (hW : W.contains h = true) (hlp : k.lp = none := by rfl) :
    Effect P W s ⟨none, .store t x y, ty, pos, after, guard⟩ (· = { fr := s.fr, st := sset s.st h { k with fresh := k.fresh && f, cells := k.cells.set off g' }, df := s.df }) := by
  refine Effect.skip rfl (fun _ h => by cases h) ?_
  intro N cx μ a w hr
  obtain ⟨b, m, e1, hm⟩ := hr.loc hx
  obtain ⟨cs, h1, h2, h3, h4, hbt, h5⟩ := hr.own hk hm hlp
  have hv := hr.ev hy
  have hvone := hv.one hone
  have hcells := oneCell_cells hvone
  have hrun := run_storeCells_at P b off k.ety [a.eval y] 0 cs w h1 (by simp; omega) (fun v hv => by simp at hv; subst hv; exact hvone)
  simp only [Nat.add_zero, List.length_cons, List.length_nil, Nat.zero_add] at hrun
  refine ⟨μ, w.setRow b (cs.toList.take off ++ [a.eval y] ++ cs.toList.drop (off + 1)).toArray, ?_, ?_⟩
  · simp only [execOp, Instr.storeAt, Instr.sureAddr, e1, storeVar, hsz, Sem.run_bind, Sem.run_pure, Result.andThen_ok]
    rw [if_neg (by rw [hcells]; simp)]
    rw [hcells]
    show ((storeCells ⟨b, off, none⟩ [a.eval y] 0).run P w).andThen _ = _
    rw [hrun]
    rfl
  · have hset : (cs.toList.take off ++ [a.eval y] ++ cs.toList.drop (off + 1)).toArray = cs.setIfInBounds off (a.eval y) := by
      apply Array.ext'
      rw [Array.toList_setIfInBounds, List.set_eq_take_append_cons_drop, if_pos (by rw [Array.length_toList]; omega)]
      simp
    rw [hset]
    refine hr.write (k' := { k with fresh := k.fresh && f, cells := k.cells.set off g' }) hk hm (setRow_heap_same h1) (by simp [h2]) (setRow_size _ _ _) (fun b' hb' => setRow_other w b b' _ hb') rfl rfl rfl id (by simpa using h3) hbt ?_ W hW hlp
    intro j g1 hg1
    dsimp only at hg1
    rw [List.getElem?_set] at hg1
    split at hg1
    · rename_i hj
      subst hj
      cases hg1
      refine ⟨a.eval y, by rw [Array.getElem?_setIfInBounds_self_of_lt (by omega)], ?_⟩
      unfold RepC
      dsimp only
      rw [hp]
      exact (immG_spec hv hi).flag (fun h => by simp at h; exact h.2)
    · rename_i hj
      obtain ⟨v, hv1, hrv⟩ := h5 j g1 hg1
      refine ⟨v, by rw [Array.getElem?_setIfInBounds_ne hj]; exact hv1, ?_⟩
      unfold RepC at hrv ⊢
      dsimp only at hrv ⊢
      rw [hp] at hrv ⊢
      exact hrv.flag (fun h => by simp at h; exact h.1)

end
end Go.AM
