/-
  AM, part BA: what a callee hands back of the blocks that were lent to it.
-/
import Derived.Test.YtllnemgkfdgljaaAmX
set_option linter.unusedSectionVars false
set_option linter.unusedSimpArgs false
set_option linter.unusedVariables false
namespace Go.AM

/-! ### Back -/
def keysHas : List (Nat × Blk) → Nat → Bool
  | [], _ => false
  | (j, _) :: r, x => Nat.beq j x || keysHas r x
theorem keysHas_of {st : List (Nat × Blk)} {j : Nat} {k : Blk} (h : sget st j = some k) : keysHas st j = true := by
  induction st with
  | nil => cases h
  | cons x r ih =>
    obtain ⟨y, k'⟩ := x
    simp only [sget, keysHas, Bool.or_eq_true] at h ⊢
    cases hb : Nat.beq y j with
    | true => exact .inl rfl
    | false => rw [hb] at h; exact .inr (ih h)
theorem keysHas_get {st : List (Nat × Blk)} {j : Nat} (h : keysHas st j = true) : ∃ k, sget st j = some k := by
  induction st with
  | nil => cases h
  | cons x r ih =>
    obtain ⟨y, k'⟩ := x
    simp only [sget, keysHas, Bool.or_eq_true] at h ⊢
    cases hb : Nat.beq y j with
    | true => exact ⟨k', rfl⟩
    | false => rw [hb] at h; exact ih (h.resolve_left (fun h => by cases h))

/-- The caller's handle for a handle of the callee's. -/
def bkH : List (Nat × Blk) → List Nat → Nat → Option Nat
  | (j, _) :: r, h :: hs, x => bif Nat.beq j x then some h else bkH r hs x
  | _, _, _ => none
def bkI : List (Nat × Blk) → List Nat → Nat → Option Nat
  | (j, _) :: r, h :: hs, y => bif Nat.beq h y then some j else bkI r hs y
  | _, _, _ => none

def renG (vw : Bool) (f : Nat → Option Nat) : G → Option G
  | .loc h off => (f h).map fun x => .loc x off
  | .osl h sz off m => (f h).map fun x => .osl x sz off m
  | .yld h => (f h).map .yld
  | .agg gs => (go gs).map .agg
  | .tup gs => (go gs).map .tup
  | .clo g gs => (go gs).map (.clo g)
  | .val v => some (.val v)
  | .fr g => some (.fr g)
  | .sl n cs => bif vw then none else some (.sl n cs)
  | .ptr cs => bif vw then none else some (.ptr cs)
  | .any => some .any
where go : List G → Option (List G)
  | [] => some []
  | g :: r => match renG vw f g, go r with
    | some g', some r' => some (g' :: r')
    | _, _ => none
theorem renG_go {vw : Bool} {f : Nat → Option Nat} : ∀ {gs gs' : List G}, renG.go vw f gs = some gs' → gs'.length = gs.length ∧ ∀ (j : Nat) (g' : G), gs'[j]? = some g' → ∃ g, gs[j]? = some g ∧ renG vw f g = some g'
  | [], _, h => by cases h; exact ⟨rfl, fun j g h => by simp at h⟩
  | g :: r, gs', h => by
    simp only [renG.go] at h
    cases h1 : renG vw f g with
    | none => rw [h1] at h; cases h
    | some g1 =>
      rw [h1] at h
      cases h2 : renG.go vw f r with
      | none => rw [h2] at h; cases h
      | some r1 =>
        rw [h2] at h
        cases h
        obtain ⟨h3, h4⟩ := renG_go h2
        refine ⟨by simp [h3], fun j g' hg' => ?_⟩
        cases j with
        | zero => cases hg'; exact ⟨g, rfl, h1⟩
        | succ j => exact h4 j g' hg'

def renB (vw : Bool) (f : Nat → Option Nat) (k : Blk) : Option Blk :=
  bif k.pure then bif vw && !k.fresh then none else some k else match renG.go vw f k.cells with
    | some cs => some { k with cells := cs }
    | none => none

def mineOf (st : List (Nat × Blk)) (h : Nat) : Bool := match sget st h with
  | some k => k.mine
  | none => false
/-- Is all that is lent the caller's own (or a loop that is handed back)? -/
def mineAll (st st' : List (Nat × Blk)) : List Nat → Nat → Bool
  | [], _ => true
  | h :: r, i => (match sget st h with
    | some k => k.mine || (k.lp.isSome && keysHas st' (1000 + i))
    | none => false) && mineAll st st' r (i + 1)
theorem mineAll_at {st st' : List (Nat × Blk)} : ∀ {r : List Nat} {i : Nat}, mineAll st st' r i = true → ∀ {n h : Nat} {k : Blk}, r[n]? = some h → sget st h = some k → k.mine = true ∨ keysHas st' (1000 + (i + n)) = true
  | [], _, _, _, _, _, e, _ => by cases e
  | x :: r, i, ha, n, h, k, e, hk => by
    simp only [mineAll, Bool.and_eq_true] at ha
    cases n with
    | zero =>
      cases e
      rw [hk] at ha
      simp only [Bool.or_eq_true, Bool.and_eq_true] at ha
      rcases ha.1 with h1 | h1
      · exact .inl h1
      · exact .inr h1.2
    | succ n =>
      have := mineAll_at ha.2 (n := n) (by simpa using e) hk
      rw [show i + 1 + n = i + (n + 1) by omega] at this
      exact this
/-- Whose a block is that comes back. -/
def mineBk (A : Bool) (st : List (Nat × Blk)) (j h : Nat) (lp : Option Lp) (k : Blk) : Blk := bif lp.isNone then bif pinned j then { k with mine := mineOf st h } else { k with mine := k.mine || A } else k
def backSt (vw : Bool) (f : Nat → Option Nat) (A : Bool) (st : List (Nat × Blk)) : List (Nat × Blk) → List Nat → Option (List (Nat × Blk))
  | [], [] => some []
  | (j, k) :: r, h :: hs => match renB vw f k, backSt vw f A st r hs with
    | some k', some r' => some ((h, mineBk A st j h k.lp k') :: r')
    | _, _ => none
  | _, _ => none
def hAt (H : List Nat) (i h : Nat) : Bool := match H[i]? with
  | some x => Nat.beq x h
  | none => false
theorem hAt_eq {H : List Nat} {i h : Nat} (e : hAt H i h = true) : H[i]? = some h := by
  unfold hAt at e
  cases hx : H[i]? with
  | none => rw [hx] at e; cases e
  | some x => rw [hx] at e; rw [Nat.eq_of_beq_eq_true e]
def bkOk (s : St) (H : List Nat) : List (Nat × Blk) → List Nat → Bool
  | [], [] => true
  | (j, _) :: r, h :: hs => !(keysHas r j) && (!(hs.contains h) && ((bif pinned j then hAt H (j - 1000) h else Nat.blt h 1000 && ((idxH H h).isSome || fresh s h)) && bkOk s H r hs))
  | _, _ => false
/-- Lent, and not handed back. -/
def deads (st' : List (Nat × Blk)) : List Nat → Nat → List Nat
  | [], _ => []
  | h :: r, i => bif keysHas st' (1000 + i) then deads st' r (i + 1) else h :: deads st' r (i + 1)
theorem deads_mem {st' : List (Nat × Blk)} : ∀ {r : List Nat} {i h : Nat}, h ∈ r → h ∉ deads st' r i → ∃ n, r[n]? = some h ∧ keysHas st' (1000 + (i + n)) = true
  | [], _, _, hm, _ => by cases hm
  | x :: r, i, h, hm, hn => by
    simp only [deads] at hn
    cases hb : keysHas st' (1000 + i) with
    | true =>
      rw [hb] at hn
      rcases List.mem_cons.1 hm with rfl | hm
      · exact ⟨0, rfl, hb⟩
      · obtain ⟨n, h1, h2⟩ := deads_mem hm hn
        exact ⟨n + 1, h1, by rw [show 1000 + (i + (n + 1)) = 1000 + (i + 1 + n) by omega]; exact h2⟩
    | false =>
      rw [hb] at hn
      simp only [cond_false, List.mem_cons, not_or] at hn
      rcases List.mem_cons.1 hm with rfl | hm
      · exact absurd rfl hn.1
      · obtain ⟨n, h1, h2⟩ := deads_mem hm hn.2
        exact ⟨n + 1, h1, by rw [show 1000 + (i + (n + 1)) = 1000 + (i + 1 + n) by omega]; exact h2⟩

def anyH : List Nat → G → Bool
  | [], _ => false
  | h :: r, g => g.hasH h || anyH r g
theorem anyH_false : ∀ {ds : List Nat} {g : G}, anyH ds g = false → ∀ h ∈ ds, g.hasH h = false
  | [], _, _, _, h => by cases h
  | x :: r, g, e, h, hm => by
    simp only [anyH, Bool.or_eq_false_iff] at e
    rcases List.mem_cons.1 hm with rfl | hm
    · exact e.1
    · exact anyH_false e.2 h hm
def deadG (ds : List Nat) (g : G) : G := bif anyH ds g then .any else g
def deadFr (ds : List Nat) : List (Nat × G) → List (Nat × G)
  | [] => []
  | (t, g) :: r => (t, deadG ds g) :: deadFr ds r
def deadB (ds : List Nat) (k : Blk) : Blk := bif k.pure then k else { k with cells := k.cells.map (deadG ds) }
def deadSt (ds : List Nat) : List (Nat × Blk) → List (Nat × Blk)
  | [] => []
  | (h, k) :: r => (h, deadB ds k) :: deadSt ds r
theorem get_deadFr {ds : List Nat} {fr : List (Nat × G)} {t : Nat} {g : G} (hg : get (deadFr ds fr) t = some g) : ∃ g0, get fr t = some g0 ∧ g = deadG ds g0 := by
  induction fr with
  | nil => cases hg
  | cons x r ih =>
    obtain ⟨k, g'⟩ := x
    simp only [deadFr, get_cons] at hg ⊢
    cases hb : Nat.beq k t with
    | true => rw [hb] at hg; cases hg; exact ⟨g', rfl, rfl⟩
    | false => rw [hb] at hg; exact ih hg
theorem sget_deadSt {ds : List Nat} {st : List (Nat × Blk)} {t : Nat} {k : Blk} (hg : sget (deadSt ds st) t = some k) : ∃ k0, sget st t = some k0 ∧ k = deadB ds k0 := by
  induction st with
  | nil => cases hg
  | cons x r ih =>
    obtain ⟨y, k'⟩ := x
    simp only [deadSt, sget_cons] at hg ⊢
    cases hb : Nat.beq y t with
    | true => rw [hb] at hg; cases hg; exact ⟨k', rfl, rfl⟩
    | false => rw [hb] at hg; exact ih hg
theorem deadG_spec {O : Nat → Prop} {base : Nat} {w : World} {μ μ' : Mu} {ds : List Nat} {g : G} {v : Value} (hv : RepV O base w μ g v) (hμ : ∀ k, k ∉ ds → g.hasH k = true → μ' k = μ k) : RepV O base w μ' (deadG ds g) v := by
  unfold deadG
  cases hh : anyH ds g with
  | true => exact .imm (.any _)
  | false => exact hv.remap fun k hk => hμ k (fun hm => by rw [anyH_false hh k hm] at hk; cases hk) hk
theorem RelBlk.dead {O : Nat → Prop} {base : Nat} {w : World} {μ μ' : Mu} {k : Blk} {x : Option (Nat × Nat)} (hb : RelBlk O base w μ k x) (ds : List Nat) (hμ : k.pure = false → ∀ g ∈ k.cells, ∀ y, y ∉ ds → g.hasH y = true → μ' y = μ y) : RelBlk O base w μ' (deadB ds k) x := by
  unfold deadB
  cases hp : k.pure with
  | true => exact hb.remap fun hp' => by rw [hp] at hp'; cases hp'
  | false =>
    have hμ := hμ hp
    simp only [cond_false]
    cases x with
    | none => obtain ⟨h1, h2⟩ := hb; exact ⟨by simp [h1], h2⟩
    | some bm =>
      obtain ⟨b, m⟩ := bm
      cases hl : k.lp with
      | none =>
        obtain ⟨cs1, h4, h5, h6, h7, h8, h9⟩ := hb.cells hl
        refine .mk rfl ⟨cs1, h4, h5, by simpa using h6, h7, h8, fun j g hg => ?_⟩
        dsimp only at hg
        rw [List.getElem?_map] at hg
        cases hg0 : k.cells[j]? with
        | none => rw [hg0] at hg; cases hg
        | some g0 =>
          rw [hg0] at hg
          cases hg
          obtain ⟨v, hv, hrv⟩ := h9 j g0 hg0
          refine ⟨v, hv, ?_⟩
          unfold RepC at hrv ⊢
          rw [hp] at hrv
          simp only
          exact deadG_spec hrv (hμ g0 (List.mem_of_getElem? hg0))
      | some lp =>
        unfold RelBlk at hb ⊢
        simp only [hl] at hb ⊢
        obtain ⟨D, vs, h1, h2, h3, h4, h5⟩ := hb
        refine ⟨D, vs, h1, h2, h3, rfl, fun j t g ht hg => ?_⟩
        dsimp only at hg
        rw [List.getElem?_map] at hg
        cases hg0 : k.cells[j]? with
        | none => rw [hg0] at hg; cases hg
        | some g0 =>
          rw [hg0] at hg
          cases hg
          obtain ⟨v, hv, hrv⟩ := h5 j t g0 ht hg0
          exact ⟨v, hv, deadG_spec hrv (hμ g0 (List.mem_of_getElem? hg0))⟩

/-- The caller's state behind the call. -/
def backS (vw : Bool) (s : St) (H : List Nat) (st' : List (Nat × Blk)) (bk : List Nat) : Option St :=
  bif bkOk s H st' bk && s.df.all (fun g => !(anyH (deads st' H 0) g)) then match backSt vw (bkH st' bk) (mineAll s.st st' H 0) s.st st' bk with
    | some sb => some { fr := deadFr (deads st' H 0) s.fr, st := sb ++ deadSt (deads st' H 0) (outSt H s.st), df := s.df }
    | none => none
  else none

theorem sget_append {a b : List (Nat × Blk)} {h : Nat} : sget (a ++ b) h = (sget a h).or (sget b h) := by
  induction a with
  | nil => rfl
  | cons x r ih =>
    obtain ⟨y, k⟩ := x
    simp only [List.cons_append, sget]
    cases Nat.beq y h with
    | true => rfl
    | false => exact ih

/-- One row of what comes back. -/
theorem backSt_get {vw A : Bool} {f : Nat → Option Nat} {st : List (Nat × Blk)} {s : St} {H : List Nat} : ∀ {st' : List (Nat × Blk)} {bk : List Nat} {sb : List (Nat × Blk)}, backSt vw f A st st' bk = some sb → bkOk s H st' bk = true →
    ∀ {h : Nat} {k2 : Blk}, sget sb h = some k2 → ∃ j k' k1, sget st' j = some k' ∧ bkI st' bk h = some j ∧ renB vw f k' = some k1 ∧ k2 = mineBk A st j h k'.lp k1
  | [], [], _, e, _, _, _, hg => by cases e; cases hg
  | [], _ :: _, _, e, _, _, _, _ => by cases e
  | _ :: _, [], _, e, _, _, _, _ => by cases e
  | (j, k) :: r, x :: hs, sb, e, ok, h, k2, hg => by
    simp only [backSt] at e
    cases h1 : renB vw f k with
    | none => rw [h1] at e; cases e
    | some k1 =>
      rw [h1] at e
      cases h2 : backSt vw f A st r hs with
      | none => rw [h2] at e; cases e
      | some r' =>
        rw [h2] at e
        cases e
        simp only [bkOk, Bool.and_eq_true, Bool.not_eq_true'] at ok
        obtain ⟨o1, o2, o3, o4⟩ := ok
        simp only [sget] at hg
        cases hb : Nat.beq x h with
        | true =>
          rw [hb] at hg
          cases hg
          have := Nat.eq_of_beq_eq_true hb
          subst this
          exact ⟨j, k, k1, sget_cons_same _ _ _, by simp only [bkI, Nat.beq_refl, cond_true], h1, rfl⟩
        | false =>
          rw [hb] at hg
          obtain ⟨j', k', k1', q1, q2, q3, q4⟩ := backSt_get h2 o4 hg
          refine ⟨j', k', k1', ?_, by simp only [bkI, hb, cond_false]; exact q2, q3, q4⟩
          rw [sget_cons_other _ _ (fun e => by subst e; rw [keysHas_of q1] at o1; cases o1)]
          exact q1
/-- The rows of what comes back. -/
theorem bkOk_row {s : St} {H : List Nat} : ∀ {st' : List (Nat × Blk)} {bk : List Nat}, bkOk s H st' bk = true → ∀ {h j : Nat}, bkI st' bk h = some j →
    keysHas st' j = true ∧ h ∈ bk ∧ bkH st' bk j = some h ∧ ((pinned j = true ∧ H[j - 1000]? = some h) ∨ (pinned j = false ∧ Nat.blt h 1000 = true ∧ (h ∈ H ∨ fresh s h = true)))
  | [], [], _, _, _, e => by cases e
  | [], _ :: _, ok, _, _, _ => by cases ok
  | _ :: _, [], ok, _, _, _ => by cases ok
  | (j, k) :: r, x :: hs, ok, h, j', e => by
    simp only [bkOk, Bool.and_eq_true, Bool.not_eq_true'] at ok
    obtain ⟨o1, o2, o3, o4⟩ := ok
    simp only [bkI] at e
    cases hb : Nat.beq x h with
    | true =>
      rw [hb] at e
      cases e
      have := Nat.eq_of_beq_eq_true hb
      subst this
      refine ⟨by simp [keysHas, Nat.beq_refl], List.mem_cons_self, by simp only [bkH, Nat.beq_refl, cond_true], ?_⟩
      cases hp : pinned j with
      | true => rw [hp] at o3; exact .inl ⟨rfl, hAt_eq o3⟩
      | false =>
        rw [hp] at o3
        simp only [cond_false, Bool.and_eq_true, Bool.or_eq_true] at o3
        refine .inr ⟨rfl, o3.1, o3.2.imp (fun h => ?_) id⟩
        obtain ⟨i, hi⟩ := Option.isSome_iff_exists.1 h
        exact mem_of_idx (idxH_some hi)
    | false =>
      rw [hb] at e
      obtain ⟨q1, q2, q3, q4⟩ := bkOk_row o4 e
      refine ⟨by simp [keysHas, q1], List.mem_cons_of_mem _ q2, ?_, q4⟩
      simp only [bkH]
      have : Nat.beq j j' = false := by
        cases hb2 : Nat.beq j j' with
        | false => rfl
        | true => have := Nat.eq_of_beq_eq_true hb2; subst this; rw [q1] at o1; cases o1
      rw [this]
      exact q3
theorem bkH_row {s : St} {H : List Nat} : ∀ {st' : List (Nat × Blk)} {bk : List Nat}, bkOk s H st' bk = true → ∀ {j h : Nat}, bkH st' bk j = some h → h ∈ bk ∧ bkI st' bk h = some j
  | [], [], _, _, _, e => by cases e
  | [], _ :: _, ok, _, _, _ => by cases ok
  | _ :: _, [], ok, _, _, _ => by cases ok
  | (j, k) :: r, x :: hs, ok, j', h, e => by
    simp only [bkOk, Bool.and_eq_true, Bool.not_eq_true'] at ok
    obtain ⟨o1, o2, o3, o4⟩ := ok
    simp only [bkH] at e
    cases hb : Nat.beq j j' with
    | true =>
      rw [hb] at e
      cases e
      have := Nat.eq_of_beq_eq_true hb
      subst this
      exact ⟨List.mem_cons_self, by simp only [bkI, Nat.beq_refl, cond_true]⟩
    | false =>
      rw [hb] at e
      obtain ⟨q1, q2⟩ := bkH_row o4 e
      refine ⟨List.mem_cons_of_mem _ q1, ?_⟩
      simp only [bkI]
      have : Nat.beq x h = false := by
        cases hb2 : Nat.beq x h with
        | false => rfl
        | true => have := Nat.eq_of_beq_eq_true hb2; subst this; simp at o2; exact absurd q1 o2
      rw [this]
      exact q2
theorem bkH_dom {s : St} {H : List Nat} : ∀ {st' : List (Nat × Blk)} {bk : List Nat}, bkOk s H st' bk = true → ∀ {j : Nat}, keysHas st' j = true → ∃ h, bkH st' bk j = some h
  | [], [], _, _, e => by cases e
  | [], _ :: _, ok, _, _ => by cases ok
  | _ :: _, [], ok, _, _ => by cases ok
  | (j, k) :: r, x :: hs, ok, j', e => by
    simp only [bkOk, Bool.and_eq_true, Bool.not_eq_true'] at ok
    simp only [keysHas, Bool.or_eq_true] at e
    simp only [bkH]
    cases hb : Nat.beq j j' with
    | true => exact ⟨x, rfl⟩
    | false => rw [hb] at e; exact bkH_dom ok.2.2.2 (e.resolve_left fun h => by cases h)

def muB (μ μ'' : Mu) (st' : List (Nat × Blk)) (bk : List Nat) : Mu := fun y => match bkI st' bk y with
  | some j => μ'' j
  | none => μ y

section
variable {P : Program} {N : Nat} {cx : Cx} {s : St}

theorem frNo_of {h : Nat} {fr : List (Nat × G)} (hf : frNo h fr = true) {t : Nat} {g : G} (hg : get fr t = some g) (hh : g.hasH h = true) : False := by
  rw [frNo_get hf hg] at hh; cases hh

/-- The caller's world behind the call. -/
theorem back_rel {a : Act} {w w' : World} {μ μ'' : Mu} {H : List Nat} {vw : Bool} {stC st' : List (Nat × Blk)} {bk : List Nat} {s2 : St} (hr : Rel N cx μ s a w) (hls : lendSt H (lendV s.st H vw) s.st H 0 = some stC) (_hnd : H.Nodup)
    (hC : RelSt (cx0 (lendX cx s.st μ H vw) stC (muC H μ) w) μ'' st' w') (hb : backS vw s H st' bk = some s2) :
    Rel N cx (muB μ μ'' st' bk) s2 a w' ∧
    (∀ g g' v, RepV ((cx0 (lendX cx s.st μ H vw) stC (muC H μ) w).O st' μ'') w.heap.size w' μ'' g v → renG vw (bkH st' bk) g = some g' → RepV (cx.O s2.st (muB μ μ'' st' bk)) cx.base w' (muB μ μ'' st' bk) g' v) ∧
    (∀ W : List Nat, (∀ h ∈ H, h ∈ W) → Step W s.st μ s2.st (muB μ μ'' st' bk) w w') ∧ (∀ y, y ∈ H → y ∉ deads st' H 0 → muB μ μ'' st' bk y = μ y) := by
  unfold backS at hb
  cases hok : bkOk s H st' bk && s.df.all (fun g => !(anyH (deads st' H 0) g)) with
  | false => rw [hok] at hb; cases hb
  | true =>
  rw [hok, cond_true] at hb
  simp only [Bool.and_eq_true] at hok
  obtain ⟨hok, hdf⟩ := hok
  cases hbs : backSt vw (bkH st' bk) (mineAll s.st st' H 0) s.st st' bk with
  | none => rw [hbs] at hb; cases hb
  | some sb =>
  rw [hbs] at hb
  cases hb
  have hst := hr.st
  -- handles that live on
  have alive : ∀ y, y ∉ deads st' H 0 → (bkI st' bk y = none ∨ y ∈ H ∨ fresh s y = false) → muB μ μ'' st' bk y = μ y := by
    intro y hy hn
    unfold muB
    by_cases hyH : y ∈ H
    · obtain ⟨n, e1, e2⟩ := deads_mem hyH hy
      rw [Nat.zero_add] at e2
      obtain ⟨h', e3⟩ := bkH_dom hok e2
      obtain ⟨_, e4⟩ := bkH_row hok e3
      have e5 := (bkOk_row hok e4).2.2.2
      have e6 : h' = y := by
        rcases e5 with ⟨_, e5⟩ | ⟨e5, _⟩
        · rw [show 1000 + n - 1000 = n by omega, e1] at e5; exact (Option.some.inj e5).symm
        · rw [pinned_add] at e5; cases e5
      subst e6
      rw [e4]
      obtain ⟨k, hk⟩ := keysHas_get e2
      have := hC.pin _ k hk (pinned_add n)
      simp only
      rw [this]
      exact muC_at e1
    · cases hI : bkI st' bk y with
      | none => rfl
      | some j =>
        rcases (bkOk_row hok hI).2.2.2 with ⟨_, e⟩ | ⟨_, _, e | e⟩
        · exact absurd (mem_of_idx e) hyH
        · exact absurd e hyH
        · rcases hn with hn | hn | hn
          · rw [hI] at hn; cases hn
          · exact absurd hn hyH
          · rw [hn] at e; cases e
  have notfr : ∀ y t g, get s.fr t = some g → g.hasH y = true → fresh s y = false := by
    intro y t g hg hh
    cases hf : fresh s y with
    | false => rfl
    | true => rw [frNo_get (fresh_spec hf).2.1 hg] at hh; cases hh
  have notst : ∀ y x k g, sget s.st x = some k → k.pure = false → g ∈ k.cells → g.hasH y = true → fresh s y = false := by
    intro y x k g hk hp hg hh
    cases hf : fresh s y with
    | false => rfl
    | true => rw [stNo_get (fresh_spec hf).2.2.1 hk hp hg] at hh; cases hh
  -- what the callee kept
  have hsz : w.heap.size ≤ w'.heap.size := hC.hb
  have hkeep : ∀ b, b < w.heap.size → ¬ Own stC (muC H μ) b → w'.heap[b]? = w.heap[b]? := fun b hb hn => hC.keep b hb hn
  have hown : ∀ b, Own stC (muC H μ) b → Own s.st μ b := fun b ho => by obtain ⟨i, h, k, m, _, h2, h3⟩ := own_lent hls ho; exact ⟨h, k, m, h2, h3⟩
  have hkept : Kept (cx.O s.st μ) w w' := ⟨hsz, fun b hb hn => hkeep b hb fun ho => hn (.inr (hown b ho))⟩
  -- the rows of the new state
  have row : ∀ y k2, sget (sb ++ deadSt (deads st' H 0) (outSt H s.st)) y = some k2 →
      (∃ j k' k1, sget st' j = some k' ∧ bkI st' bk y = some j ∧ renB vw (bkH st' bk) k' = some k1 ∧ k2 = mineBk (mineAll s.st st' H 0) s.st j y k'.lp k1) ∨
      (bkI st' bk y = none ∧ ∃ k0, idxH H y = none ∧ sget s.st y = some k0 ∧ k2 = deadB (deads st' H 0) k0) := by
    intro y k2 h
    rw [sget_append] at h
    cases hs : sget sb y with
    | some k3 =>
      rw [hs] at h
      cases h
      exact .inl (backSt_get hbs hok hs)
    | none =>
      rw [hs, Option.none_or] at h
      obtain ⟨k0, h1, h2⟩ := sget_deadSt h
      obtain ⟨h3, h4⟩ := outSt_get h1
      refine .inr ⟨?_, k0, h3, h4, h2⟩
      cases hI : bkI st' bk y with
      | none => rfl
      | some j =>
        rcases (bkOk_row hok hI).2.2.2 with ⟨_, e⟩ | ⟨_, _, e | e⟩
        · exact absurd (mem_of_idx e) (idxH_none h3)
        · exact absurd e (idxH_none h3)
        · rw [(fresh_spec e).1] at h4; cases h4
  have notdead : ∀ {y}, idxH H y = none → y ∉ deads st' H 0 := by
    intro y hy hm
    have : ∀ (r : List Nat) (i : Nat), y ∈ deads st' r i → y ∈ r := by
      intro r
      induction r with
      | nil => intro i h; cases h
      | cons x r ih =>
        intro i h
        simp only [deads] at h
        cases hb : keysHas st' (1000 + i) with
        | true => rw [hb] at h; exact List.mem_cons_of_mem _ (ih _ h)
        | false =>
          rw [hb] at h
          rcases List.mem_cons.1 h with rfl | h
          · exact List.mem_cons_self
          · exact List.mem_cons_of_mem _ (ih _ h)
    exact idxH_none hy (this H 0 hm)
  -- where the new blocks lie
  have whr : ∀ y k2 b m, sget (sb ++ deadSt (deads st' H 0) (outSt H s.st)) y = some k2 → muB μ μ'' st' bk y = some (b, m) →
      (∃ j k', bkI st' bk y = some j ∧ sget st' j = some k' ∧ μ'' j = some (b, m)) ∨ (bkI st' bk y = none ∧ idxH H y = none ∧ ∃ k0, sget s.st y = some k0 ∧ μ y = some (b, m)) := by
    intro y k2 b m h1 h2
    rcases row y k2 h1 with ⟨j, k', k1, e1, e2, _, _⟩ | ⟨e0, k0, e1, e2, _⟩
    · left
      refine ⟨j, k', e2, e1, ?_⟩
      unfold muB at h2
      rw [e2] at h2
      exact h2
    · right
      refine ⟨e0, e1, k0, e2, ?_⟩
      unfold muB at h2
      rw [e0] at h2
      exact h2
  have hO2 : ∀ b, cx.O (sb ++ deadSt (deads st' H 0) (outSt H s.st)) (muB μ μ'' st' bk) b → cx.X b ∨ Own st' μ'' b ∨ Own (outSt H s.st) μ b := by
    rintro b (ho | ⟨y, k2, m, h1, h2⟩)
    · exact .inl ho
    · rcases whr y k2 b m h1 h2 with ⟨j, k', e1, e2, e3⟩ | ⟨e0, e1, k0, e2, e3⟩
      · exact .inr (.inl ⟨j, k', m, e2, e3⟩)
      · exact .inr (.inr ⟨y, k0, m, outSt_of e1 e2, e3⟩)
  have outlt : ∀ b, Own (outSt H s.st) μ b → b < w.heap.size := fun b ho => by
    obtain ⟨h, k, m, _, h2, h3⟩ := own_out ho
    exact own_lt hst ⟨h, k, m, h2, h3⟩
  have hOO : ∀ b, b < w.heap.size → ¬ cx.O s.st μ b → ¬ cx.O (sb ++ deadSt (deads st' H 0) (outSt H s.st)) (muB μ μ'' st' bk) b := by
    intro b hb hn ho
    rcases hO2 b ho with ho | ⟨j, k', m, h1, h2⟩ | ho
    · exact hn (.inl ho)
    · rcases (hC.out j k' b m h1 h2).2 with h3 | h3
      · exact absurd hb (by show ¬ b < w.heap.size; exact Nat.not_lt.2 h3)
      · exact hn (.inr (hown b h3))
    · obtain ⟨h, k, m, _, h2, h3⟩ := own_out ho
      exact hn (.inr ⟨h, k, m, h2, h3⟩)
  -- the callee's readings in the caller's words
  have impo : ∀ (f : Bool) {g : G} {v : Value}, (vw = true → f = true) → RepI (bif f then Old ((cx0 (lendX cx s.st μ H vw) stC (muC H μ) w).O st' μ'') w.heap.size else (cx0 (lendX cx s.st μ H vw) stC (muC H μ) w).O st' μ'') w' g v →
      RepI (bif f then Old (cx.O (sb ++ deadSt (deads st' H 0) (outSt H s.st)) (muB μ μ'' st' bk)) cx.base else cx.O (sb ++ deadSt (deads st' H 0) (outSt H s.st)) (muB μ μ'' st' bk)) w' g v := by
    intro f g v hf h
    refine h.mono (Kept.refl _ _) fun b _ hn ho => hn ?_
    have key : ∀ {b}, cx.O (sb ++ deadSt (deads st' H 0) (outSt H s.st)) (muB μ μ'' st' bk) b → (vw = false ∨ w.heap.size ≤ b) → (cx0 (lendX cx s.st μ H vw) stC (muC H μ) w).O st' μ'' b := by
      intro b ho hv
      rcases hO2 b ho with ho | ho | ho
      · exact .inl (.inl ho)
      · exact .inr ho
      · rcases hv with hv | hv
        · exact .inl (.inr ⟨hv, ho⟩)
        · have := outlt b ho; omega
    cases f with
    | false => exact key ho (.inl (by cases vw with | false => rfl | true => cases hf rfl))
    | true =>
      rcases ho with ho | ho
      · exact .inl (by have := hst.hb; show b < w.heap.size; omega)
      · by_cases hlt : b < w.heap.size
        · exact .inl hlt
        · exact .inr (key ho (.inr (by omega)))
  have ren : ∀ {g g' : G} {v : Value}, RepV ((cx0 (lendX cx s.st μ H vw) stC (muC H μ) w).O st' μ'') w.heap.size w' μ'' g v → renG vw (bkH st' bk) g = some g' →
      RepV (cx.O (sb ++ deadSt (deads st' H 0) (outSt H s.st)) (muB μ μ'' st' bk)) cx.base w' (muB μ μ'' st' bk) g' v := by
    intro g g' v hv hg
    have hmu : ∀ {j h}, bkH st' bk j = some h → muB μ μ'' st' bk h = μ'' j := by
      intro j h e
      unfold muB
      rw [(bkH_row hok e).2]
    have imm : ∀ {g : G} {v : Value}, RepI ((cx0 (lendX cx s.st μ H vw) stC (muC H μ) w).O st' μ'') w' g v → ∀ {g'}, renG vw (bkH st' bk) g = some g' →
        RepV (cx.O (sb ++ deadSt (deads st' H 0) (outSt H s.st)) (muB μ μ'' st' bk)) cx.base w' (muB μ μ'' st' bk) g' v := by
      intro g v h
      induction h with
      | any v => intro g' hg; cases hg; exact .imm (.any _)
      | val v => intro g' hg; cases hg; exact .imm (.val _)
      | nil =>
        intro g' hg
        simp only [renG] at hg
        cases vw with
        | true => cases hg
        | false => cases hg; exact .imm .nil
      | emp a c =>
        intro g' hg
        simp only [renG] at hg
        cases vw with
        | true => cases hg
        | false => cases hg; exact .imm (.emp a c)
      | sl n cells b off cap us h1 h2 h3 h4 h5 ih =>
        intro g' hg
        simp only [renG] at hg
        cases hvw : vw with
        | true => rw [hvw] at hg; cases hg
        | false => rw [hvw] at hg; cases hg; exact .imm (impo false (fun h => by rw [hvw] at h; cases h) (.sl n cells b off cap us h1 h2 h3 h4 h5))
      | ptr cells b off us h1 h2 h3 h4 ih =>
        intro g' hg
        simp only [renG] at hg
        cases hvw : vw with
        | true => rw [hvw] at hg; cases hg
        | false => rw [hvw] at hg; cases hg; exact .imm (impo false (fun h => by rw [hvw] at h; cases h) (.ptr cells b off us h1 h2 h3 h4))
      | agg cells us hl hr ih =>
        intro g' hg
        simp only [renG, Option.map_eq_some_iff] at hg
        obtain ⟨gs', h1, rfl⟩ := hg
        obtain ⟨h2, h3⟩ := renG_go h1
        refine .agg gs' us (by omega) fun j g v hg hv => ?_
        obtain ⟨g0, h4, h5⟩ := h3 j g hg
        exact ih j g0 v h4 hv h5
    induction hv generalizing g' with
    | imm h => exact imm h hg
    | fr h => cases hg; exact .fr (impo true (fun _ => rfl) h)
    | loc h off b m hm =>
      simp only [renG, Option.map_eq_some_iff] at hg
      obtain ⟨x, h1, rfl⟩ := hg
      exact .loc x off b m (by rw [hmu h1]; exact hm)
    | onil h sz hm =>
      simp only [renG, Option.map_eq_some_iff] at hg
      obtain ⟨x, h1, rfl⟩ := hg
      exact .onil x sz (by rw [hmu h1]; exact hm)
    | osl h sz off n b m cap hm hn hc =>
      simp only [renG, Option.map_eq_some_iff] at hg
      obtain ⟨x, h1, rfl⟩ := hg
      exact .osl x sz off n b m cap (by rw [hmu h1]; exact hm) hn hc
    | ozero h sz off0 b m hm hpos =>
      simp only [renG, Option.map_eq_some_iff] at hg
      obtain ⟨x, h1, rfl⟩ := hg
      exact .ozero x sz off0 b m (by rw [hmu h1]; exact hm) hpos
    | agg cells us hl hr ih =>
      simp only [renG, Option.map_eq_some_iff] at hg
      obtain ⟨gs', h1, rfl⟩ := hg
      obtain ⟨h2, h3⟩ := renG_go h1
      refine .agg gs' us (by omega) fun j g v hg hv => ?_
      obtain ⟨g0, h4, h5⟩ := h3 j g hg
      exact ih j g0 v h4 hv h5
    | tup cells us hl hr ih =>
      simp only [renG, Option.map_eq_some_iff] at hg
      obtain ⟨gs', h1, rfl⟩ := hg
      obtain ⟨h2, h3⟩ := renG_go h1
      refine .tup gs' us (by omega) fun j g v hg hv => ?_
      obtain ⟨g0, h4, h5⟩ := h3 j g hg
      exact ih j g0 v h4 hv h5
    | clo f caps us hl hr ih =>
      simp only [renG, Option.map_eq_some_iff] at hg
      obtain ⟨gs', h1, rfl⟩ := hg
      obtain ⟨h2, h3⟩ := renG_go h1
      refine .clo f gs' us (by omega) fun j g v hg hv => ?_
      obtain ⟨g0, h4, h5⟩ := h3 j g hg
      exact ih j g0 v h4 hv h5
    | yld h b m hm =>
      simp only [renG, Option.map_eq_some_iff] at hg
      obtain ⟨x, h1, rfl⟩ := hg
      exact .yld x b m (by rw [hmu h1]; exact hm)
  refine ⟨{ st := { blk := ?_, inj := ?_, out := ?_, pin := ?_, xlt := hst.xlt, hb := Nat.le_trans hst.hb hsz, os := hC.os.trans hst.os, tape := hC.tape.trans hst.tape, output := hC.output.trans hst.output, keep := ?_ }, nd := ?_, sz := hr.sz, fr := ?_ }, fun g g' v => ren, ?_, fun y h1 h2 => alive y h2 (.inr (.inl h1))⟩
  · intro y k2 h1
    rcases row y k2 h1 with ⟨j, k', k1, e1, e2, e3, e4⟩ | ⟨e0, k0, e1, e2, e3⟩
    · have hmy : muB μ μ'' st' bk y = μ'' j := by unfold muB; rw [e2]
      rw [hmy]
      have hbj := hC.blk j k' e1
      -- a block of the call's own?
      have hk1 : k1.mine = k'.mine := by
        unfold renB at e3
        cases hpp : k'.pure with
        | true =>
          rw [hpp, cond_true] at e3
          cases hvf : (vw && !k'.fresh) with
          | true => rw [hvf] at e3; cases e3
          | false => rw [hvf] at e3; cases e3; rfl
        | false =>
          rw [hpp, cond_false] at e3
          cases hgo : renG.go vw (bkH st' bk) k'.cells with
          | none => rw [hgo] at e3; cases e3
          | some cs => rw [hgo] at e3; cases e3; rfl
      have hmine : ∀ b m, μ'' j = some (b, m) → k2.mine = true → cx.base ≤ b := by
        intro b m hm hk2
        cases hl : k'.lp with
        | some lp =>
          rw [hl] at e4
          unfold mineBk at e4
          rw [show (some lp).isNone = false from rfl, cond_false] at e4
          subst e4
          rw [hm] at hbj
          have : w.heap.size ≤ b := hbj.heap.2 (hk1 ▸ hk2)
          have := hst.hb
          omega
        | none =>
        rw [hl] at e4
        unfold mineBk at e4
        rw [show (none : Option Lp).isNone = true from rfl, cond_true] at e4
        cases hp : pinned j with
        | true =>
          rw [hp, cond_true] at e4
          subst e4
          simp only [mineOf] at hk2
          have hH : H[j - 1000]? = some y := by
            rcases (bkOk_row hok e2).2.2.2 with ⟨_, e⟩ | ⟨e, _⟩
            · exact e
            · rw [hp] at e; cases e
          have hpin := hC.pin j k' e1 hp
          have hj : 1000 ≤ j := Nat.le_of_ble_eq_true hp
          have : μ'' j = μ y := by
            rw [hpin]
            have := muC_at (μ := μ) hH
            rw [show 1000 + (j - 1000) = j by omega] at this
            exact this
          cases hky : sget s.st y with
          | none => rw [hky] at hk2; cases hk2
          | some k0 =>
            rw [hky] at hk2
            have hb0 := hst.blk y k0 hky
            rw [← this, hm] at hb0
            exact hb0.heap.2 hk2
        | false =>
          rw [hp, cond_false] at e4
          subst e4
          simp only [Bool.or_eq_true] at hk2
          rcases hk2 with hk2 | hA
          · rw [hm] at hbj
            have : w.heap.size ≤ b := hbj.heap.2 (hk1 ▸ hk2)
            have := hst.hb
            omega
          · rcases (hC.out j k' b m e1 hm).2 with h5 | h5
            · have := hst.hb
              have h6 : w.heap.size ≤ b := h5
              omega
            · obtain ⟨i, h, k, m', q1, q2, q3⟩ := own_lent hls h5
              rcases mineAll_at hA q1 q2 with h7 | h7
              · have hb0 := hst.blk h k q2
                rw [q3] at hb0
                exact hb0.heap.2 h7
              · exfalso
                rw [Nat.zero_add] at h7
                obtain ⟨k'', h8⟩ := keysHas_get h7
                have h9 := hC.pin _ k'' h8 (pinned_add i)
                have h10 : μ'' (1000 + i) = some (b, m') := by
                  rw [h9]
                  exact (muC_at q1).trans q3
                have := hC.inj j (1000 + i) k' k'' b m m' e1 h8 hm h10
                rw [this, pinned_add] at hp
                cases hp
      have hloop : k'.lp ≠ none → k2 = k1 := by
        intro hl
        rw [e4]
        cases hlp : k'.lp with
        | none => exact absurd hlp hl
        | some lp => rfl
      have hfields : k2.ety = k1.ety ∧ k2.pure = k1.pure ∧ k2.fresh = k1.fresh ∧ k2.sz = k1.sz ∧ k2.cells = k1.cells ∧ k2.lp = k1.lp := by
        rw [e4]; unfold mineBk; cases k'.lp.isNone <;> cases pinned j <;> exact ⟨rfl, rfl, rfl, rfl, rfl, rfl⟩
      obtain ⟨f1, f2, f3, f4, f5, f6⟩ := hfields
      clear e4
      unfold renB at e3
      cases hpp : k'.pure with
      | true =>
        rw [hpp, cond_true] at e3
        cases hvf : (vw && !k'.fresh) with
        | true => rw [hvf] at e3; cases e3
        | false =>
          rw [hvf] at e3
          cases e3
          cases hm : μ'' j with
          | none => rw [hm] at hbj; exact ⟨f5.trans hbj.1, f6.trans hbj.2⟩
          | some bm =>
            obtain ⟨b, m⟩ := bm
            rw [hm] at hbj
            cases hl : k'.lp with
            | none =>
              obtain ⟨cs, h1, h2, h3, h4, h5, h6⟩ := hbj.cells hl
              refine .mk (f6.trans hl) ⟨cs, by rw [f1]; exact h1, h2, by rw [f5]; exact h3, hmine b m hm, by rw [f4]; exact h5, fun j' g hg => ?_⟩
              rw [f5] at hg
              obtain ⟨v, hv, hrv⟩ := h6 j' g hg
              refine ⟨v, hv, ?_⟩
              unfold RepC at hrv ⊢
              rw [f2, f3]
              simp only [hpp] at hrv ⊢
              exact impo k'.fresh (fun e => by rw [e] at hvf; simpa using hvf) hrv
            | some lp =>
              unfold RelBlk at hbj
              rw [hl] at hbj
              obtain ⟨D, vs, _, _, _, h4, _⟩ := hbj
              rw [hpp] at h4; cases h4
      | false =>
        rw [hpp, cond_false] at e3
        cases hgo : renG.go vw (bkH st' bk) k'.cells with
        | none => rw [hgo] at e3; cases e3
        | some cs' =>
          rw [hgo] at e3
          cases e3
          obtain ⟨q1, q2⟩ := renG_go hgo
          simp only at f1 f2 f3 f4 f5 f6
          cases hm : μ'' j with
          | none => rw [hm] at hbj; exact ⟨f5.trans (List.eq_nil_of_length_eq_zero (by rw [q1, hbj.1]; rfl)), f6.trans hbj.2⟩
          | some bm =>
            obtain ⟨b, m⟩ := bm
            rw [hm] at hbj
            cases hl : k'.lp with
            | none =>
              obtain ⟨cs, h1, h2, h3, h4, h5, h6⟩ := hbj.cells hl
              refine .mk (f6.trans hl) ⟨cs, by rw [f1]; exact h1, h2, by rw [f5]; omega, hmine b m hm, by rw [f4]; exact h5, fun j' g hg => ?_⟩
              rw [f5] at hg
              obtain ⟨g0, q3, q4⟩ := q2 j' g hg
              obtain ⟨v, hv, hrv⟩ := h6 j' g0 q3
              refine ⟨v, hv, ?_⟩
              unfold RepC at hrv ⊢
              rw [f2]
              simp only [hpp] at hrv ⊢
              exact ren hrv q4
            | some lp =>
              unfold RelBlk at hbj ⊢
              rw [f6, hl]
              rw [hl] at hbj
              obtain ⟨D, vs, h1, h2, h3, h4, h5⟩ := hbj
              have hk2 : k2.mine = false := by rw [hloop (by rw [hl]; exact fun h => by cases h)]; exact h3
              refine ⟨D, vs, h1, h2, hk2, f2, fun j' t g ht hg => ?_⟩
              rw [f5] at hg
              obtain ⟨g0, q3, q4⟩ := q2 j' g hg
              obtain ⟨v, hv, hrv⟩ := h5 j' t g0 ht q3
              exact ⟨v, hv, ren hrv q4⟩
    · subst e3
      have hmy : muB μ μ'' st' bk y = μ y := by unfold muB; rw [e0]
      rw [hmy]
      refine ((hst.blk y k0 e2).mono (fun b m hm => hkeep b (own_lt hst ⟨y, k0, m, e2, hm⟩) fun ho => ?_) hkept hOO).dead _ fun hp g hg x hx hh => alive x hx (.inr (.inr (notst x y k0 g e2 hp hg hh)))
      obtain ⟨i, h, k, m', q1, q2, q3⟩ := own_lent hls ho
      exact not_both hst q1 q2 q3 e1 e2 hm
  · intro y y' k2 k2' b m m' h1 h2 h3 h4
    rcases whr y k2 b m h1 h3 with ⟨j, k', e1, e2, e3⟩ | ⟨e0, e1, k0, e2, e3⟩ <;> rcases whr y' k2' b m' h2 h4 with ⟨j', k'', e1', e2', e3'⟩ | ⟨e0', e1', k0', e2', e3'⟩
    · have := hC.inj j j' k' k'' b m m' e2 e2' e3 e3'
      subst this
      have := (bkOk_row hok e1).2.2.1.symm.trans (bkOk_row hok e1').2.2.1
      exact Option.some.inj this
    · exfalso
      have hlt := own_lt hst ⟨y', k0', m', e2', e3'⟩
      rcases (hC.out j k' b m e2 e3).2 with h5 | h5
      · exact absurd hlt (Nat.not_lt.2 h5)
      · obtain ⟨i, h, k, m2, q1, q2, q3⟩ := own_lent hls h5
        exact not_both hst q1 q2 q3 e1' e2' e3'
    · exfalso
      have hlt := own_lt hst ⟨y, k0, m, e2, e3⟩
      rcases (hC.out j' k'' b m' e2' e3').2 with h5 | h5
      · exact absurd hlt (Nat.not_lt.2 h5)
      · obtain ⟨i, h, k, m2, q1, q2, q3⟩ := own_lent hls h5
        exact not_both hst q1 q2 q3 e1 e2 e3
    · exact hst.inj y y' k0 k0' b m m' e2 e2' e3 e3'
  · intro y k2 b m h1 h3
    rcases whr y k2 b m h1 h3 with ⟨j, k', e1, e2, e3⟩ | ⟨e0, e1, k0, e2, e3⟩
    · obtain ⟨h5, h6⟩ := hC.out j k' b m e2 e3
      refine ⟨fun hx => h5 (.inl hx), ?_⟩
      rcases h6 with h6 | h6
      · exact .inl (Nat.le_trans hst.hb h6)
      · obtain ⟨i, h, k, m2, q1, q2, q3⟩ := own_lent hls h6
        exact (hst.out h k b m2 q2 q3).2
    · exact hst.out y k0 b m e2 e3
  · intro y k2 h1 hp
    rcases row y k2 h1 with ⟨j, k', k1, e1, e2, e3, e4⟩ | ⟨e0, k0, e1, e2, e3⟩
    · rcases (bkOk_row hok e2).2.2.2 with ⟨e5, e6⟩ | ⟨_, e5, _⟩
      · have hj : 1000 ≤ j := Nat.le_of_ble_eq_true e5
        have h6 : muB μ μ'' st' bk y = μ'' j := by unfold muB; rw [e2]
        rw [h6, hC.pin j k' e1 e5]
        have h7 := muC_at (μ := μ) e6
        rw [show 1000 + (j - 1000) = j by omega] at h7
        obtain ⟨_, k0, hk0⟩ := lendSt_dom hls e6
        exact h7.trans (hst.pin y k0 hk0 hp)
      · rw [not_pinned e5] at hp; cases hp
    · have h6 : muB μ μ'' st' bk y = μ y := by unfold muB; rw [e0]
      rw [h6]
      exact hst.pin y k0 e2 hp
  · intro b hb hA
    rw [hkeep b (by have := hst.hb; omega) fun ho => ?_]
    · exact hst.keep b hb hA
    · obtain ⟨i, h, k, m, q1, q2, q3⟩ := own_lent hls ho
      rcases (hst.out h k b m q2 q3).2 with h4 | h4
      · omega
      · exact hA h4
  · refine (hr.nd.mono hkept hOO).remap fun g hg y hy => ?_
    have hd := List.all_eq_true.1 hdf g hg
    simp only [Bool.not_eq_true'] at hd
    refine alive y (fun hm => by rw [anyH_false hd y hm] at hy; cases hy) (.inr (.inr ?_))
    cases hf : fresh s y with
    | false => rfl
    | true => rw [dfNo_mem (fresh_spec hf).2.2.2.1 hg] at hy; cases hy
  · intro t g hg
    obtain ⟨g0, h1, rfl⟩ := get_deadFr hg
    obtain ⟨v, hv, hrv⟩ := hr.fr t g0 h1
    exact ⟨v, hv, deadG_spec (hrv.mono hkept hOO (Nat.le_refl _)) fun y hy hh => alive y hy (.inr (.inr (notfr y t g0 h1 hh)))⟩
  · intro W hW
    refine ⟨hsz, fun b hb hn => hkeep b hb fun ho => ?_, fun y k2 b m hy h1 h2 => ?_⟩
    · obtain ⟨i, h, k, m, q1, q2, q3⟩ := own_lent hls ho
      exact hn h k m (hW h (mem_of_idx q1)) q2 q3
    · rcases whr y k2 b m h1 h2 with ⟨j, k', e1, e2, e3⟩ | ⟨e0, e1, k0, e2, e3⟩
      · rcases (hC.out j k' b m e2 e3).2 with h6 | h6
        · exact .inr h6
        · obtain ⟨i, h, k, m2, q1, q2, q3⟩ := own_lent hls h6
          exact .inl ⟨h, k, m2, hW h (mem_of_idx q1), q2, q3⟩
      · exact .inl ⟨y, k0, m, hy, e2, e3⟩
end
end Go.AM
