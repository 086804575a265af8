/-
  AM, part R: struct values put together; an empty slice written out; operations that were skipped.
-/
import Derived.Test.YtllnemgkfdgljaaAmQ
import Derived.Laws.Tables
set_option linter.unusedSectionVars false
set_option linter.unusedSimpArgs false
set_option linter.unusedVariables false
namespace Go.AM

section
variable {P : Program} {N : Nat} {cx : Cx} {Q : Exit → St → Prop} {s : St} {ops : Array Oper} {rest : List Oper}

theorem Rel.undef {μ : Mu} {a : Act} {w : World} {d : Nat} (h : Rel N cx μ s a w) (hN : d < N) : Rel N cx μ (s.put d (.tup [])) (a.put (some d) Go.undef) w :=
  h.put hN (.tup [] [] rfl fun j g v hg => by cases hg)

/-- An operation that its guard leaves out: its slot says so. -/
theorem GL.nou {d : Nat} {op : Op} {ty : TypeId} {pos : String} {after : Array Edge} {guard : Option (Nat × Bool)} (hw : wants ops s guard = some false) (hN : Nat.blt d N = true) (h : GL P N cx ops Q rest (s.put d (.tup []))) :
    GL P N cx ops Q (⟨some d, op, ty, pos, after, guard⟩ :: rest) s := by
  intro μ a w hr
  unfold wpListIn
  rw [if_neg (by rw [wants_spec hr hw]; simp)]
  refine ⟨fun _ _ => trivial, ?_⟩
  exact h μ _ w (hr.undef (by simpa [Nat.blt_eq] using hN))

theorem GH1.passu {W : List Nat} {fuel : Nat} {listed : Array Bool} (i : Nat) {o : Oper} {d : Nat} (hi : ops[i]? = some o) (hs : Region.noSelect ops = true) (hf : Region.free .any ops listed i = true)
    (hr : (Region.ready .any ops listed).contains i = true) (hw : wants ops s o.guard = some false) (hd : o.dst = some d) (hN : d < N)
    (h : GH1 P N cx ops Q W fuel (listed.setIfInBounds i true) (s.put d (.tup []))) : GH1 P N cx ops Q W (fuel + 1) listed s := by
  intro μ a w hrel
  refine wpAnyH_take (v := undef) hi hs hf hr (fun c a' w' h => lift_panic h) (.inr ⟨wants_spec hrel hw, rfl⟩) ⟨Nat.le_refl _, fun _ _ _ => rfl⟩ ?_
  rw [hd]
  exact h μ _ w (hrel.undef hN)
theorem GH2.passu {W : List Nat} {fuel : Nat} {listed : Array Bool} (i : Nat) {o : Oper} {d : Nat} (hi : ops[i]? = some o) (hs : Region.noSelect ops = true) (hf : Region.free .any ops listed i = true)
    (hr : (Region.ready .any ops listed).contains i = true) (hw : wants ops s o.guard = some false) (hd : o.dst = some d) (hN : d < N)
    (h : GH2 P N cx ops Q W fuel (listed.setIfInBounds i true) (s.put d (.tup []))) : GH2 P N cx ops Q W (fuel + 1) listed s := by
  intro ws Wb μ a w hrel hS hW
  refine wpAnyH_take (v := undef) hi hs hf hr (fun c a' w' h => lift_panic h) (.inr ⟨wants_spec hrel hw, rfl⟩) hS ?_
  rw [hd]
  exact h ws Wb μ _ w (hrel.undef hN) hS hW
end

section
variable {P : Program} {N : Nat} {cx : Cx} {s : St} {W : List Nat} {d : Nat}
variable {dst : Option Tmp} {ty : TypeId} {pos : String} {after : Array Edge} {guard : Option (Nat × Bool)}

/-- An empty slice written out. -/
theorem EF.buildSlice0 {t e : TypeId} {sz : Nat} {z : Value} {bt : Nat} (hd : Nat) (ht : P.underlying t = some (.slice e))
    (hi : (P.info? e).map (fun i => (i.zero, i.size, i.bytes)) = some (some z, sz, bt)) (hfr : fresh s hd = true) :
    Effect P W s ⟨some d, .buildSlice t 0 #[], ty, pos, after, guard⟩ (· = { fr := (d, .osl hd sz 0 0) :: s.fr, st := (hd, ⟨e, true, true, true, sz, [], none⟩) :: s.st, df := s.df }) := by
  refine Effect.of (s1 := { fr := s.fr, st := (hd, ⟨e, true, true, true, sz, [], none⟩) :: s.st, df := s.df }) (g := .osl hd sz 0 0) rfl (fun _ h => by cases h) ?_
  intro N cx μ a w hr
  obtain ⟨i, hi1, hi2⟩ := Option.map_eq_some_iff.1 hi
  simp only [Prod.mk.injEq] at hi2
  obtain ⟨hz, hs1, hb1⟩ := hi2
  obtain ⟨μ', w', rfl, h1, h2, h3⟩ := hr.allocNew (k := ⟨e, true, true, true, sz, [], none⟩) (cs := #[]) hfr rfl (by simp) (fun _ => by simp) (fun j g' hg' => by simp at hg') (fun _ g' hg' => by simp at hg') W
  refine ⟨_, μ', _, ?_, h1, .osl hd sz 0 0 _ _ 0 h2 (Nat.le_refl _) (by simp), h3⟩
  have hrun : (Instr.buildSlice t 0 #[]).run P w = .ok (.slice (some ⟨w.heap.size, 0, none⟩) 0 0) (w.alloc (.cells #[] e)) := by
    have e0 : (Array.range 0).map (fun _ => (default : Value)) = #[] := by apply Array.eq_empty_of_size_eq_zero; simp
    simp [Instr.buildSlice, run_underlying ht, sizeOf, typeInfo, hi1, Instr.fill, newRow]
    rw [e0]
  simp [execOp, hrun]

/-! ### A struct's parts -/

def setAt {α : Type} (cs : List α) (off : Nat) : List α → List α
  | [] => cs
  | x :: r => setAt (cs.set off x) (off + 1) r

def gfill (place : Nat → Option (Nat × Nat)) (cells : List G) : List (Nat × G) → Option (List G)
  | [] => some cells
  | (i, g) :: r => match place i with
    | some (off, size) => match gok g && (Nat.beq (gcells g).length size && Nat.ble (off + size) cells.length) with
      | true => gfill place (setAt cells off (gcells g)) r
      | false => none
    | none => none

def evp (s : St) : List (Nat × Operand) → Option (List (Nat × G))
  | [] => some []
  | (i, x) :: r => match ev s x, evp s r with
    | some g, some gs => some ((i, g) :: gs)
    | _, _ => none

def RepL (O : Nat → Prop) (base : Nat) (w : World) (μ : Mu) (gs : List G) (vs : List Value) : Prop := vs.length = gs.length ∧ ∀ (j : Nat) (g : G) (v : Value), gs[j]? = some g → vs[j]? = some v → RepV O base w μ g v

theorem RepL.set {O : Nat → Prop} {base : Nat} {w : World} {μ : Mu} {gs : List G} {vs : List Value} (h : RepL O base w μ gs vs) (off : Nat) {g : G} {v : Value} (hv : RepV O base w μ g v) : RepL O base w μ (gs.set off g) (vs.set off v) := by
  refine ⟨by simp [h.1], fun j g' v' h1 h2 => ?_⟩
  rw [List.getElem?_set] at h1 h2
  by_cases e : off = j
  · subst e
    rw [if_pos rfl] at h1 h2
    split at h1
    · split at h2
      · cases h1; cases h2; exact hv
      · cases h2
    · cases h1
  · rw [if_neg e] at h1 h2
    exact h.2 j g' v' h1 h2
theorem RepL.setAt {O : Nat → Prop} {base : Nat} {w : World} {μ : Mu} : ∀ (gp : List G) (vp : List Value) (off : Nat) {gs : List G} {vs : List Value}, RepL O base w μ gs vs → RepL O base w μ gp vp → RepL O base w μ (AM.setAt gs off gp) (AM.setAt vs off vp)
  | [], [], _, _, _, h, _ => h
  | [], _ :: _, _, _, _, _, h => by cases h.1
  | _ :: _, [], _, _, _, _, h => by cases h.1
  | g :: gp, v :: vp, off, _, _, h, hp => RepL.setAt gp vp (off + 1) (h.set off (hp.2 0 g v rfl rfl)) ⟨by have := hp.1; simpa using this, fun j g' v' h1 h2 => hp.2 (j + 1) g' v' h1 h2⟩
theorem setAt_length {α : Type} : ∀ (xs : List α) (off : Nat) (cs : List α), (setAt cs off xs).length = cs.length
  | [], _, _ => rfl
  | _ :: r, off, cs => by simp only [setAt, setAt_length r]; simp

theorem foldl_setAt (off : Nat) : ∀ (l : List Value) (k : Nat) (cs : Array Value), ((l.zipIdx k).foldl (fun cs (x : Value × Nat) => cs.setIfInBounds (off + x.2) x.1) cs).toList = setAt cs.toList (off + k) l
  | [], _, _ => rfl
  | x :: r, k, cs => by
    simp only [List.zipIdx_cons, List.foldl_cons, setAt]
    rw [foldl_setAt off r (k + 1)]
    simp [Nat.add_assoc]

theorem gfill_spec {O : Nat → Prop} {base : Nat} {w : World} {μ : Mu} {place : Nat → Option (Nat × Nat)} : ∀ (gp : List (Nat × G)) (vp : List (Nat × Value)) (gs : List G) (vs : Array Value) (out : List G),
    gfill place gs gp = some out → RepL O base w μ gs vs.toList → vp.length = gp.length → (∀ (j : Nat) (x : Nat × G) (y : Nat × Value), gp[j]? = some x → vp[j]? = some y → x.1 = y.1 ∧ RepV O base w μ x.2 y.2) →
    ∃ cs, Instr.fill place vs vp = some cs ∧ RepL O base w μ out cs.toList
  | [], [], gs, vs, out, h, hr, _, _ => by cases h; exact ⟨vs, rfl, hr⟩
  | [], _ :: _, _, _, _, _, _, hl, _ => by cases hl
  | _ :: _, [], _, _, _, _, _, hl, _ => by cases hl
  | (i, g) :: gp, (i', v) :: vp, gs, vs, out, h, hr, hl, hp => by
    obtain ⟨e, hv⟩ := hp 0 _ _ rfl rfl
    simp only at e hv
    subst e
    simp only [gfill] at h
    cases hpl : place i with
    | none => rw [hpl] at h; cases h
    | some os =>
      obtain ⟨off, size⟩ := os
      rw [hpl] at h
      simp only at h
      cases hc : gok g && (Nat.beq (gcells g).length size && Nat.ble (off + size) gs.length) with
      | false => rw [hc] at h; cases h
      | true =>
        rw [hc] at h
        simp only [Bool.and_eq_true] at hc
        obtain ⟨c1, c2, c3⟩ := hc
        have c2 := Nat.eq_of_beq_eq_true c2
        have c3 := Nat.le_of_ble_eq_true c3
        obtain ⟨d1, d2⟩ := hv.cells c1
        have hrl : RepL O base w μ (gcells g) v.cells.toList := by
          refine ⟨by rw [Array.length_toList]; exact d1, fun j g' v' h1 h2 => ?_⟩
          obtain ⟨u, hu, hru⟩ := d2 j g' h1
          rw [Array.getElem?_toList, hu] at h2
          cases h2
          exact hru
        have hrs := RepL.setAt _ _ off hr hrl
        have hvl : vs.size = gs.length := by rw [← hr.1, Array.length_toList]
        have hstep : Instr.fill place vs ((i, v) :: vp) = Instr.fill place (v.cells.zipIdx.foldl (fun cs (x : Value × Nat) => cs.setIfInBounds (off + x.2) x.1) vs) vp := by
          simp only [Instr.fill, hpl]
          rw [if_neg (by simp; omega)]
        rw [hstep]
        have hfold : (v.cells.zipIdx.foldl (fun cs (x : Value × Nat) => cs.setIfInBounds (off + x.2) x.1) vs).toList = AM.setAt vs.toList off v.cells.toList := by
          rw [← Array.foldl_toList, Array.toList_zipIdx]
          exact foldl_setAt off v.cells.toList 0 vs
        refine gfill_spec gp vp _ _ out h (by rw [hfold]; exact hrs) (by simpa using hl) fun j x y h1 h2 => hp (j + 1) x y h1 h2

theorem evp_spec {μ : Mu} {a : Act} {w : World} (h : Rel N cx μ s a w) : ∀ (l : List (Nat × Operand)) (gp : List (Nat × G)), evp s l = some gp →
    (l.map fun x => (x.1, a.eval x.2)).length = gp.length ∧ ∀ (j : Nat) (x : Nat × G) (y : Nat × Value), gp[j]? = some x → (l.map fun x => (x.1, a.eval x.2))[j]? = some y → x.1 = y.1 ∧ RepV (cx.O s.st μ) cx.base w μ x.2 y.2
  | [], gp, he => by cases he; exact ⟨rfl, fun j x y h => by cases h⟩
  | (i, x) :: r, gp, he => by
    simp only [evp] at he
    cases hx : AM.ev s x with
    | none => rw [hx] at he; cases he
    | some g =>
      rw [hx] at he
      cases hr : evp s r with
      | none => rw [hr] at he; cases he
      | some gs =>
        rw [hr] at he
        cases he
        obtain ⟨h1, h2⟩ := evp_spec h r gs hr
        refine ⟨by simpa using h1, fun j x' y h3 h4 => ?_⟩
        cases j with
        | zero => cases h3; cases h4; exact ⟨rfl, h.ev hx⟩
        | succ j => exact h2 j x' y h3 h4

theorem PY.build {t : TypeId} {parts : Array (Nat × Operand)} {fs : Array Field} {z : Value} {places : List (Nat × Nat)} {gp : List (Nat × G)} {out : List G} (ht : P.underlying t = some (.struct fs)) (hz : (P.info? t).map (·.zero) = some (some z))
    (hp : fs.toList.mapM (fun f => (P.info? f.type).map fun i => (f.offset, i.size)) = some places) (he : evp s parts.toList = some gp) (hf : gfill (places[·]?) (z.cells.toList.map .val) gp = some out) :
    PY P s ⟨dst, .build t parts, ty, pos, after, guard⟩ (.agg out) := fun N cx μ a w hr => by
  obtain ⟨it, h1, h2⟩ := Option.map_eq_some_iff.1 hz
  obtain ⟨h3, h4⟩ := evp_spec hr _ _ he
  obtain ⟨cs, h5, h6⟩ := gfill_spec (O := cx.O s.st μ) (base := cx.base) (w := w) (μ := μ) gp _ _ z.cells out hf ⟨by simp, fun j g v hg hv => by
    rw [List.getElem?_map, hv] at hg
    cases hg
    exact .imm (.val _)⟩ h3 h4
  have hb : ∀ w', (Instr.build t (parts.map fun (x : Nat × Operand) => (x.1, a.eval x.2))).run P w' = .ok (.agg cs) w' := fun w' => by
    refine Go.run_build w' t _ cs ?_
    unfold Program.built
    simp only [h1, ht, h2, hp]
    rw [Array.toList_map]
    have e : (fun x : Nat => places.toArray[x]?) = (fun x : Nat => places[x]?) := by funext x; simp
    rw [e]
    exact h5
  refine ⟨.agg cs, ?_, fun w' => ?_⟩
  · have := RepV.agg (O := cx.O s.st μ) (base := cx.base) (w := w) (μ := μ) out cs.toList h6.1 h6.2
    simpa using this
  · simp [execOp, hb]

theorem run_equal_bool {t : TypeId} (ht : P.underlying t = some .bool) (a b : Bool) (w : World) : (Op.equal t (.bool a) (.bool b)).run P w = .ok (a == b) w := by
  have e : ∃ n, Op.maxDepth = n + 1 := ⟨_, rfl⟩
  obtain ⟨n, e⟩ := e
  unfold Op.equal
  rw [e]
  simp [Op.equalIn, run_underlying ht]
/-- Two bools compared. -/
theorem PY.eqB {t t' : TypeId} {x y : Operand} {a b : Bool} (hx : ev s x = some (.val (.bool a))) (hy : ev s y = some (.val (.bool b))) (ht : P.underlying t = some .bool) :
    PY P s ⟨dst, .binOp .eql t x y t', ty, pos, after, guard⟩ (.val (.bool (a == b))) := fun _ _ _ _ _ hrel => by
  refine ⟨_, .imm (.val _), fun w' => ?_⟩
  simp [execOp, hrel.val hx, hrel.val hy, eqGuard, binOp, run_equal_bool ht]
theorem PY.neB {t t' : TypeId} {x y : Operand} {a b : Bool} (hx : ev s x = some (.val (.bool a))) (hy : ev s y = some (.val (.bool b))) (ht : P.underlying t = some .bool) :
    PY P s ⟨dst, .binOp .neq t x y t', ty, pos, after, guard⟩ (.val (.bool (!(a == b)))) := fun _ _ _ _ _ hrel => by
  refine ⟨_, .imm (.val _), fun w' => ?_⟩
  simp [execOp, hrel.val hx, hrel.val hy, eqGuard, binOp, run_equal_bool ht]
end
end Go.AM
