/-
  AM, part Z: from a contract to what a row asks.
-/
import Derived.Test.YtimngflnekddpaaAmQ
import Derived.Test.YtimngflnekddpaaRows
import Derived.WalkKit
import Derived.ProofKit
import Derived.OpenShut
import Derived.JoinedCond
namespace Go.AM

/-- Nothing that was there has changed. -/
structure Same (W W' : World) : Prop where
  os : W'.os = W.os
  output : W'.output = W.output
  size : W.heap.size ≤ W'.heap.size
  heap : ∀ b, b < W.heap.size → W'.heap[b]? = W.heap[b]?

theorem Same.frame {W W' : World} (h : Same W W') (may : MemPlace → Prop) : W.keptBut W' may := by
  refine ⟨h.os, h.output, fun i hi => ?_⟩
  rw [h.heap i hi]
  cases W.heap[i]? with
  | none => exact rfl
  | some o => cases o <;> first | exact ⟨rfl, rfl, rfl, fun _ _ => rfl⟩ | exact .inr ⟨rfl, rfl⟩ | exact rfl

theorem rel_empty (W : World) (μ : Mu) : RelSt (cx0 (fun _ => False) [] μ W) μ [] W where
  blk := fun h k hk => by cases hk
  inj := fun h h' k k' b m m' hk => by cases hk
  out := fun h k b m hk => by cases hk
  xlt := fun b hb => hb.elim
  hb := Nat.le_refl _
  os := rfl
  tape := rfl
  output := rfl
  keep := fun _ _ _ => rfl

/-- What is read and never written. -/
def Arg (W : World) (g : G) (v : Value) : Prop := RepI (fun _ => False) W g v

theorem GM.calls {P : Program} {f : FuncId} {args : List G} {x : Value} (h : GM P f args [] (fun g st => g = .val x ∧ st = [])) (W : World) (vs : List Value) (hl : vs.length = args.length)
    (ha : ∀ (j : Nat) (g : G) (v : Value), args[j]? = some g → vs[j]? = some v → Arg W g v) : Calls P f vs.toArray W fun e W' => e = .returned x ∧ Same W W' := by
  refine (h (fun _ => False) (fun _ => none) W vs (fun _ h => h.elim) (rel_empty W _) hl (fun j g v hg hv => .imm ((ha j g v hg hv).mono (Kept.refl _ _) fun b _ _ ho => ?_))).mono fun e W' hp => ?_
  · rcases ho with ho | ⟨h, k, m, hk, _⟩
    · exact ho
    · cases hk
  · obtain ⟨v, r, st', μ', rfl, ⟨rfl, rfl⟩, hr, hv⟩ := hp
    cases hv with
    | imm hv => cases hv with
      | val => exact ⟨rfl, hr.os, hr.output, hr.hb, fun b hb => hr.keep b hb fun ⟨h, k, m, hk, _⟩ => by cases hk⟩

section
variable {H : Type} {enc : TypeId × Value → H} {P : Program}
open Go.ChangeShapes Go.WideShapes Go.ChangeAt Go.RowKit

theorem Same.frozen {W W' : World} (h : Same W W') (a : Addr) (ha : a.block < W.heap.size) : W'.frozen? a = W.frozen? a := by
  unfold World.frozen?
  rw [h.heap _ ha]

/-- The row's demand, where nothing that was there changed. -/
theorem post_of_kept {f : Func} {s : ChangeSpec} {apart fresh handsOn again : Bool} {W W' : World} {args : Array Value} {v : Value} {ds gs : List (DataW H)} {before pa pv : List MemPlace}
    (hW : DataW.Whole enc P f.params.toList s.vars apart W args.toList ds gs before) (hS : Same W W')
    (hres : ∀ (b : Nat) (sp : Nat → Bool) (hd : Bool), DataW.TrodAll enc P W' b sp hd f.resultTypes.toList (v.resultList f.resultTypes.size) (s.fn H (ds ++ gs)).results [])
    (hargs : ∀ sp : Nat → Bool, (∀ p ∈ before, sp p.block = true) → DataW.TrodAll enc P W' 0 sp true f.params.toList args.toList (s.fn H (ds ++ gs)).args pa)
    (hvars : ∀ sp : Nat → Bool, (∀ p ∈ before, sp p.block = true) → DataW.TrodVars enc P W' sp s.vars (s.fn H (ds ++ gs)).vars pv)
    (hps : before = pa ++ pv)
    (hok : ∀ (j : Nat) (t : TypeId) (r : Value), f.resultTypes[j]? = some t → (v.resultList f.resultTypes.size)[j]? = some r → Value.okWide P W' .any 0 t r) :
    s.post enc P f apart fresh handsOn again W args v W' := by
  have hlt := hW.lt
  have hold : ∀ p ∈ before, (fun b => decide (b < W.heap.size)) p.block = true := fun p hp => by simpa using hlt p hp
  obtain ⟨_, _, _, _, _, hz, hn⟩ := id hW
  subst hps
  refine ⟨ds, gs, pa ++ pv, [], pa, pv, hW, hres _ _ _, hargs _ hold, hvars _ hold, World.keptBut_mono (fun p hp => ⟨hp, .inr (by simpa using hp)⟩) (hS.frame _), fun _ => ⟨hok, _, _, ([] ++ pa) ++ pv, ⟨[] ++ pa, pv, trodAll_append (hargs _ (fun _ _ => rfl)) (hres _ _ _), hvars _ (fun _ _ => rfl), rfl, ?_, ?_⟩, ?_⟩⟩
  · intro b off hp
    have hp' : MemPlace.cell b off ∈ pa ++ pv := by simpa using hp
    rw [hS.frozen _ (hlt _ hp')]
    exact hz b off hp'
  · intro ha
    simpa using hn ha
  · intro p hp _
    simpa using hp
end
end Go.AM
