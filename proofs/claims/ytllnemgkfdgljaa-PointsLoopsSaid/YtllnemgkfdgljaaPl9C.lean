/-
  PointsLoops: the row: for every input the law returns true, and each argument reads as it did.
-/
import Derived.Test.YtllnemgkfdgljaaPl9W
import Derived.Test.YtllnemgkfdgljaaLqP
import Derived.Test.YtllnemgkfdgljaaMgE
namespace Go.Proofs.Ytllnemgkfdgljaa.pointsLoops
open Go.ChangeShapes Go.WideShapes Go.ChangeAt Go.RowKit
open Go.AM
set_option maxRecDepth 20000
theorem own : ownKnob Try.prog.godebug = none := by kernel_rfl
theorem laid : laidOutB Try.prog = true := by kernel_rfl
theorem cells3 : Try.prog.cellsOf 3 = 1 := by kernel_rfl
theorem opens52 : Opens Try.prog 52 Go.DN.SRow Go.DN.okSRow := fun enc W base sp held fuel cs x h => by
 obtain ⟨xs, n, _, _, hl, hlen, hf⟩ := DataW.trod_struct Try.underlying52 h
 obtain ⟨a0, o0, r0⟩ := Opens.field hlen hf 0 rfl (Opens.slice Try.underlying22 cells3 (Opens.int Try.underlying3))
 obtain ⟨a1, o1, r1⟩ := Opens.field hlen hf 1 rfl (Opens.int Try.underlying3)
 exact ⟨⟨a0, a1⟩, ⟨o0, o1⟩, (r0.append rfl r1).all (hl.trans (show Try.prog.cellsOf 52 = 2 by kernel_rfl))⟩
theorem cells52 : Try.prog.cellsOf 52 = 2 := by kernel_rfl
theorem opens25 : Opens Try.prog 25 Go.DN.SPoints Go.DN.okSPoints := fun enc W base sp held fuel cs x h => by
 obtain ⟨xs, n, _, _, hl, hlen, hf⟩ := DataW.trod_struct Try.underlying25 h
 obtain ⟨a0, o0, r0⟩ := Opens.field hlen hf 0 rfl (Opens.slice Try.underlying22 cells3 (Opens.int Try.underlying3))
 obtain ⟨a1, o1, r1⟩ := Opens.field hlen hf 1 rfl (Opens.slice Try.underlying23 cells52 opens52)
 exact ⟨⟨a0, a1⟩, ⟨o0, o1⟩, (r0.append rfl r1).all (hl.trans (show Try.prog.cellsOf 25 = 2 by kernel_rfl))⟩
theorem readable25 : Try.prog.readableRec 25 = true ∧ 25 < Try.prog.types.size := ⟨by kernel_rfl, of_decide_eq_true (by kernel_rfl)⟩
theorem contract (H : Type) (enc : TypeId × Value → H) (W : World) (base : Nat) (args : Array Value) (ds gs : List (DataW H)) (before : List MemPlace)
    (hval : ∀ (j : Nat) t v, Try.f3.params[j]? = some t → args[j]? = some v → Value.okWide Try.prog W .any base t v)
    (hW : DataW.Whole enc Try.prog Try.f3.params.toList Rows.pointsLoopsSpec.vars false W args.toList ds gs before) :
    Calls Try.prog 3 args W fun e W' => ∃ v, e = .returned v ∧ Rows.pointsLoopsSpec.post enc Try.prog Try.f3 false true false false W args v W' := by
  have hW' := hW
  obtain ⟨p, q, hA0, hV, rfl, hfz, hnd⟩ := hW
  have hA : DataW.TrodAll enc Try.prog W 0 (fun _ => true) true Try.f3.params.toList args.toList ds p := hA0
  rw [Try.params3] at hA hval
  obtain ⟨v0, vs0, d0, ds0, p0, q0, hargs, rfl, rfl, h0, r0⟩ := trodAll_cons hA
  obtain ⟨rfl, rfl, rfl⟩ := trodAll_nil r0
  obtain rfl : args = #[v0] := by cases args; simp_all
  obtain ⟨x0, k0, a0⟩ := arg_agg opens25 Try.underlying25 (hval 0 25 v0 rfl rfl) h0
  obtain ⟨fu, hfu⟩ := Go.DN.pointsLoopsLaw x0 k0
  have hg := Go.DN.ConOk.law (Go.DN.c_adjointlaw9_PointsLoops_ok fu) (q := x0) (r := true) (gs := [.agg (Enc.cells x0)]) hfu (by kernel_rfl) (by kernel_rfl) (by kernel_rfl) (by kernel_rfl)
  refine (hg.calls W [v0] rfl fun j g v hg hv => ?_).mono fun e W' ⟨he, hS⟩ => ?_
  · match j, hg, hv with
    | 0, hg, hv => cases hg; cases hv; exact a0
    | j + 1, hg, hv => simp at hg
  · subst he
    exact ⟨_, rfl, post_law rfl (by kernel_rfl) Try.underlying4 laid (by rw [Try.params3]; exact List.forall_mem_cons.2 ⟨readable25, fun _ h => by cases h⟩) hW' hS (fun h => by subst h; rfl)⟩
set_option maxRecDepth 100000 in
theorem lifted (os : Os) (started : os.Started) (H : Type) (enc : TypeId × Value → H) :
  ReturnsInHanded {} Try.checked os 3 .any (Rows.pointsLoopsSpec.pre6 enc Try.prog Try.f3 Rows.pointsLoopsRow.domain false) (Rows.pointsLoopsSpec.post enc Try.prog Try.f3 false true false false) := by
 refine returnsInHanded_of_change (C := Try.checked) (s := Rows.pointsLoopsSpec) own started (by kernel_rfl) Try.func3
  (ChangeSpec.witness6 (enc := enc) (C := Try.checked) (s := Rows.pointsLoopsSpec) false ⟨#[], #[.agg #[.slice none 0 0, .slice none 0 0]], []⟩ 8 (by kernel_rfl) (by kernel_rfl) (by kernel_rfl) (by kernel_rfl)) ?_
 intro W base args ds gs before hval hW _ _
 exact contract H enc W base args ds gs before hval hW
theorem proved : Rows.PointsLoopsSaid :=
 OpenClaim.holds_of_wide 3 Try.f3 rfl rfl rfl rfl rfl rfl rfl ⟨rfl, rfl, rfl, rfl, rfl⟩ rfl rfl rfl rfl rfl (by kernel_rfl) Try.func3 (by kernel_rfl)
  (of_decide_eq_true (by kernel_rfl)) (by unfold Func.isWrapper; first | (rw [if_pos (by decide +kernel)]; kernel_rfl) | (rw [if_neg (by decide +kernel)]; exact ⟨rfl, rfl⟩))
  (fun os started H enc _ => lifted os started H enc)
end Go.Proofs.Ytllnemgkfdgljaa.pointsLoops
