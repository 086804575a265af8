/-
  GraphDims: the row: for every input the law returns true, and each argument reads as it did (inputs of bulk at most 1048576).
-/
import Derived.Test.YtongekoajbcliaaAnW
import Derived.Test.YtongekoajbcliaaGdP
import Derived.Test.YtongekoajbcliaaMgE
namespace Go.Proofs.Ytongekoajbcliaa.graphDims
open Go.ChangeShapes Go.WideShapes Go.ChangeAt Go.RowKit
open Go.AM Go.Proofs.Ytongekoajbcliaa.Up
open Go.Proofs.Ytongekoajbcliaa.Rows (uptoBulk uptoBulkAll uptoSmall)
set_option maxRecDepth 20000
theorem own : ownKnob Try.prog.godebug = none := by kernel_rfl
theorem laid : laidOutB Try.prog = true := by kernel_rfl
theorem cells3 : Try.prog.cellsOf 3 = 1 := by kernel_rfl
theorem opens38 : OpensU Try.prog 38 Go.DN.SOp Go.DN.okSOp := fun enc W base sp held fuel cs x h hu => by
 obtain ⟨xs, n, _, rfl, hl, hlen, hf⟩ := DataW.trod_struct Try.underlying38 h
 have hub : uptoBulkAll (xs.map (·.1)) ≤ 1048576 := by have := hu; simp only [uptoBulk] at this; omega
 obtain ⟨a0, o0, r0⟩ := OpensU.field hlen hf 0 rfl (OpensU.of (Opens.int Try.underlying3)) hub
 obtain ⟨a1, o1, r1⟩ := OpensU.field hlen hf 1 rfl (OpensU.slice Try.underlying23 cells3 (OpensU.of (Opens.int Try.underlying3))) hub
 obtain ⟨a2, o2, r2⟩ := OpensU.field hlen hf 2 rfl (OpensU.slice Try.underlying23 cells3 (OpensU.of (Opens.int Try.underlying3))) hub
 obtain ⟨a3, o3, r3⟩ := OpensU.field hlen hf 3 rfl (OpensU.slice Try.underlying23 cells3 (OpensU.of (Opens.int Try.underlying3))) hub
 obtain ⟨a4, o4, r4⟩ := OpensU.field hlen hf 4 rfl (OpensU.slice Try.underlying23 cells3 (OpensU.of (Opens.int Try.underlying3))) hub
 obtain ⟨a5, o5, r5⟩ := OpensU.field hlen hf 5 rfl (OpensU.slice Try.underlying23 cells3 (OpensU.of (Opens.int Try.underlying3))) hub
 obtain ⟨a6, o6, r6⟩ := OpensU.field hlen hf 6 rfl (OpensU.of (Opens.int Try.underlying2)) hub
 exact ⟨⟨a0, a1, a2, a3, a4, a5, a6⟩, ⟨o0, o1, o2, o3, o4, o5, o6⟩, (r0.append rfl (r1.append rfl (r2.append rfl (r3.append rfl (r4.append rfl (r5.append rfl r6)))))).all (hl.trans (show Try.prog.cellsOf 38 = 7 by kernel_rfl))⟩
theorem opens40 : OpensU Try.prog 40 Go.DN.SNode Go.DN.okSNode := fun enc W base sp held fuel cs x h hu => by
 obtain ⟨xs, n, _, rfl, hl, hlen, hf⟩ := DataW.trod_struct Try.underlying40 h
 have hub : uptoBulkAll (xs.map (·.1)) ≤ 1048576 := by have := hu; simp only [uptoBulk] at this; omega
 obtain ⟨a0, o0, r0⟩ := OpensU.field hlen hf 0 rfl opens38 hub
 obtain ⟨a1, o1, r1⟩ := OpensU.field hlen hf 1 rfl (OpensU.slice Try.underlying23 cells3 (OpensU.of (Opens.int Try.underlying3))) hub
 exact ⟨⟨a0, a1⟩, ⟨o0, o1⟩, (r0.append rfl r1).all (hl.trans (show Try.prog.cellsOf 40 = 8 by kernel_rfl))⟩
theorem cells40 : Try.prog.cellsOf 40 = 8 := by kernel_rfl
theorem opens25 : OpensU Try.prog 25 Go.DN.SGraph Go.DN.okSGraph := fun enc W base sp held fuel cs x h hu => by
 obtain ⟨xs, n, _, rfl, hl, hlen, hf⟩ := DataW.trod_struct Try.underlying25 h
 have hub : uptoBulkAll (xs.map (·.1)) ≤ 1048576 := by have := hu; simp only [uptoBulk] at this; omega
 obtain ⟨a0, o0, r0⟩ := OpensU.field hlen hf 0 rfl (OpensU.slice Try.underlying22 cells40 opens40) hub
 obtain ⟨a1, o1, r1⟩ := OpensU.field hlen hf 1 rfl (OpensU.slice Try.underlying23 cells3 (OpensU.of (Opens.int Try.underlying3))) hub
 exact ⟨⟨a0, a1⟩, ⟨o0, o1⟩, (r0.append rfl r1).all (hl.trans (show Try.prog.cellsOf 25 = 2 by kernel_rfl))⟩
theorem readable25 : Try.prog.readableRec 25 = true ∧ 25 < Try.prog.types.size := ⟨by kernel_rfl, of_decide_eq_true (by kernel_rfl)⟩
theorem contract (H : Type) (enc : TypeId × Value → H) (W : World) (base : Nat) (args : Array Value) (ds gs : List (DataW H)) (before : List MemPlace)
    (hval : ∀ (j : Nat) t v, Try.f3.params[j]? = some t → args[j]? = some v → Value.okWide Try.prog W .any base t v)
    (hW : DataW.Whole enc Try.prog Try.f3.params.toList Rows.graphDimsSpec.vars false W args.toList ds gs before) (hk : Rows.uptoSmall H (ds ++ gs) = true) :
    Calls Try.prog 3 args W fun e W' => ∃ v, e = .returned v ∧ Rows.graphDimsSpec.post enc Try.prog Try.f3 false true false false W args v W' := by
  have hW' := hW
  obtain ⟨p, q, hA0, hV, rfl, hfz, hnd⟩ := hW
  have hA : DataW.TrodAll enc Try.prog W 0 (fun _ => true) true Try.f3.params.toList args.toList ds p := hA0
  rw [Try.params3] at hA hval
  obtain ⟨v0, vs0, d0, ds0, p0, q0, hargs, rfl, rfl, h0, r0⟩ := trodAll_cons hA
  obtain ⟨rfl, rfl, rfl⟩ := trodAll_nil r0
  obtain rfl : args = #[v0] := by cases args; simp_all
  have hk2 := of_decide_eq_true hk
  obtain ⟨x0, k0, a0⟩ := argU_agg opens25 Try.underlying25 (hval 0 25 v0 rfl rfl) h0 (Nat.le_trans (bulk_mem (by simp)) hk2)
  obtain ⟨fu, hfu⟩ := Go.DN.graphDimsLaw x0 k0
  have hg := Go.DN.ConOk.law (Go.DN.c_adjointlaw5_GraphDims_ok fu) (q := x0) (r := true) (gs := [.agg (Enc.cells x0)]) hfu (by kernel_rfl) (by kernel_rfl) (by kernel_rfl) (by kernel_rfl)
  refine (hg.calls W [v0] rfl fun j g v hg hv => ?_).mono fun e W' ⟨he, hS⟩ => ?_
  · match j, hg, hv with
    | 0, hg, hv => cases hg; cases hv; exact a0
    | j + 1, hg, hv => simp at hg
  · subst he
    exact ⟨_, rfl, post_law rfl (by kernel_rfl) Try.underlying4 laid (by rw [Try.params3]; exact List.forall_mem_cons.2 ⟨readable25, fun _ h => by cases h⟩) hW' hS (fun h => by subst h; rfl)⟩
set_option maxRecDepth 100000 in
theorem lifted (os : Os) (started : os.Started) (H : Type) (enc : TypeId × Value → H) (F : Stop.Interp) :
  ReturnsInHanded {} Try.checked os 3 .any ((Rows.OpenSpec.upto Rows.graphDimsSpec).pre6 enc Try.prog Try.f3 Rows.graphDimsUptoRow.domain false) (((Rows.OpenSpec.upto Rows.graphDimsSpec).at F).post enc Try.prog Try.f3 false true false false) := by
 refine returnsInHanded_of_cond (C := Try.checked) (s := Rows.OpenSpec.upto Rows.graphDimsSpec) (k := Rows.uptoSmall) rfl own started (by kernel_rfl) Try.func3
  (OpenSpec.witness (enc := enc) (C := Try.checked) (s := Rows.OpenSpec.upto Rows.graphDimsSpec) (k := Rows.uptoSmall) rfl false ⟨#[], #[.agg #[.slice none 0 0, .slice none 0 0]], []⟩ 8 (by kernel_rfl) (by kernel_rfl) (by kernel_rfl)
   (x := ([.agg [.nil, .nil]], [], [])) (by kernel_rfl) rfl (by kernel_rfl)) ?_
 intro W base args ds gs before hval hW _ hk _
 exact contract H enc W base args ds gs before hval hW hk
theorem proved : Rows.GraphDimsUptoSaid :=
 OpenClaim.holds_of_cond 3 Try.f3 rfl rfl rfl rfl rfl rfl rfl ⟨rfl, rfl, rfl, rfl, rfl⟩ rfl rfl rfl rfl rfl (by kernel_rfl) Try.func3 (by kernel_rfl)
  (of_decide_eq_true (by kernel_rfl)) (by unfold Func.isWrapper; first | (rw [if_pos (by decide +kernel)]; kernel_rfl) | (rw [if_neg (by decide +kernel)]; exact ⟨rfl, rfl⟩))
  (fun os started H enc _ F => lifted os started H enc F)
end Go.Proofs.Ytongekoajbcliaa.graphDims
